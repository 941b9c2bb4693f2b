/- The plain statement of DurableAllows. -/
import Derived.Test.YtghmkmpgfpkfmaaPt
import Derived.Test.YtghmkmpgfpkfmaaX52
import Derived.Test.YtghmkmpgfpkfmaaRd
namespace Go.Proofs.Ytghmkmpgfpkfmaa.X
open Go.RowKit Go.Proofs.YtghmkmpgfpkfmaaW.PrintWords
set_option linter.unusedVariables false
theorem allows_l0 (l0 : List (List Int)) (l1 : List S38) (l2 : List (List Int)) (ok : checkE l0 l1 = 0) (h0 : l0.length ≤ 1000) (h1 : l1.length ≤ 800) (h2 : l2.length = l0.length) : ∀ (d b : Nat), b + d = l0.length →
    Ev (fun k => estoversref11_Allows.l0 k l0 l1 l2 b) (alF (afterL l0 l1).2 (l2.drop b) b, 0)
  | 0, b, e => by
    refine Ev.step (fun k => by rw [estoversref11_Allows.l0]) ?_
    rw [List.drop_of_length_le (by omega)]
    exact Ev.neg (by omega) (Ev.now _)
  | d + 1, b, e => by
    refine Ev.step (fun k => by rw [estoversref11_Allows.l0]) ?_
    have hcl := chR_len l0 l1 b
    have he := has_ev (chR l0 l1 b) l2[b] (by omega)
    rw [List.drop_eq_getElem_cons (by omega), alF, choices_same (ok_of ok) b (by omega)]
    refine Ev.pos (by omega) (Ev.had (choicesR_val l0 l1 b (by omega) (by omega) ok (by omega) (by omega)) (Ev.pos (by omega) (Ev.pos (by omega) ?_)))
    rw [Int.toNat_natCast, rdL1 l2 b (by omega)]
    refine Ev.bind he ?_
    cases c : (chR l0 l1 b).any (fun c => eqB l2[b] c) with
    | true =>
      rw [Bool.true_and]
      refine Ev.pos rfl ?_
      rw [pl_wrap b (by omega)]
      exact allows_l0 l0 l1 l2 ok h0 h1 h2 d (b + 1) (by omega)
    | false =>
      rw [Bool.false_and]
      exact Ev.neg (by decide) (Ev.now _)
def alA (l0 : List (List Int)) (l1 : List S38) (l2 : List (List Int)) : Bool × Int := if checkE l0 l1 = 0 then (if l2.length = l0.length then (alF (afterL l0 l1).2 l2 0, 0) else (false, 0)) else (false, checkE l0 l1)
theorem allows_ev (l0 : List (List Int)) (l1 : List S38) (l2 : List (List Int)) (h0 : l0.length ≤ 1000) (h1 : l1.length ≤ 800) : Ev (fun k => estoversref11_Allows.f k l0 l1 l2) (alA l0 l1 l2) := by
  unfold estoversref11_Allows.f alA
  refine Ev.bind (check_ev l0 l1 (by omega) (by omega)) ?_
  by_cases c : checkE l0 l1 = 0
  · refine Ev.to (if_pos c) (Ev.pos c ?_)
    by_cases d : l2.length = l0.length
    · refine Ev.to (if_pos d) (Ev.pos (by omega) ?_)
      have := allows_l0 l0 l1 l2 c h0 h1 d l0.length 0 (by omega)
      rw [List.drop_zero] at this
      exact this
    · exact Ev.to (if_neg d) (Ev.neg (by omega) (Ev.now _))
  · exact Ev.to (if_neg c) (Ev.neg c (Ev.now _))
theorem allows_val (l0 : List (List Int)) (l1 : List S38) (l2 : List (List Int)) (h0 : l0.length ≤ 1000) (h1 : l1.length ≤ 800) : durable_Allows.f l0 l1 l2 = some (alA l0 l1 l2) := by
  unfold durable_Allows.f alA
  rw [if_pos ⟨by omega, by omega⟩, (after_iv l0 l1).1]
  by_cases c : checkE l0 l1 = 0
  · rw [if_neg (show ¬ checkE l0 l1 ≠ 0 from fun q => q c), if_pos c]
    by_cases d : l2.length = l0.length
    · rw [if_neg (show ¬ l2.length ≠ l0.length from fun q => q d), if_pos d]
    · rw [if_pos (show l2.length ≠ l0.length from d), if_neg d]
  · rw [if_pos (show checkE l0 l1 ≠ 0 from c), if_neg c]
end Go.Proofs.Ytghmkmpgfpkfmaa.X
namespace Go.Proofs.Ytghmkmpgfpkfmaa.Pure
open Go.RowKit Go.Proofs.Ytghmkmpgfpkfmaa.X Go.Proofs.YtghmkmpgfpkfmaaW.PrintWords
theorem DurableAllows : ∀ (s0 : S25) (l1 : List (List (Int))), G25 s0 → (Gl (Gl (fun n : Int => (Lit.int .u8 n).wf = true)) l1) → ∃ k, estoverslaw11_DurableAllows.f k s0.f0 s0.f1 l1 = some true := by
  rintro ⟨l0, l1⟩ l2 _ _
  refine Ev.rounds ?_
  show Ev (fun k => estoverslaw11_DurableAllows.f k l0 l1 l2) true
  unfold estoverslaw11_DurableAllows.f
  obtain ⟨c, hc, hs⟩ := small_ev l0 l1
  refine Ev.bind hc ?_
  cases c with
  | false => exact Ev.neg (by decide) (Ev.step (fun k => by rw [estoverslaw11_DurableAllows.j0]) (Ev.pos rfl awake_some))
  | true =>
    obtain ⟨h0, h1⟩ := hs rfl
    obtain ⟨d, hd, _⟩ := small_ev l2 []
    refine Ev.pos rfl (Ev.bind hd (Ev.step (fun k => by rw [estoverslaw11_DurableAllows.j0]) ?_))
    cases d with
    | false => exact Ev.pos rfl awake_some
    | true =>
      refine Ev.neg (by decide) (Ev.had (allows_val l0 l1 l2 (by omega) (by omega)) (Ev.bind (allows_ev l0 l1 l2 (by omega) (by omega)) ?_))
      exact Ev.pos (beq_self_eq_true _) (Ev.pos rfl awake_some)
end Go.Proofs.Ytghmkmpgfpkfmaa.Pure
