/- Plain laws of chapter 11: small histories; the example. -/
import Derived.Test.YtghmkmpgfpkfmaaPm
import Derived.Test.YtghmkmpgfpkfmaaX23
namespace Go.Proofs.Ytghmkmpgfpkfmaa.X
open Go.RowKit Go.Proofs.YtghmkmpgfpkfmaaW.PrintWords Go.Proofs.YtghmkmpgfpkfmaaW.PrintLast Go.Proofs.YtghmkmpgfpkfmaaW.PrintMore
set_option linter.unusedVariables false
set_option linter.unusedSimpArgs false

theorem few_l1 (l0 : List (List Int)) (l1 : List S38) (hl : l1.length ≤ 1000000) : ∀ (d i : Nat), i + d = l1.length → ∃ b, Ev (fun k => estoversref11_Few.l1 k i l0 l1) b
  | 0, i, h => ⟨true, Ev.step (fun k => by rw [estoversref11_Few.l1]) (Ev.neg (by omega) (Ev.now _))⟩
  | d + 1, i, h => by
    by_cases c : (((rd_T38 l1 i).f3).length : Int) > 100
    · exact ⟨false, Ev.step (fun k => by rw [estoversref11_Few.l1]) (Ev.pos (by omega) (Ev.pos (by omega) (Ev.pos c (Ev.now _))))⟩
    · obtain ⟨b, hb⟩ := few_l1 l0 l1 hl d (i + 1) (by omega)
      refine ⟨b, Ev.step (fun k => by rw [estoversref11_Few.l1]) (Ev.pos (by omega) (Ev.pos (by omega) (Ev.neg c ?_)))⟩
      rw [pl_wrap i (by omega)]; exact hb
theorem few_l0 (l0 : List (List Int)) (l1 : List S38) (h0 : l0.length ≤ 1000000) (hl : l1.length ≤ 1000000) : ∀ (d i : Nat), i + d = l0.length → ∃ b, Ev (fun k => estoversref11_Few.l0 k i l0 l1) b
  | 0, i, h => by
    obtain ⟨b, hb⟩ : ∃ b, Ev (fun k => estoversref11_Few.l1 k 0 l0 l1) b := few_l1 l0 l1 hl l1.length 0 (by omega)
    refine ⟨b, Ev.step (fun k => by rw [estoversref11_Few.l0]) ?_⟩
    exact Ev.neg (by omega) hb
  | d + 1, i, h => by
    by_cases c : ((rd_L1 l0 i).length : Int) > 100
    · exact ⟨false, Ev.step (fun k => by rw [estoversref11_Few.l0]) (Ev.pos (by omega) (Ev.pos (by omega) (Ev.pos c (Ev.now _))))⟩
    · obtain ⟨b, hb⟩ := few_l0 l0 l1 h0 hl d (i + 1) (by omega)
      refine ⟨b, Ev.step (fun k => by rw [estoversref11_Few.l0]) (Ev.pos (by omega) (Ev.pos (by omega) (Ev.neg c ?_)))⟩
      rw [pl_wrap i (by omega)]; exact hb
theorem few_ev (l0 : List (List Int)) (l1 : List S38) (n m : Nat) (hn : n ≤ 1000) (hm : m ≤ 1000) : ∃ b, Ev (fun k => estoversref11_Few.f k l0 l1 n m) b ∧ (b = true → l0.length ≤ n ∧ l1.length ≤ m) := by
  unfold estoversref11_Few.f
  by_cases c : (l0.length : Int) > n
  · exact ⟨false, Ev.pos c (Ev.step (fun k => by rw [estoversref11_Few.j0]) (Ev.pos rfl (Ev.now _))), fun h => by cases h⟩
  · by_cases d : (l1.length : Int) > m
    · exact ⟨false, Ev.neg c (Ev.step (fun k => by rw [estoversref11_Few.j0]) (Ev.pos (decide_eq_true d) (Ev.now _))), fun h => by cases h⟩
    · obtain ⟨b, hb⟩ : ∃ b, Ev (fun k => estoversref11_Few.l0 k 0 l0 l1) b := few_l0 l0 l1 (by omega) (by omega) l0.length 0 (by omega)
      refine ⟨b, Ev.neg c (Ev.step (fun k => by rw [estoversref11_Few.j0]) ?_), fun _ => ⟨by omega, by omega⟩⟩
      exact Ev.neg (show ¬ decide ((l1.length : Int) > m) = true by simpa using d) hb
theorem small_ev (l0 : List (List Int)) (l1 : List S38) : ∃ b, Ev (fun k => estoverslaw11_few.f k l0 l1) b ∧ (b = true → l0.length ≤ 6 ∧ l1.length ≤ 24) := by
  obtain ⟨b, hb, hc⟩ := few_ev l0 l1 6 24 (by decide) (by decide)
  unfold estoverslaw11_few.f
  exact ⟨b, Ev.bind hb (Ev.now _), hc⟩
theorem awake_ev : Ev (fun k => estoverslaw11_awake.f k) true := Ev.now _
theorem awake_some : Ev (fun k => (estoverslaw11_awake.f k).bind fun t => some t) true := Ev.bind awake_ev (Ev.now _)
end Go.Proofs.Ytghmkmpgfpkfmaa.X
