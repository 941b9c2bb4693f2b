/- The plain statement of DurableFlushed. -/
import Derived.Test.YtghmkmpgfpkfmaaPz
import Derived.Test.YtghmkmpgfpkfmaaX48
import Derived.Test.YtghmkmpgfpkfmaaRd
namespace Go.Proofs.Ytghmkmpgfpkfmaa.X
open Go.RowKit Go.Proofs.YtghmkmpgfpkfmaaW.PrintWords
set_option linter.unusedVariables false
theorem flu_l1 (l0 : List (List Int)) (l x : List S38) (hl : l.length ≤ 1000) (i : Nat) (hi : i < l.length) (hx : x.length ≤ 1000000) (R : Bool)
    (h : ∀ F, F = anyD l (rd_T38 l i).f1 (l.length - i) i → Ev (fun k => estoverslaw11_DurableFlushed.l0 k (if (rd_T38 l i).f0 = 1 ∧ F = false then x ++ [⟨2, (rd_T38 l i).f1, 0, []⟩] else x) (i + 1 : Nat) l0 l) R) : ∀ (d kk : Nat) (F : Bool), kk + d = l.length → (F || anyD l (rd_T38 l i).f1 d kk) = anyD l (rd_T38 l i).f1 (l.length - i) i → Ev (fun k => estoverslaw11_DurableFlushed.l1 k x i F kk l0 l) R
  | 0, kk, F, e, hF => by
    refine Ev.step (fun k => by rw [estoverslaw11_DurableFlushed.l1]) ?_
    have hh := h F (by rw [← hF, anyD, Bool.or_false])
    refine Ev.neg (by omega) (Ev.pos (by omega) (Ev.pos (by omega) ?_))
    rw [pl_wrap i (by omega)]
    by_cases c : (rd_T38 l i).f0 = 1
    · refine Ev.pos c ?_
      cases F with
      | true =>
        rw [if_neg (fun q => Bool.noConfusion q.2)] at hh
        exact Ev.pos rfl hh
      | false =>
        rw [if_pos ⟨c, rfl⟩] at hh
        exact Ev.neg (by decide) (Ev.pos (by omega) hh)
    · rw [if_neg (fun q => c q.1)] at hh
      exact Ev.neg c hh
  | d + 1, kk, F, e, hF => by
    refine Ev.step (fun k => by rw [estoverslaw11_DurableFlushed.l1]) ?_
    rw [anyD] at hF
    refine Ev.pos (by omega) ?_
    rw [pl_wrap kk (by omega)]
    cases F with
    | true =>
      refine Ev.pos rfl (flu_l1 l0 l x hl i hi hx R h d (kk + 1) true (by omega) ?_)
      rw [Bool.true_or] at hF ⊢; exact hF
    | false =>
      refine Ev.neg (by decide) (Ev.pos (by omega) ?_)
      by_cases c : (rd_T38 l kk).f0 = 2
      · refine Ev.pos c (Ev.pos (by omega) (Ev.pos (by omega) (flu_l1 l0 l x hl i hi hx R h d (kk + 1) _ (by omega) ?_)))
        rw [← hF, Bool.false_or]
        congr 1
        by_cases q : (rd_T38 l kk).f1 = (rd_T38 l i).f1
        · rw [decide_eq_true ⟨c, q⟩, beq_iff_eq.2 q]
        · rw [decide_eq_false (fun r => q r.2), beq_eq_false_iff_ne.2 q]
      · refine Ev.neg c (flu_l1 l0 l x hl i hi hx R h d (kk + 1) false (by omega) ?_)
        rw [← hF, decide_eq_false (show ¬ ((rd_T38 l kk).f0 = 2 ∧ (rd_T38 l kk).f1 = (rd_T38 l i).f1) from fun q => c q.1)]; rfl
theorem flu_end (l0 : List (List Int)) (l x : List S38) (h0 : l0.length ≤ 1000) (hx : x.length ≤ 700) (h : Done l0 (x ++ [⟨3, 0, 0, []⟩])) (hi : l.length ≤ 1000) : Ev (fun k => estoverslaw11_DurableFlushed.l0 k x l.length l0 l) true := by
  refine Ev.step (fun k => by rw [estoverslaw11_DurableFlushed.l0]) ?_
  have hl : (x ++ [(⟨3, 0, 0, []⟩ : S38)]).length ≤ 800 := by rw [List.length_append, List.length_singleton]; omega
  refine Ev.neg (by omega) (Ev.pos (by omega) (Ev.had rfl ?_))
  have e1 := latest_val l0 (x ++ [⟨3, 0, 0, []⟩]) (by omega) (by omega)
  have e2 := durable_val l0 (x ++ [⟨3, 0, 0, []⟩]) (by omega) (by omega)
  have e3 := images_val l0 (x ++ [⟨3, 0, 0, []⟩]) (by omega) (by omega)
  rw [if_pos h.ok] at e1 e2
  rw [h.fl] at e2
  rw [h.img] at e3
  have s1 := same_ev (allN l0 (x ++ [⟨3, 0, 0, []⟩]) (x ++ [(⟨3, 0, 0, []⟩ : S38)]).length) (by rw [allN_len]; omega)
  refine Ev.had e1 (Ev.had e2 (Ev.had e3 (Ev.pos rfl (Ev.pos rfl (Ev.pos rfl (Ev.pos rfl (Ev.bind s1 (Ev.pos rfl (Ev.pos (show (0 : Int) < ((1 : Nat) : Int) by decide) ?_)))))))))
  exact Ev.bind s1 (Ev.pos rfl awake_some)
theorem flu_l0 (l0 : List (List Int)) (l : List S38) (ok : checkE l0 l = 0) (h0 : l0.length ≤ 1000) (hl : l.length ≤ 300) : ∀ (d i : Nat) (x : List S38), i + d = l.length → FI l0 l i x → Ev (fun k => estoverslaw11_DurableFlushed.l0 k x i l0 l) true
  | 0, i, x, e, h => by
    obtain rfl : i = l.length := by omega
    obtain ⟨D, q, q1, _⟩ := h.ex
    exact flu_end l0 l x h0 (by rw [q, List.length_append]; omega) h.done (by omega)
  | d + 1, i, x, e, h => by
    refine Ev.step (fun k => by rw [estoverslaw11_DurableFlushed.l0]) ?_
    obtain ⟨D, q, q1, _⟩ := h.ex
    refine Ev.pos (by omega) (flu_l1 l0 l x (by omega) i (by omega) (by rw [q, List.length_append]; omega) true (fun F hF => ?_) d.succ i false (by omega) (by rw [Bool.false_or, show l.length - i = d.succ by omega]))
    refine flu_l0 l0 l ok h0 hl d (i + 1) _ (by omega) ?_
    have hs : (rd_T38 l i).f0 = 1 → (F = true ↔ 0 ≤ subN 2 l (rd_T38 l i).f1 l.length) := fun k1 => by
      rw [hF, anyD_iff, sub2_from (ok_of ok) (by omega) (Nat.le_refl _) k1, show i + (l.length - i) = l.length by omega]
    by_cases c : (rd_T38 l i).f0 = 1 ∧ F = false
    · rw [if_pos c]
      refine h.more ok (by omega) c.1 ?_
      by_cases r : 0 ≤ subN 2 l (rd_T38 l i).f1 l.length
      · have := (hs c.1).2 r
        rw [c.2] at this; cases this
      · omega
    · rw [if_neg c]
      refine h.skip (fun _ k1 => ?_)
      have r := (hs k1).1 (by cases F with | true => rfl | false => exact absurd ⟨k1, rfl⟩ c)
      have := subN_mono 2 x (rd_T38 l i).f1 l.length (x.length - l.length) (by rw [q, sub_app 2 l D _ _ (Nat.le_refl _)]; exact r)
      rw [show l.length + (x.length - l.length) = x.length by rw [q, List.length_append]; omega] at this
      rw [this, q, sub_app 2 l D _ _ (Nat.le_refl _)]; exact r
end Go.Proofs.Ytghmkmpgfpkfmaa.X
namespace Go.Proofs.Ytghmkmpgfpkfmaa.Pure
open Go.RowKit Go.Proofs.Ytghmkmpgfpkfmaa.X Go.Proofs.YtghmkmpgfpkfmaaW.PrintWords
theorem DurableFlushed : ∀ (s0 : S25), G25 s0 → ∃ k, estoverslaw11_DurableFlushed.f k s0.f0 s0.f1 = some true := by
  rintro ⟨l0, l1⟩ _
  refine Ev.rounds ?_
  show Ev (fun k => estoverslaw11_DurableFlushed.f k l0 l1) true
  unfold estoverslaw11_DurableFlushed.f
  obtain ⟨c, hc, hs⟩ := small_ev l0 l1
  refine Ev.bind hc ?_
  cases c with
  | false => exact Ev.neg (by decide) (Ev.step (fun k => by rw [estoverslaw11_DurableFlushed.j0]) (Ev.pos rfl awake_some))
  | true =>
    obtain ⟨h0, h1⟩ := hs rfl
    refine Ev.pos rfl (Ev.bind (check_ev l0 l1 (by omega) (by omega)) (Ev.step (fun k => by rw [estoverslaw11_DurableFlushed.j0]) ?_))
    by_cases c : checkE l0 l1 = 0
    · refine Ev.neg (by rw [c]; decide) (Ev.had rfl (Ev.pos (by simp; omega) ?_))
      rw [List.nil_append]
      exact flu_l0 l0 l1 c (by omega) (by omega) l1.length 0 l1 (by omega) (FI.first c)
    · exact Ev.pos (bne_iff_ne.2 c) awake_some
end Go.Proofs.Ytghmkmpgfpkfmaa.Pure
