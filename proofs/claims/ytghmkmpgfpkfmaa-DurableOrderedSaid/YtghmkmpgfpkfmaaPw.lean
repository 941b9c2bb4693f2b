/- Plain laws of chapter 11: which contents a block may have behind a flush. -/
import Derived.Test.YtghmkmpgfpkfmaaPz
import Derived.Test.YtghmkmpgfpkfmaaX40
namespace Go.Proofs.Ytghmkmpgfpkfmaa.X
open Go.RowKit Go.Proofs.YtghmkmpgfpkfmaaW.PrintWords
set_option linter.unusedVariables false
/-- A write to the block with a content, that was not complete before event c. -/
def Wit (l : List S38) (blk : Int) (x : List Int) (c i : Nat) : Prop := i < l.length ∧ (rd_T38 l i).f0 = 1 ∧ (rd_T38 l i).f2 = blk ∧ (rd_T38 l i).f3 = x ∧ ∀ j : Nat, i ≤ j → j < c → ¬ ((rd_T38 l j).f0 = 2 ∧ (rd_T38 l j).f1 = (rd_T38 l i).f1)
theorem set_l2 (l : List S38) (x : List Int) (c i : Nat) (hl : l.length ≤ 1000) (hi : i < l.length) (hc : c ≤ l.length) (w0 w1 w2 : Int) (w3 : List Int) : ∀ (d kk : Nat) (F : Bool), (kk + d = c ∨ (d = 0 ∧ c ≤ kk)) →
    ((F || anyD l (rd_T38 l i).f1 d kk) = true → Ev (fun k => estoverslaw11_settled.l1 k l x c (i + 1 : Nat) w0 w1 w2 w3) true) → Ev (fun k => estoverslaw11_settled.l2 k l x c i F kk w0 w1 w2 w3) true
  | 0, kk, F, e, h => by
    refine Ev.step (fun k => by rw [estoverslaw11_settled.l2]) ?_
    refine Ev.neg (by omega) ?_
    cases F with
    | true =>
      refine Ev.pos rfl ?_
      rw [pl_wrap i (by omega)]
      exact h (Bool.true_or _)
    | false => exact Ev.neg (by decide) (Ev.now _)
  | d + 1, kk, F, e, h => by
    refine Ev.step (fun k => by rw [estoverslaw11_settled.l2]) ?_
    rw [anyD] at h
    refine Ev.pos (by omega) ?_
    rw [pl_wrap kk (by omega)]
    cases F with
    | true =>
      exact Ev.pos rfl (set_l2 l x c i hl hi hc w0 w1 w2 w3 d (kk + 1) true (by omega) (fun _ => h (Bool.true_or _)))
    | false =>
      refine Ev.neg (by decide) (Ev.pos (by omega) (Ev.pos (by omega) ?_))
      rw [Bool.false_or] at h
      by_cases q : (rd_T38 l kk).f0 = 2
      · refine Ev.pos q (Ev.pos (by omega) (Ev.pos (by omega) (set_l2 l x c i hl hi hc w0 w1 w2 w3 d (kk + 1) _ (by omega) (fun r => h ?_))))
        rw [← r]
        congr 1
        by_cases q2 : (rd_T38 l kk).f1 = (rd_T38 l i).f1
        · rw [decide_eq_true ⟨q, q2⟩, beq_iff_eq.2 q2]
        · rw [decide_eq_false (fun r => q2 r.2), beq_eq_false_iff_ne.2 q2]
      · refine Ev.neg q (set_l2 l x c i hl hi hc w0 w1 w2 w3 d (kk + 1) false (by omega) (fun r => h ?_))
        rw [decide_eq_false (show ¬ ((rd_T38 l kk).f0 = 2 ∧ (rd_T38 l kk).f1 = (rd_T38 l i).f1) from fun r => q r.1)]; exact r
theorem set_l1 (l : List S38) (x : List Int) (c : Nat) (hl : l.length ≤ 1000) (hc : c ≤ l.length) (w0 w1 w2 : Int) (w3 : List Int) : ∀ (d i : Nat), i + d = l.length → (∃ t, i ≤ t ∧ Wit l w2 x c t) → Ev (fun k => estoverslaw11_settled.l1 k l x c i w0 w1 w2 w3) true
  | 0, i, e, ⟨t, h, w⟩ => by have := w.1; omega
  | d + 1, i, e, ⟨t, h, w⟩ => by
    refine Ev.step (fun k => by rw [estoverslaw11_settled.l1]) ?_
    refine Ev.pos (by omega) (Ev.pos (by omega) ?_)
    have next : t ≠ i → Ev (fun k => estoverslaw11_settled.l1 k l x c (i + 1 : Nat) w0 w1 w2 w3) true := fun q => set_l1 l x c hl hc w0 w1 w2 w3 d (i + 1) (by omega) ⟨t, by omega, w⟩
    have skip : t ≠ i → Ev (fun k => estoverslaw11_settled.j3 k l x c i true w0 w1 w2 w3) true := fun q => by
      refine Ev.step (fun k => by rw [estoverslaw11_settled.j3]) (Ev.pos rfl ?_)
      rw [pl_wrap i (by omega)]; exact next q
    by_cases c1 : (rd_T38 l i).f0 = 1
    · refine Ev.pos c1 ?_
      by_cases c2 : (rd_T38 l i).f2 = w2
      · refine Ev.pos c2 ?_
        by_cases c3 : (strOfNums (rd_T38 l i).f3).toList = (strOfNums x).toList
        · have e3 : ((strOfNums (rd_T38 l i).f3).toList != (strOfNums x).toList) = false := bne_eq_false_iff_eq.2 c3
          rw [e3]
          refine Ev.step (fun k => by rw [estoverslaw11_settled.j3]) (Ev.neg (by decide) ?_)
          refine set_l2 l x c i hl (by omega) hc w0 w1 w2 w3 (c - i) i false (by omega) (fun r => ?_)
          refine next (fun q => ?_)
          subst q
          rw [Bool.false_or, anyD_iff] at r
          obtain ⟨j, j1, j2, j3⟩ := r
          exact w.2.2.2.2 j j1 (by omega) j3
        · have e3 : ((strOfNums (rd_T38 l i).f3).toList != (strOfNums x).toList) = true := bne_iff_ne.2 c3
          rw [e3]
          exact skip (fun q => c3 (by rw [← q, w.2.2.2.1]))
      · exact Ev.neg c2 (skip (fun q => c2 (by rw [← q, w.2.2.1])))
    · exact Ev.neg c1 (skip (fun q => c1 (by rw [← q, w.2.1])))
def wS (l : List S38) (s j : Nat) : S38 := if s < j then rd_T38 l s else ⟨0, 0, 0, []⟩
def atS (l : List S38) (c j : Nat) : Int := if c < j then (c : Int) else l.length
theorem set_l0 {l0 : List (List Int)} {l : List S38} (ok : Ok l0 l) (hl : l.length ≤ 1000) (a : Int) (x : List Int) (s c : Nat) (hs : subN 1 l a l.length = s) (hc : subN 2 l a l.length = c) (w : ∃ t, Wit l (rd_T38 l s).f2 x c t) : ∀ (d j : Nat), j + d = l.length →
    Ev (fun k => estoverslaw11_settled.l0 k l a x (atS l c j) j (wS l s j).f0 (wS l s j).f1 (wS l s j).f2 (wS l s j).f3) true
  | 0, j, e => by
    have hs1 := subN_lt 1 l a l.length
    have hc1 := subN_lt 2 l a l.length
    have ew : wS l s j = rd_T38 l s := by unfold wS; rw [if_pos (by omega)]
    have ea : atS l c j = c := by unfold atS; rw [if_pos (by omega)]
    rw [ew, ea]
    refine Ev.step (fun k => by rw [estoverslaw11_settled.l0]) ?_
    refine Ev.neg (by omega) ?_
    by_cases q : (strOfNums x).toList = (strOfNums (rd_T38 l s).f3).toList
    · exact Ev.pos q (Ev.now _)
    · obtain ⟨t, w⟩ := w
      exact Ev.neg q (set_l1 l x c hl (by omega) _ _ _ _ l.length 0 (by omega) ⟨t, by omega, w⟩)
  | d + 1, j, e => by
    refine Ev.step (fun k => by rw [estoverslaw11_settled.l0]) ?_
    have ih := set_l0 ok hl a x s c hs hc w d (j + 1) (by omega)
    obtain ⟨ids, iv⟩ := ok.iv
    have key1 : (rd_T38 l j).f1 = a → (rd_T38 l j).f0 = 1 → j = s := fun q1 q2 => by
      have := iv.own j (by omega) q2
      rw [q1, hs] at this; omega
    have key2 : (rd_T38 l j).f1 = a → (rd_T38 l j).f0 = 2 → j = c := fun q1 q2 => by
      have h1 := (ok.done (by omega) q2).2
      rw [q1] at h1
      have h2 : subN 2 l a (j + 1) = j := by rw [subN, if_neg (by omega), if_pos ⟨by omega, q2, q1⟩]
      have h3 := subN_mono 2 l a (j + 1) (l.length - (j + 1)) (by omega)
      rw [show j + 1 + (l.length - (j + 1)) = l.length by omega, h2, hc] at h3
      omega
    obtain ⟨s', s0, s1, s2, s3, s4⟩ := subN_at 1 l a l.length (by omega)
    obtain ⟨c', c0, c1, c2, c3, c4⟩ := subN_at 2 l a l.length (by omega)
    obtain rfl : s' = s := by omega
    obtain rfl : c' = c := by omega
    have w1 : j ≠ s' → wS l s' (j + 1) = wS l s' j := fun q => by
      unfold wS
      by_cases r : s' < j
      · rw [if_pos r, if_pos (by omega)]
      · rw [if_neg r, if_neg (by omega)]
    have w2 : j = s' → wS l s' (j + 1) = rd_T38 l j := fun q => by unfold wS; rw [if_pos (by omega), q]
    have a1 : j ≠ c' → atS l c' (j + 1) = atS l c' j := fun q => by
      unfold atS
      by_cases r : c' < j
      · rw [if_pos r, if_pos (by omega)]
      · rw [if_neg r, if_neg (by omega)]
    have a2 : j = c' → atS l c' (j + 1) = j := fun q => by unfold atS; rw [if_pos (by omega), q]
    refine Ev.pos (by omega) (Ev.pos (by omega) ?_)
    by_cases q1 : (rd_T38 l j).f1 = a
    · refine Ev.pos q1 (Ev.step (fun k => by rw [estoverslaw11_settled.j1]) ?_)
      by_cases q2 : (rd_T38 l j).f0 = 1
      · refine Ev.pos (beq_iff_eq.2 q2) (Ev.pos (by omega) (Ev.pos (by omega) (Ev.pos q1 (Ev.neg (by rw [q2]; decide) ?_))))
        rw [pl_wrap j (by omega)]
        have j1 := key1 q1 q2
        have j2 : j ≠ c' := fun r => by rw [r, c3] at q2; exact absurd q2 (by decide)
        rw [w2 j1, a1 j2] at ih
        exact ih
      · refine Ev.neg (fun r => q2 (beq_iff_eq.1 r)) (Ev.pos (by omega) (Ev.pos (by omega) (Ev.pos q1 ?_)))
        rw [pl_wrap j (by omega)]
        have j1 : j ≠ s' := fun r => q2 (by rw [r, s3])
        rw [w1 j1] at ih
        by_cases q3 : (rd_T38 l j).f0 = 2
        · rw [a2 (key2 q1 q3)] at ih
          exact Ev.pos q3 ih
        · rw [a1 (fun r => q3 (by rw [r, c3]))] at ih
          exact Ev.neg q3 ih
    · refine Ev.neg q1 (Ev.step (fun k => by rw [estoverslaw11_settled.j1]) (Ev.neg (by decide) (Ev.pos (by omega) (Ev.pos (by omega) (Ev.neg q1 ?_)))))
      rw [pl_wrap j (by omega)]
      rw [w1 (fun r => q1 (by rw [r, s4])), a1 (fun r => q1 (by rw [r, c4]))] at ih
      exact ih
theorem settled_ev {l0 : List (List Int)} {l : List S38} (ok : Ok l0 l) (hl : l.length ≤ 1000) (a : Int) (x : List Int) (s c : Nat) (hs : subN 1 l a l.length = s) (hc : subN 2 l a l.length = c) (w : ∃ t, Wit l (rd_T38 l s).f2 x c t) : Ev (fun k => estoverslaw11_settled.f k l a x) true := by
  have := set_l0 ok hl a x s c hs hc w l.length 0 (by omega)
  exact this
theorem last_from (l : List S38) (blk : Int) (c : Nat) (h2 : (rd_T38 l c).f0 = 2) (hb : (wrN l c).f2 = blk) : ∀ m, c < m → ∃ j : Nat, c ≤ j ∧ j < m ∧ (rd_T38 l j).f0 = 2 ∧ (wrN l j).f2 = blk ∧ lastN l blk m = some (wrN l j).f3
  | 0, h => by omega
  | m + 1, h => by
    by_cases q : (rd_T38 l m).f0 = 2 ∧ (wrN l m).f2 = blk
    · exact ⟨m, by omega, by omega, q.1, q.2, by rw [lastN, if_pos q]⟩
    · by_cases r : c = m
      · subst r; exact absurd ⟨h2, hb⟩ q
      · obtain ⟨j, j1, j2, j3⟩ := last_from l blk c h2 hb m (by omega)
        exact ⟨j, j1, by omega, j3.1, j3.2.1, by rw [lastN, if_neg q]; exact j3.2.2⟩
theorem flE_ge (l : List S38) (p : Nat) (h : (rd_T38 l p).f0 = 3) : ∀ m, p < m → p < flE l m
  | 0, h => by omega
  | m + 1, hm => by
    rw [flE]
    split
    · omega
    · rename_i q
      refine flE_ge l p h m ?_
      by_cases r : p = m
      · subst r; exact absurd h q
      · omega
/-- Behind a completion of a write to the block, at c, and a flush behind that, at p, each possible content is one of a write that was not complete before c. -/
theorem behind {l0 : List (List Int)} {l : List S38} (ok : Ok l0 l) (b c p : Nat) (hp : p < l.length) (hcp : c ≤ p) (h3 : (rd_T38 l p).f0 = 3) (h2 : (rd_T38 l c).f0 = 2) (hb : (wrN l c).f2 = b) : ∀ x ∈ chR l0 l b, ∃ i, Wit l b x c i := by
  intro x hx
  have hcne : c ≠ p := fun r => by rw [r, h3] at h2; exact absurd h2 (by decide)
  have up : ∀ m, c < m → m ≤ l.length → ∃ i, Wit l b (uptoN l0 l m b) c i := fun m hm hml => by
    obtain ⟨j, j1, j2, j3, j4, j5⟩ := last_from l b c h2 hb m hm
    obtain ⟨_, i, i1, i2, i3, i4⟩ := ok.wr (by omega) j3
    have hd := (ok.done (by omega) j3).2
    have ew : wrN l j = rd_T38 l i := by unfold wrN; rw [i1]
    refine ⟨i, by omega, i3, by rw [← ew]; exact j4, by unfold uptoN; rw [j5, ew]; rfl, fun q q1 q2 q3 => ?_⟩
    have := (subN_of 2 l (rd_T38 l j).f1 j q (by omega) (by omega) q3.1 (by rw [q3.2, i4])).1
    omega
  unfold chR at hx
  rcases dedL_mem _ _ _ hx with hx | hx
  · rcases List.mem_append.1 hx with hx | hx
    · simp only [List.mem_cons, List.not_mem_nil, or_false] at hx
      rcases hx with rfl | rfl
      · exact up _ (by have := flE_ge l p h3 l.length hp; omega) (flE_le l l.length)
      · exact up _ (by omega) (Nat.le_refl _)
    · unfold wrR at hx
      rw [List.drop_zero] at hx
      obtain ⟨y, hy, rfl⟩ := List.mem_map.1 hx
      obtain ⟨hy, q⟩ := List.mem_filter.1 hy
      simp only [Bool.and_eq_true, beq_iff_eq, decide_eq_true_eq] at q
      obtain ⟨i, i1, rfl⟩ := List.getElem_of_mem hy
      rw [← rd38 l i i1] at q ⊢
      refine ⟨i, i1, q.1.1, q.1.2, rfl, fun j j1 j2 j3 => ?_⟩
      have := (subN_of 2 l (rd_T38 l i).f1 l.length j (by omega) (by omega) j3.1 j3.2).1
      omega
  · cases hx
theorem dedL_grow : ∀ (l out : List (List Int)), out.length ≤ (dedL l out).length
  | [], out => Nat.le_refl _
  | x :: l, out => by
    rw [dedL]
    split
    · exact dedL_grow l out
    · have := dedL_grow l (out ++ [x]); rw [List.length_append, List.length_singleton] at this; omega
theorem chR_pos (l0 : List (List Int)) (l : List S38) (b : Nat) : 0 < (chR l0 l b).length := by
  unfold chR
  rw [List.cons_append, dedL_put]
  have := dedL_grow ([uptoN l0 l l.length b] ++ wrR l b 0) (putL [] (uptoN l0 l (flE l l.length) b))
  unfold putL at this ⊢
  rw [if_neg (by simp)] at this ⊢
  simp only [List.nil_append, List.length_cons, List.length_nil] at this ⊢
  omega
end Go.Proofs.Ytghmkmpgfpkfmaa.X
