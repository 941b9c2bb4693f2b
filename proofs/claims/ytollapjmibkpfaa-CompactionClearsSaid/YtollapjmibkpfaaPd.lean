/- Clear: the cells of a range are moved to the lowest free cells outside. -/
import Derived.Test.YtollapjmibkpfaaPc
import Derived.Test.YtollapjmibkpfaaX17
import Derived.Test.YtollapjmibkpfaaX34
namespace Go.Proofs.Ytollapjmibkpfaa.X
open Go.RowKit Go.Proofs.YtollapjmibkpfaaW.PrintWords Go.Proofs.YtollapjmibkpfaaW.PrintLast Go.Proofs.YtollapjmibkpfaaW.PrintMore
set_option linter.unusedVariables false
set_option linter.unusedSimpArgs false

/-- A free cell outside the range. -/
def tgt (l : List Int) (s e j : Nat) : Bool := rd l j == 0 && !(decide (s ≤ j) && decide (j < e))
/-- The first such cell from j on, among f cells. -/
def seek (l : List Int) (s e : Nat) : Nat → Nat → Nat
  | 0, j => j
  | f + 1, j => if tgt l s e j = true then j else seek l s e f (j + 1)
/-- How many there are. -/
def nT (l : List Int) (s e : Nat) : Nat → Nat → Int
  | 0, j => 0
  | f + 1, j => (if tgt l s e j = true then 1 else 0) + nT l s e f (j + 1)
theorem nT_bd (l : List Int) (s e : Nat) : ∀ f j, 0 ≤ nT l s e f j ∧ nT l s e f j ≤ f
  | 0, j => ⟨by simp [nT], by simp [nT]⟩
  | f + 1, j => by have := nT_bd l s e f (j + 1); unfold nT; split <;> omega
theorem seek_bd (l : List Int) (s e : Nat) : ∀ f j, j ≤ seek l s e f j ∧ seek l s e f j ≤ j + f
  | 0, j => ⟨by simp [seek], by simp [seek]⟩
  | f + 1, j => by have := seek_bd l s e f (j + 1); unfold seek; split <;> omega
theorem seek_none (l : List Int) (s e : Nat) : ∀ f j, nT l s e f j < 1 → seek l s e f j = j + f
  | 0, j, _ => rfl
  | f + 1, j, h => by
    unfold nT at h; unfold seek
    have := nT_bd l s e f (j + 1)
    split at h
    · omega
    · rw [if_neg (by assumption), seek_none l s e f (j + 1) (by omega)]; omega
theorem seek_some (l : List Int) (s e : Nat) : ∀ f j, 1 ≤ nT l s e f j → seek l s e f j < j + f ∧ nT l s e (j + f - (seek l s e f j + 1)) (seek l s e f j + 1) = nT l s e f j - 1
  | 0, j, h => absurd h (by simp [nT])
  | f + 1, j, h => by
    have eN : nT l s e (f + 1) j = (if tgt l s e j = true then 1 else 0) + nT l s e f (j + 1) := rfl
    have eS : seek l s e (f + 1) j = if tgt l s e j = true then j else seek l s e f (j + 1) := rfl
    rw [eN] at h ⊢; rw [eS]
    by_cases c : tgt l s e j = true
    · rw [if_pos c] at h
      rw [if_pos c, if_pos c]
      refine ⟨by omega, ?_⟩
      rw [show j + (f + 1) - (j + 1) = f from by omega]; omega
    · rw [if_neg c] at h
      rw [if_neg c, if_neg c]
      have ih := seek_some l s e f (j + 1) (by omega)
      rw [show j + (f + 1) = j + 1 + f from by omega]
      refine ⟨ih.1, ?_⟩
      rw [ih.2]; omega
theorem nT_add (l : List Int) (s e g : Nat) : ∀ f j, nT l s e (f + g) j = nT l s e f j + nT l s e g (j + f)
  | 0, j => by simp [nT]
  | f + 1, j => by
    rw [show f + 1 + g = f + g + 1 from by omega, nT, nT, nT_add l s e g f (j + 1), show j + 1 + f = j + (f + 1) from by omega]; omega
theorem nT_in (l : List Int) (s e : Nat) : ∀ f j, s ≤ j → j + f ≤ e → nT l s e f j = 0
  | 0, j, _, _ => rfl
  | f + 1, j, h1, h2 => by
    rw [nT, nT_in l s e f (j + 1) (by omega) (by omega), if_neg]; · rfl
    have e1 : decide (s ≤ j) = true := by simpa using h1
    have e2 : decide (j < e) = true := by simp; omega
    unfold tgt; rw [e1, e2]; simp
theorem nT_out (l : List Int) (s e : Nat) : ∀ f j, (j + f ≤ s ∨ e ≤ j) → j + f ≤ l.length → nT l s e f j = cntN 0 ((l.drop j).take f)
  | 0, j, _, _ => by simp [nT, cntN]
  | f + 1, j, h1, h2 => by
    rw [nT, nT_out l s e f (j + 1) (by omega) (by omega), cntN_drop 0 l j f (by omega)]
    have e1 : (decide (s ≤ j) && decide (j < e)) = false := by
      rcases h1 with h | h
      · rw [decide_eq_false (show ¬ s ≤ j from by omega)]; rfl
      · rw [decide_eq_false (show ¬ j < e from by omega)]; simp
    unfold tgt; rw [e1]
    by_cases c : rd l j = 0
    · simp [c]
    · simp [c]
/-- What the loop over the range makes: d cells from i on, targets from t on. -/
def fill (l : List Int) (s e : Nat) : Nat → Nat → Nat → List S26 → List S26 × Int
  | 0, i, t, out => (out, 0)
  | d + 1, i, t, out => if rd l i = 1 then (if seek l s e (l.length - t) t < l.length then fill l s e d (i + 1) (seek l s e (l.length - t) t + 1) (out ++ [⟨i, (seek l s e (l.length - t) t : Nat)⟩]) else ([], 8)) else fill l s e d (i + 1) t out
theorem fill_no (l : List Int) (s e : Nat) : ∀ d i t out, i + d ≤ l.length → t ≤ l.length → nT l s e (l.length - t) t < cntN 1 ((l.drop i).take d) → fill l s e d i t out = ([], 8)
  | 0, i, t, out, _, ht, h => by have := nT_bd l s e (l.length - t) t; simp [cntN] at h; omega
  | d + 1, i, t, out, hi, ht, h => by
    rw [cntN_drop 1 l i d (by omega)] at h
    unfold fill
    by_cases c : rd l i = 1
    · rw [if_pos c] at h ⊢
      by_cases q : 1 ≤ nT l s e (l.length - t) t
      · have hs := seek_some l s e _ _ q
        rw [if_pos (by omega)]
        refine fill_no l s e d (i + 1) _ _ (by omega) (by omega) ?_
        rw [show t + (l.length - t) = l.length from by omega] at hs
        rw [hs.2]; omega
      · rw [if_neg (by rw [seek_none l s e _ _ (by omega)]; omega)]
    · rw [if_neg c] at h ⊢
      exact fill_no l s e d (i + 1) t out (by omega) ht (by omega)
theorem cl1 (l : List Int) (hl : l.length ≤ 4096) (s e : Nat) (out : List S26) (ho : out.length ≤ 100000) (i : Int) (r : List S26 × Int) : ∀ f t : Nat, l.length - t = f → t ≤ l.length →
    (seek l s e f t < l.length → Ev (fun k => compaction_Clear.l0 k l s e (out ++ [⟨i, (seek l s e f t : Nat)⟩]) (seek l s e f t : Nat) (wrap64 (i + 1))) r) → (seek l s e f t ≥ l.length → r = ([], 8)) →
    Ev (fun k => compaction_Clear.l1 k l s e out t i) r
  | 0, t, h0, h1, _, hn => by
    refine Ev.step (fun k => by rw [compaction_Clear.l1]) ?_
    rw [hn (by simp [seek]; omega)]
    exact Ev.neg (by omega) (Ev.pos (by omega) (Ev.now _))
  | f + 1, t, h0, h1, hy, hn => by
    refine Ev.step (fun k => by rw [compaction_Clear.l1]) ?_
    unfold seek at hy hn
    have hw := wrap_nat t (by omega)
    have skip : ¬ tgt l s e t = true → Ev (fun k => compaction_Clear.l1 k l s e out (wrap64 ((t : Int) + 1)) i) r := by
      intro c
      rw [if_neg c] at hy hn
      rw [hw]
      exact cl1 l hl s e out ho i r f (t + 1) (by omega) (by omega) hy hn
    have done : tgt l s e t = true → Ev (fun k => if (t : Int) ≥ (l.length : Int) then (some (([] : List (S26)), 8)) else (if out.length < 8796093022208 then (compaction_Clear.l0 k l s e (out ++ [(⟨i, t⟩ : S26)]) t (wrap64 (i + 1))) else (none))) r := by
      intro c
      rw [if_pos c] at hy
      exact Ev.neg (by omega) (Ev.pos (by omega) (hy (by omega)))
    refine Ev.pos (by omega) (Ev.pos (by omega) ?_)
    by_cases c0 : rd l t = 0
    · refine Ev.pos c0 ?_
      by_cases c1 : (t : Int) ≥ (s : Int)
      · refine Ev.pos c1 ?_
        by_cases c2 : (t : Int) < (e : Int)
        · refine Ev.pos c2 (skip ?_)
          unfold tgt; rw [decide_eq_true (show s ≤ t from by omega), decide_eq_true (show t < e from by omega)]; simp
        · refine Ev.neg c2 (done ?_)
          unfold tgt; rw [decide_eq_false (show ¬ t < e from by omega)]; simp [c0]
      · refine Ev.neg c1 (done ?_)
        unfold tgt; rw [decide_eq_false (show ¬ s ≤ t from by omega)]; simp [c0]
    · refine Ev.neg c0 (skip ?_)
      unfold tgt; simp [c0]
theorem cl0 (l : List Int) (hl : l.length ≤ 4096) (s e : Nat) (he : e ≤ l.length) : ∀ (d i t : Nat) (out : List S26), e - i = d → i ≤ e → t ≤ l.length → out.length ≤ i → Ev (fun k => compaction_Clear.l0 k l s e out ((t : Int) - 1) i) (fill l s e d i t out)
  | 0, i, t, out, h0, h1, h2, h3 => by
    refine Ev.step (fun k => by rw [compaction_Clear.l0]) ?_
    exact Ev.neg (by omega) (Ev.now _)
  | d + 1, i, t, out, h0, h1, h2, h3 => by
    refine Ev.step (fun k => by rw [compaction_Clear.l0]) ?_
    refine Ev.pos (by omega) (Ev.pos (by omega) (Ev.pos (by omega) ?_))
    unfold fill
    by_cases c : rd l i = 1
    · rw [if_pos c]
      refine Ev.pos c ?_
      rw [show wrap64 ((t : Int) - 1 + 1) = (t : Int) from by rw [wrap_id _ (by omega) (by omega)]; omega]
      have hb := seek_bd l s e (l.length - t) t
      refine cl1 l hl s e out (by omega) i _ (l.length - t) t rfl h2 (fun q => ?_) (fun q => if_neg (by omega))
      rw [if_pos q, wrap_nat i (by omega)]
      have := cl0 l hl s e he d (i + 1) (seek l s e (l.length - t) t + 1) (out ++ [⟨i, (seek l s e (l.length - t) t : Nat)⟩]) (by omega) (by omega) (by omega) (by simp; omega)
      rwa [show (((seek l s e (l.length - t) t + 1 : Nat) : Int) - 1) = ((seek l s e (l.length - t) t : Nat) : Int) from by omega] at this
    · rw [if_neg c]
      refine Ev.neg c ?_
      rw [wrap_nat i (by omega)]
      exact cl0 l hl s e he d (i + 1) t out (by omega) (by omega) h2 (by omega)
theorem rl1 (l : List Int) (hl : l.length ≤ 4096) (s e : Nat) (out : List S26) (ho : out.length ≤ 100000) (i : Int) (r : List S26 × Int) : ∀ f t : Nat, l.length - t = f → t ≤ l.length →
    seek l s e f t < l.length → Ev (fun k => estoversref40_Clear.l0 k l s e (out ++ [⟨i, (seek l s e f t : Nat)⟩]) ((seek l s e f t + 1 : Nat) : Int) (wrap64 (i + 1))) r →
    Ev (fun k => estoversref40_Clear.l1 k l s e out t i) r
  | 0, t, h0, h1, h2, _ => by simp [seek] at h2; omega
  | f + 1, t, h0, h1, h2, hy => by
    refine Ev.step (fun k => by rw [estoversref40_Clear.l1]) ?_
    unfold seek at hy h2
    have hw := wrap_nat t (by omega)
    have skip : ¬ tgt l s e t = true → Ev (fun k => estoversref40_Clear.l1 k l s e out (wrap64 ((t : Int) + 1)) i) r := by
      intro c
      rw [if_neg c] at hy h2
      rw [hw]
      exact rl1 l hl s e out ho i r f (t + 1) (by omega) (by omega) h2 hy
    have done : tgt l s e t = true → Ev (fun k => if out.length < 8796093022208 then (estoversref40_Clear.l0 k l s e (out ++ [(⟨i, t⟩ : S26)]) (wrap64 ((t : Int) + 1)) (wrap64 (i + 1))) else (none)) r := by
      intro c
      rw [if_pos c] at hy
      rw [hw]
      exact Ev.pos (by omega) hy
    refine Ev.pos (by omega) (Ev.pos (by omega) ?_)
    by_cases c0 : rd l t = 0
    · refine Ev.pos c0 ?_
      by_cases c1 : (t : Int) ≥ (s : Int)
      · refine Ev.pos c1 ?_
        by_cases c2 : (t : Int) < (e : Int)
        · refine Ev.pos c2 (skip ?_)
          unfold tgt; rw [decide_eq_true (show s ≤ t from by omega), decide_eq_true (show t < e from by omega)]; simp
        · refine Ev.neg c2 (done ?_)
          unfold tgt; rw [decide_eq_false (show ¬ t < e from by omega)]; simp [c0]
      · refine Ev.neg c1 (done ?_)
        unfold tgt; rw [decide_eq_false (show ¬ s ≤ t from by omega)]; simp [c0]
    · refine Ev.neg c0 (skip ?_)
      unfold tgt; simp [c0]
theorem rl0 (l : List Int) (hl : l.length ≤ 4096) (s e : Nat) (he : e ≤ l.length) : ∀ (d i t : Nat) (out : List S26), e - i = d → i ≤ e → t ≤ l.length → out.length ≤ i → cntN 1 ((l.drop i).take d) ≤ nT l s e (l.length - t) t →
    Ev (fun k => estoversref40_Clear.l0 k l s e out t i) (fill l s e d i t out)
  | 0, i, t, out, h0, h1, h2, h3, _ => by
    refine Ev.step (fun k => by rw [estoversref40_Clear.l0]) ?_
    exact Ev.neg (by omega) (Ev.now _)
  | d + 1, i, t, out, h0, h1, h2, h3, h4 => by
    rw [cntN_drop 1 l i d (by omega)] at h4
    have hc := cntN_bd 1 ((l.drop (i + 1)).take d)
    refine Ev.step (fun k => by rw [estoversref40_Clear.l0]) ?_
    refine Ev.pos (by omega) (Ev.pos (by omega) (Ev.pos (by omega) ?_))
    unfold fill
    by_cases c : rd l i = 1
    · rw [if_pos c] at h4
      rw [if_pos c]
      refine Ev.pos c ?_
      have hs := seek_some l s e (l.length - t) t (by omega)
      rw [show t + (l.length - t) = l.length from by omega] at hs
      rw [if_pos hs.1]
      refine rl1 l hl s e out (by omega) i _ (l.length - t) t rfl h2 hs.1 ?_
      rw [wrap_nat i (by omega)]
      exact rl0 l hl s e he d (i + 1) (seek l s e (l.length - t) t + 1) _ (by omega) (by omega) (by omega) (by simp; omega) (by rw [hs.2]; omega)
    · rw [if_neg c] at h4
      rw [if_neg c]
      refine Ev.neg c ?_
      rw [wrap_nat i (by omega)]
      exact rl0 l hl s e he d (i + 1) t out (by omega) (by omega) h2 (by omega) (by omega)
theorem index_l0 (l : List Int) (hl : l.length ≤ 4096) (v : Int) : ∀ (d k i : Nat), l.length - i = d → i ≤ l.length → d < k → ∃ x : Int, slices_Index_int_int.l0 k l v (l.length : Int) i = some x ∧ (x ≥ 0 ↔ cntN v (l.drop i) > 0)
  | d, 0, i, _, _, h => absurd h (by omega)
  | 0, k + 1, i, h0, h1, _ => by
    simp only [slices_Index_int_int.l0]
    rw [if_neg (by omega), List.drop_eq_nil_of_le (by omega)]
    exact ⟨-1, rfl, by simp [cntN]⟩
  | d + 1, k + 1, i, h0, h1, h2 => by
    simp only [slices_Index_int_int.l0]
    rw [if_pos (by omega), if_pos (by omega), if_pos (by omega), wrap_nat i (by omega)]
    have e : cntN v (l.drop i) = (if rd l i = v then 1 else 0) + cntN v (l.drop (i + 1)) := by
      rw [rd_nat l i (by omega), List.drop_eq_getElem_cons (show i < l.length from by omega), cntN]
    rw [e]
    have hb := cntN_bd v (l.drop (i + 1))
    by_cases c : v = rd l i
    · rw [if_pos c, if_pos c.symm]; exact ⟨i, rfl, by omega⟩
    · rw [if_neg c, if_neg (fun h => c h.symm)]
      obtain ⟨x, hx, hx2⟩ := index_l0 l hl v d k (i + 1) (by omega) (by omega) (by omega)
      exact ⟨x, hx, by rw [hx2]; omega⟩
theorem contains_ev (l : List Int) (hl : l.length ≤ 4096) (v : Int) : Ev (fun k => slices_Contains_int_int.f k l v) (decide (cntN v l > 0)) := by
  obtain ⟨x, hx, hx2⟩ := index_l0 l hl v l.length (l.length + 1) 0 (by omega) (by omega) (by omega)
  have h1 : Ev (fun k => slices_Index_int_int.f k l v) x := Ev.of (fun k => slices_Index_int_int.mono l v k) (k := l.length + 1) (by unfold slices_Index_int_int.f; exact hx)
  unfold slices_Contains_int_int.f
  refine Ev.bind h1 ?_
  rw [show decide (cntN v l > 0) = decide (x ≥ 0) from by rw [decide_eq_decide, hx2]; simp]
  exact Ev.now _
def clearF (l : List Int) (a b : Int) : List S26 × Int :=
  if chk l ≠ 0 then ([], chk l) else if a < 0 ∨ b < 0 ∨ a > l.length ∨ b > l.length - a then ([], 2) else if cntN 2 ((l.drop a.toNat).take b.toNat) > 0 then ([], 11) else fill l a.toNat (a.toNat + b.toNat) b.toNat a.toNat 0 []
theorem clearF_bad (l : List Int) (a b : Int) (h : chk l ≠ 0) : clearF l a b = ([], chk l) := by unfold clearF; rw [if_pos h]
theorem clearF_out (l : List Int) (a b : Int) (h : chk l = 0) (h2 : a < 0 ∨ b < 0 ∨ a > l.length ∨ b > l.length - a) : clearF l a b = ([], 2) := by unfold clearF; rw [if_neg (by simp [h]), if_pos h2]
theorem clearF_in (l : List Int) (a b : Int) (h : chk l = 0) (h2 : ¬ (a < 0 ∨ b < 0 ∨ a > l.length ∨ b > l.length - a)) : clearF l a b = if cntN 2 ((l.drop a.toNat).take b.toNat) > 0 then ([], 11) else fill l a.toNat (a.toNat + b.toNat) b.toNat a.toNat 0 [] := by unfold clearF; rw [if_neg (by simp [h]), if_neg h2]
theorem clear_ev (l : List Int) (a b : Int) : Ev (fun k => compaction_Clear.f k l a b) (clearF l a b) := by
  unfold compaction_Clear.f
  refine Ev.bind (check_ev l) ?_
  by_cases h : chk l = 0
  · have hl := chk_len h
    refine Ev.pos h ?_
    have jT : ∀ q : Bool, q = true → (a < 0 ∨ b < 0 ∨ a > l.length ∨ b > l.length - a) → Ev (fun k => compaction_Clear.j0 k l a b q) (clearF l a b) := by
      intro q hq h2
      rw [clearF_out l a b h h2]
      exact Ev.step (fun k => by rw [compaction_Clear.j0]) (Ev.pos hq (Ev.now _))
    by_cases c0 : a < 0
    · exact Ev.pos c0 (jT _ rfl (by omega))
    · refine Ev.neg c0 ?_
      by_cases c1 : b < 0
      · exact Ev.pos c1 (jT _ rfl (by omega))
      · refine Ev.neg c1 ?_
        by_cases c2 : a > (l.length : Int)
        · exact Ev.pos c2 (jT _ rfl (by omega))
        · refine Ev.neg c2 ?_
          rw [wrap_id ((l.length : Int) - a) (by omega) (by omega)]
          by_cases c3 : b > (l.length : Int) - a
          · exact jT _ (by simpa using c3) (by omega)
          · refine Ev.step (fun k => by rw [compaction_Clear.j0]) (Ev.neg (by simpa using c3) ?_)
            rw [clearF_in l a b h (by omega), wrap_id (a + b) (by omega) (by omega)]
            refine Ev.pos (by omega) (Ev.pos (by omega) (Ev.pos (by omega) ?_))
            have e1 : (l.take (a + b : Int).toNat).drop a.toNat = (l.drop a.toNat).take b.toNat := by
              rw [List.drop_take, show (a + b).toNat - a.toNat = b.toNat from by omega]
            rw [e1]
            refine Ev.bind (contains_ev _ (by rw [List.length_take, List.length_drop]; omega) 2) ?_
            by_cases c4 : cntN 2 ((l.drop a.toNat).take b.toNat) > 0
            · rw [if_pos c4]; exact Ev.pos (by simpa using c4) (Ev.now _)
            · rw [if_neg c4]
              refine Ev.neg (by simpa using c4) ?_
              have := cl0 l hl a.toNat (a.toNat + b.toNat) (by omega) b.toNat a.toNat 0 [] (by omega) (by omega) (by omega) (by simp)
              have ea : ((a.toNat : Nat) : Int) = a := by omega
              have eb : ((a.toNat + b.toNat : Nat) : Int) = a + b := by omega
              rw [ea, eb] at this
              exact this
  · rw [clearF_bad l a b h]; exact Ev.neg h (Ev.now _)
theorem refClear_ev (l : List Int) (a b : Int) : Ev (fun k => estoversref40_Clear.f k l a b) (clearF l a b) := by
  unfold estoversref40_Clear.f
  refine Ev.bind (refCheck_ev l) ?_
  by_cases h : chk l = 0
  · have hl := chk_len h
    refine Ev.pos h ?_
    have jT : ∀ q : Bool, q = true → (a < 0 ∨ b < 0 ∨ a > l.length ∨ b > l.length - a) → Ev (fun k => estoversref40_Clear.j0 k l a b q) (clearF l a b) := by
      intro q hq h2
      rw [clearF_out l a b h h2]
      exact Ev.step (fun k => by rw [estoversref40_Clear.j0]) (Ev.pos hq (Ev.now _))
    by_cases c0 : a < 0
    · exact Ev.pos c0 (jT _ rfl (by omega))
    · refine Ev.neg c0 ?_
      by_cases c1 : b < 0
      · exact Ev.pos c1 (jT _ rfl (by omega))
      · refine Ev.neg c1 ?_
        by_cases c2 : a > (l.length : Int)
        · exact Ev.pos c2 (jT _ rfl (by omega))
        · refine Ev.neg c2 ?_
          rw [wrap_id ((l.length : Int) - a) (by omega) (by omega)]
          by_cases c3 : b > (l.length : Int) - a
          · exact jT _ (by simpa using c3) (by omega)
          · refine Ev.step (fun k => by rw [estoversref40_Clear.j0]) (Ev.neg (by simpa using c3) ?_)
            rw [clearF_in l a b h (by omega), wrap_id (a + b) (by omega) (by omega)]
            obtain ⟨s, rfl⟩ : ∃ s : Nat, a = s := ⟨a.toNat, by omega⟩
            obtain ⟨n, rfl⟩ : ∃ n : Nat, b = n := ⟨b.toNat, by omega⟩
            rw [show ((s : Int) + (n : Int)) = ((s + n : Nat) : Int) from by omega, Int.toNat_natCast, Int.toNat_natCast]
            have k1 := count_ev l hl 2 s (s + n) (by omega) (by omega)
            have k2 := count_ev l hl 0 0 s (by omega) (by omega)
            have k3 := count_ev l hl 0 (s + n) l.length (by omega) (by omega)
            have k4 := count_ev l hl 1 s (s + n) (by omega) (by omega)
            rw [show s + n - s = n from by omega] at k1 k4
            rw [Nat.sub_zero] at k2
            have hT : nT l s (s + n) l.length 0 = cntN 0 ((l.drop 0).take s) + cntN 0 ((l.drop (s + n)).take (l.length - (s + n))) := by
              have e1 := nT_add l s (s + n) (n + (l.length - (s + n))) s 0
              have e2 := nT_add l s (s + n) (l.length - (s + n)) n (0 + s)
              rw [show s + (n + (l.length - (s + n))) = l.length from by omega] at e1
              rw [e1, e2, nT_in l s (s + n) n (0 + s) (by omega) (by omega), nT_out l s (s + n) s 0 (by omega) (by omega), nT_out l s (s + n) (l.length - (s + n)) (0 + s + n) (by omega) (by omega), show 0 + s + n = s + n from by omega]
              omega
            have b1 := cntN_bd 0 ((l.drop 0).take s)
            have b2 := cntN_bd 0 ((l.drop (s + n)).take (l.length - (s + n)))
            rw [List.length_take] at b1 b2
            refine Ev.bind k1 ?_
            by_cases c4 : cntN 2 ((l.drop s).take n) > 0
            · rw [if_pos c4]; exact Ev.pos c4 (Ev.now _)
            · rw [if_neg c4]
              refine Ev.neg c4 (Ev.bind k2 (Ev.bind k3 (Ev.bind k4 ?_)))
              rw [wrap_id _ (by omega) (by omega), ← hT]
              by_cases c5 : nT l s (s + n) l.length 0 < cntN 1 ((l.drop s).take n)
              · rw [fill_no l s (s + n) n s 0 [] (by omega) (by omega) (by rw [Nat.sub_zero]; exact c5)]
                exact Ev.pos c5 (Ev.now _)
              · refine Ev.neg c5 ?_
                exact rl0 l hl s (s + n) (by omega) n s 0 [] (by omega) (by omega) (by omega) (by simp) (by rw [Nat.sub_zero]; omega)
  · rw [clearF_bad l a b h]; exact Ev.neg h (Ev.now _)
theorem fill_len (l : List Int) (s e : Nat) : ∀ d i t out, (fill l s e d i t out).1.length ≤ out.length + d
  | 0, i, t, out => by simp [fill]
  | d + 1, i, t, out => by
    unfold fill
    split
    · split
      · have := fill_len l s e d (i + 1) (seek l s e (l.length - t) t + 1) (out ++ [⟨i, (seek l s e (l.length - t) t : Nat)⟩])
        simp at this; omega
      · simp
    · have := fill_len l s e d (i + 1) t out; omega
theorem clearF_len (l : List Int) (a b : Int) : (clearF l a b).1.length ≤ l.length := by
  unfold clearF
  split
  · simp
  · split
    · simp
    · split
      · simp
      · have := fill_len l a.toNat (a.toNat + b.toNat) b.toNat a.toNat 0 []
        simp at this; omega
end Go.Proofs.Ytollapjmibkpfaa.X
