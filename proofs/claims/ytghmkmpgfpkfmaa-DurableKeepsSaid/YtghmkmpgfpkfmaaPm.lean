/- Plain laws of chapter 11: what the program keeps of a valid history, told by the reference's words. -/
import Derived.Test.YtghmkmpgfpkfmaaPl
namespace Go.Proofs.Ytghmkmpgfpkfmaa.X
open Go.RowKit Go.Proofs.YtghmkmpgfpkfmaaW.PrintWords Go.Proofs.YtghmkmpgfpkfmaaW.PrintLast Go.Proofs.YtghmkmpgfpkfmaaW.PrintMore
set_option linter.unusedVariables false
set_option linter.unusedSimpArgs false

/-- The write that a completion, event n, completes. -/
def wrN (l : List S38) (n : Nat) : S38 := rd_T38 l (subN 1 l (rd_T38 l n).f1 n)
/-- The content that the last completion among the first n events gave to block b. -/
def lastN (l : List S38) (b : Int) : Nat → Option (List Int)
  | 0 => none
  | n + 1 => if (rd_T38 l n).f0 = 2 ∧ (wrN l n).f2 = b then some (wrN l n).f3 else lastN l b n
def uptoN (l0 : List (List Int)) (l : List S38) (n b : Nat) : List Int := (lastN l b n).getD (rd_L1 l0 b)
/-- The events up to and with the last flush. -/
def flE (l : List S38) : Nat → Nat
  | 0 => 0
  | n + 1 => if (rd_T38 l n).f0 = 3 then n + 1 else flE l n
def outP (l : List S38) (n : Nat) (x : S38) : Bool := x.f0 == 1 && decide (subN 2 l x.f1 n < 0)
def ofW (x : S38) : OuL := ⟨x.f1, x.f2, x.f3⟩
def outsN (l : List S38) (n : Nat) : List OuL := ((l.take n).filter (outP l n)).map ofW
structure IV (l0 : List (List Int)) (l : List S38) (n : Nat) (ids : List Int) (st : StL) : Prop where
  ids : ∀ id, id ∈ ids ↔ 0 ≤ subN 1 l id n
  own : ∀ i : Nat, i < n → (rd_T38 l i).f0 = 1 → subN 1 l (rd_T38 l i).f1 n = i
  don : ∀ id, 0 ≤ subN 2 l id n → 0 ≤ subN 1 l id n
  wf : WfL l0.length st
  out : st.out = outsN l n
  nd : (st.out.map OuL.id).Nodup
  firm : ∀ b : Nat, b < l0.length → st.firm[b]? = some (uptoN l0 l (flE l n) b)
  cache : ∀ b : Nat, b < l0.length → ∃ c, st.cache[b]? = some c ∧ ((c = [] ∧ uptoN l0 l n b = uptoN l0 l (flE l n) b) ∨ (c ≠ [] ∧ c = uptoN l0 l n b))
  dat : ∀ i : Nat, i < n → (rd_T38 l i).f0 = 1 → (rd_T38 l i).f3.length = 32 ∧ 0 ≤ (rd_T38 l i).f2 ∧ (rd_T38 l i).f2 < l0.length

theorem sub_same {kd : Int} {l : List S38} {n : Nat} (h : (rd_T38 l n).f0 ≠ kd) (id : Int) : subN kd l id (n + 1) = subN kd l id n := by
  have := subN_lt kd l id n
  rw [subN]
  by_cases c : 0 ≤ subN kd l id n
  · rw [if_pos c]
  · rw [if_neg c, if_neg (fun q => h q.2.1)]; omega
theorem sub_other {kd : Int} {l : List S38} {n : Nat} {id : Int} (h : (rd_T38 l n).f1 ≠ id) : subN kd l id (n + 1) = subN kd l id n := by
  have := subN_lt kd l id n
  rw [subN]
  by_cases c : 0 ≤ subN kd l id n
  · rw [if_pos c]
  · rw [if_neg c, if_neg (fun q => h q.2.2)]; omega
theorem take_next (l : List S38) (n : Nat) (h : n < l.length) : l.take (n + 1) = l.take n ++ [rd_T38 l n] := by
  rw [List.take_succ_eq_append_getElem h, rd38 l n h]
theorem mem_take {l : List S38} {n : Nat} {y : S38} (h : y ∈ l.take n) : ∃ i : Nat, i < n ∧ i < l.length ∧ rd_T38 l i = y := by
  obtain ⟨i, hi, e⟩ := List.getElem_of_mem h
  rw [List.length_take] at hi
  refine ⟨i, by omega, by omega, ?_⟩
  rw [rd38 l i (by omega), ← e, List.getElem_take]
theorem idFromL_spec (id : Int) : ∀ (l : List OuL) (k : Int), (idFromL id l k = -1 ∧ ∀ o ∈ l, o.id ≠ id) ∨ ∃ i : Nat, idFromL id l k = k + i ∧ ∃ o, l[i]? = some o ∧ o.id = id
  | [], k => .inl ⟨rfl, fun o h => by cases h⟩
  | x :: l, k => by
    unfold idFromL
    by_cases c : x.id = id
    · right; exact ⟨0, by rw [if_pos (by rw [c]; exact beq_self_eq_true _)]; omega, x, rfl, c⟩
    · rw [if_neg (fun h => c (beq_iff_eq.1 h))]
      rcases idFromL_spec id l (k + 1) with ⟨a, b⟩ | ⟨i, a, o, b, d⟩
      · left
        refine ⟨a, fun o ho => ?_⟩
        rcases List.mem_cons.1 ho with rfl | ho
        · exact c
        · exact b o ho
      · right; exact ⟨i + 1, by rw [a]; omega, o, b, d⟩
theorem idAt_spec (id : Int) (l : List OuL) : (idAtL id l = -1 ∧ ∀ o ∈ l, o.id ≠ id) ∨ (0 ≤ idAtL id l ∧ rd_OL l (idAtL id l) ∈ l ∧ (rd_OL l (idAtL id l)).id = id) := by
  rcases idFromL_spec id l 0 with h | ⟨i, a, o, b, c⟩
  · exact .inl h
  · right
    have e : idAtL id l = (i : Int) := by unfold idAtL; rw [a]; omega
    have r : rd_OL l (idAtL id l) = o := by unfold rd_OL; rw [e, List.getD_eq_getElem?_getD, Int.toNat_natCast, b]; rfl
    exact ⟨by omega, by rw [r]; exact List.mem_of_getElem? b, by rw [r]; exact c⟩
theorem erase_id (id : Int) : ∀ (l : List OuL) (k : Int), (l.map OuL.id).Nodup → k ≤ idFromL id l k → 0 ≤ k → l.eraseIdx (idFromL id l k - k).toNat = l.filter (fun o => o.id != id)
  | [], k, _, h, h0 => by simp
  | x :: l, k, hn, h, h0 => by
    rw [List.map_cons, List.nodup_cons] at hn
    unfold idFromL at h ⊢
    by_cases c : x.id = id
    · have cb : (x.id == id) = true := beq_iff_eq.2 c
      rw [if_pos cb, show (k - k).toNat = 0 by omega, List.eraseIdx_cons_zero, List.filter_cons_of_neg (by simp [c])]
      symm
      refine List.filter_eq_self.2 (fun o ho => ?_)
      refine bne_iff_ne.2 (fun e => hn.1 ?_)
      rw [c, ← e]; exact List.mem_map_of_mem ho
    · have cb : ¬ (x.id == id) = true := fun h => c (beq_iff_eq.1 h)
      rw [if_neg cb] at h ⊢
      have hb := idFromL_bd id l (k + 1)
      have hk : k + 1 ≤ idFromL id l (k + 1) := by omega
      rw [show (idFromL id l (k + 1) - k).toNat = (idFromL id l (k + 1) - (k + 1)).toNat + 1 by omega, List.eraseIdx_cons_succ, List.filter_cons_of_pos (by simpa using c), erase_id id l (k + 1) hn.2 hk (by omega)]
theorem outs_mem {l : List S38} {n : Nat} {o : OuL} (h : o ∈ outsN l n) : ∃ i : Nat, i < n ∧ i < l.length ∧ (rd_T38 l i).f0 = 1 ∧ subN 2 l (rd_T38 l i).f1 n < 0 ∧ o = ofW (rd_T38 l i) := by
  obtain ⟨y, hy, rfl⟩ := List.mem_map.1 h
  rw [List.mem_filter] at hy
  obtain ⟨i, a, b, rfl⟩ := mem_take hy.1
  have := hy.2
  unfold outP at this
  rw [Bool.and_eq_true, beq_iff_eq, decide_eq_true_eq] at this
  exact ⟨i, a, b, this.1, this.2, rfl⟩
theorem outs_of {l : List S38} {n i : Nat} (h : i < n) (h1 : i < l.length) (h2 : (rd_T38 l i).f0 = 1) (h3 : subN 2 l (rd_T38 l i).f1 n < 0) : ofW (rd_T38 l i) ∈ outsN l n := by
  refine List.mem_map_of_mem (List.mem_filter.2 ⟨?_, ?_⟩)
  · rw [rd38 l i h1]; exact List.mem_take_iff_getElem.2 ⟨i, by omega, rfl⟩
  · unfold outP; rw [h2, decide_eq_true h3]; rfl
/-- What is outstanding, found by its id. -/
theorem IV.find {l0 : List (List Int)} {l : List S38} {n : Nat} {ids : List Int} {st : StL} (h : IV l0 l n ids st) (hn : n ≤ l.length) (id : Int) :
    (0 ≤ idAtL id st.out ↔ 0 ≤ subN 1 l id n ∧ subN 2 l id n < 0) ∧ (0 ≤ idAtL id st.out → rd_OL st.out (idAtL id st.out) = ofW (rd_T38 l (subN 1 l id n))) := by
  have key : 0 ≤ idAtL id st.out → (0 ≤ subN 1 l id n ∧ subN 2 l id n < 0) ∧ rd_OL st.out (idAtL id st.out) = ofW (rd_T38 l (subN 1 l id n)) := by
    intro h0
    rcases idAt_spec id st.out with ⟨a, _⟩ | ⟨_, b, c⟩
    · omega
    · rw [h.out] at b c ⊢
      obtain ⟨i, i1, i2, i3, i4, i5⟩ := outs_mem b
      rw [i5] at c ⊢
      have e : (rd_T38 l i).f1 = id := c
      rw [e] at i4
      have := h.own i i1 i3
      rw [e] at this
      exact ⟨⟨by omega, i4⟩, by rw [this]⟩
  refine ⟨⟨fun h0 => (key h0).1, fun ⟨a, b⟩ => ?_⟩, fun h0 => (key h0).2⟩
  obtain ⟨i, i1, i2, i3, i4, i5⟩ := subN_at 1 l id n a
  rcases idAt_spec id st.out with ⟨_, q⟩ | ⟨q, _⟩
  · have := q (ofW (rd_T38 l i)) (by rw [h.out]; exact outs_of i2 i3 i4 (by rw [i5]; exact b))
    exact absurd i5 this
  · exact q
theorem IV.wrong {l0 : List (List Int)} {l : List S38} {n : Nat} {ids : List Int} {st : StL} (h : IV l0 l n ids st) (hn : n < l.length) : wrongL l0.length ids st.out (rd_T38 l n) = evE l0.length l n := by
  unfold wrongL evE
  have h1 := h.ids (rd_T38 l n).f1
  have h2 := (h.find (Nat.le_of_lt hn) (rd_T38 l n).f1).1
  have e1 : (if (rd_T38 l n).f1 ∈ ids then (7 : Int) else 0) = if 0 ≤ subN 1 l (rd_T38 l n).f1 n then 7 else 0 := by simp only [h1]
  have e2 : (if idAtL (rd_T38 l n).f1 st.out < 0 then (6 : Int) else 0) = if subN 1 l (rd_T38 l n).f1 n < 0 ∨ 0 ≤ subN 2 l (rd_T38 l n).f1 n then 6 else 0 := by
    by_cases c : 0 ≤ idAtL (rd_T38 l n).f1 st.out
    · rw [if_neg (by omega), if_neg (by have := h2.1 c; omega)]
    · rw [if_pos (by omega), if_pos (by have := mt h2.2 c; omega)]
  rw [e1, e2]
theorem upto_same {l0 : List (List Int)} {l : List S38} {n : Nat} (h : (rd_T38 l n).f0 ≠ 2) (b : Nat) : uptoN l0 l (n + 1) b = uptoN l0 l n b := by
  unfold uptoN; rw [lastN, if_neg (fun q => h q.1)]
theorem outs_same {l : List S38} {n : Nat} (hn : n < l.length) (h2 : (rd_T38 l n).f0 ≠ 2) (h1 : (rd_T38 l n).f0 ≠ 1) : outsN l (n + 1) = outsN l n := by
  unfold outsN
  have e : outP l (n + 1) = outP l n := by funext y; unfold outP; rw [sub_same h2]
  rw [e, take_next l n hn, List.filter_append, List.filter_cons_of_neg (by unfold outP; simp [h1])]
  simp
theorem IV.next {l0 : List (List Int)} {l : List S38} {n : Nat} {ids : List Int} {st : StL} (h : IV l0 l n ids st) (hn : n < l.length) (hz : wrongL l0.length ids st.out (rd_T38 l n) = 0) :
    IV l0 l (n + 1) (if (rd_T38 l n).f0 = 1 then ids ++ [(rd_T38 l n).f1] else ids) (applyL st (rd_T38 l n)) := by
  have hw := h.wf.step hz
  rcases wrongL_zero hz with ⟨k, k1, k2, k3, k4⟩ | ⟨k, k1⟩ | k
  · -- a write
    have n2 : (rd_T38 l n).f0 ≠ 2 := by rw [k]; decide
    have n3 : (rd_T38 l n).f0 ≠ 3 := by rw [k]; decide
    have s1 : ¬ 0 ≤ subN 1 l (rd_T38 l n).f1 n := fun q => k4 ((h.ids _).2 q)
    have s2 : subN 2 l (rd_T38 l n).f1 n < 0 := by
      by_cases c : 0 ≤ subN 2 l (rd_T38 l n).f1 n
      · exact absurd (h.don _ c) s1
      · omega
    have sn : subN 1 l (rd_T38 l n).f1 (n + 1) = n := by rw [subN, if_neg s1, if_pos ⟨hn, k, rfl⟩]
    have so : ∀ id, id ≠ (rd_T38 l n).f1 → subN 1 l id (n + 1) = subN 1 l id n := fun id hi => sub_other (Ne.symm hi)
    have ea : applyL st (rd_T38 l n) = ⟨st.firm, st.cache, st.out ++ [ofW (rd_T38 l n)]⟩ := by unfold applyL; rw [if_pos k]; rfl
    rw [if_pos k]
    rw [ea] at hw ⊢
    refine ⟨fun id => ?_, fun i hi h1 => ?_, fun id hd => ?_, hw, ?_, ?_, fun b hb => ?_, fun b hb => ?_, fun i hi h1 => ?_⟩
    · rw [List.mem_append, List.mem_singleton]
      by_cases c : id = (rd_T38 l n).f1
      · subst c; rw [sn]; exact ⟨fun _ => by omega, fun _ => .inr rfl⟩
      · rw [so id c, h.ids id]; exact ⟨fun q => q.elim (fun q => q) (fun q => absurd q c), fun q => .inl q⟩
    · by_cases c : i = n
      · subst c; exact sn
      · have := h.own i (by omega) h1
        rw [so _ (fun e => s1 (by rw [← e]; omega))]; exact this
    · rw [sub_same n2] at hd
      have := h.don id hd
      by_cases c : id = (rd_T38 l n).f1
      · subst c; rw [sn]; omega
      · rw [so id c]; exact this
    · show st.out ++ [ofW (rd_T38 l n)] = outsN l (n + 1)
      unfold outsN
      have e : outP l (n + 1) = outP l n := by funext y; unfold outP; rw [sub_same n2]
      rw [e, take_next l n hn, List.filter_append, List.filter_cons_of_pos (by unfold outP; rw [k, decide_eq_true s2]; rfl), List.map_append, h.out]
      rfl
    · show ((st.out ++ [ofW (rd_T38 l n)]).map OuL.id).Nodup
      rw [List.map_append, List.nodup_append]
      refine ⟨h.nd, by simp, fun a ha b hb e => ?_⟩
      rw [List.map_cons, List.map_nil, List.mem_singleton] at hb
      obtain ⟨o, ho, rfl⟩ := List.mem_map.1 ha
      rw [h.out] at ho
      obtain ⟨i, i1, i2, i3, i4, i5⟩ := outs_mem ho
      have := h.own i i1 i3
      refine s1 ?_
      have e1 : (rd_T38 l i).f1 = (rd_T38 l n).f1 := by rw [i5] at e; rw [hb] at e; exact e
      rw [← e1]; omega
    · show st.firm[b]? = _
      rw [flE, if_neg n3]; exact h.firm b hb
    · show ∃ c, st.cache[b]? = some c ∧ _
      rw [flE, if_neg n3, upto_same n2]; exact h.cache b hb
    · by_cases c : i = n
      · subst c; exact ⟨by omega, k1, k2⟩
      · exact h.dat i (by omega) h1
  · -- a completion
    have n1 : (rd_T38 l n).f0 ≠ 1 := by rw [k]; decide
    have n3 : (rd_T38 l n).f0 ≠ 3 := by rw [k]; decide
    obtain ⟨f1, f2⟩ := h.find (Nat.le_of_lt hn) (rd_T38 l n).f1
    obtain ⟨q1, q2⟩ := f1.1 k1
    have ho := f2 k1
    have ea : applyL st (rd_T38 l n) = ⟨st.firm, st.cache.set (wrN l n).f2.toNat (wrN l n).f3, st.out.eraseIdx (idAtL (rd_T38 l n).f1 st.out).toNat⟩ := by
      unfold applyL; rw [if_neg n1, if_pos k, ho]; rfl
    obtain ⟨i, i1, i2, i3, i4, i5⟩ := subN_at 1 l _ n q1
    have hwr : wrN l n = rd_T38 l i := by unfold wrN; rw [i1]
    have hd := h.dat i i2 i4
    have sn : subN 2 l (rd_T38 l n).f1 (n + 1) = n := by rw [subN, if_neg (by omega), if_pos ⟨hn, k, rfl⟩]
    have so : ∀ id, id ≠ (rd_T38 l n).f1 → subN 2 l id (n + 1) = subN 2 l id n := fun id hi => sub_other (Ne.symm hi)
    rw [if_neg n1]
    rw [ea] at hw ⊢
    have he : st.out.eraseIdx (idAtL (rd_T38 l n).f1 st.out).toNat = st.out.filter (fun o => o.id != (rd_T38 l n).f1) := by
      have := erase_id (rd_T38 l n).f1 st.out 0 h.nd k1 (by omega)
      rw [Int.sub_zero] at this; exact this
    refine ⟨fun id => ?_, fun i hi h1 => ?_, fun id hd => ?_, hw, ?_, ?_, fun b hb => ?_, fun b hb => ?_, fun i hi h1 => ?_⟩
    · rw [sub_same n1]; exact h.ids id
    · rw [sub_same n1]
      have : i ≠ n := fun e => n1 (e ▸ h1)
      exact h.own i (by omega) h1
    · rw [sub_same n1]
      by_cases c : id = (rd_T38 l n).f1
      · subst c; exact q1
      · rw [so id c] at hd; exact h.don id hd
    · show st.out.eraseIdx (idAtL (rd_T38 l n).f1 st.out).toNat = outsN l (n + 1)
      rw [he, h.out]
      unfold outsN
      rw [take_next l n hn, List.filter_append, List.filter_cons_of_neg (by unfold outP; simp [n1]), List.filter_nil, List.append_nil, List.filter_map, List.filter_filter]
      congr 1
      refine List.filter_congr (fun y hy => ?_)
      unfold outP
      show ((y.f1 != (rd_T38 l n).f1) && (y.f0 == 1 && decide (subN 2 l y.f1 n < 0))) = (y.f0 == 1 && decide (subN 2 l y.f1 (n + 1) < 0))
      by_cases c : y.f1 = (rd_T38 l n).f1
      · rw [c, sn]
        have : ¬ ((n : Int) < 0) := by omega
        simp [this]
      · rw [so _ c]
        simp [c]
    · show ((st.out.eraseIdx (idAtL (rd_T38 l n).f1 st.out).toNat).map OuL.id).Nodup
      rw [he]
      exact List.Sublist.nodup (List.Sublist.map _ List.filter_sublist) h.nd
    · show st.firm[b]? = _
      rw [flE, if_neg n3]; exact h.firm b hb
    · show ∃ c, (st.cache.set (wrN l n).f2.toNat (wrN l n).f3)[b]? = some c ∧ _
      rw [flE, if_neg n3]
      by_cases c : (wrN l n).f2 = b
      · have eu : uptoN l0 l (n + 1) b = (wrN l n).f3 := by unfold uptoN; rw [lastN, if_pos ⟨k, c⟩]; rfl
        refine ⟨(wrN l n).f3, ?_, .inr ⟨?_, eu.symm⟩⟩
        · rw [c, Int.toNat_natCast]; exact List.getElem?_set_self (by rw [h.wf.2.1]; exact hb)
        · intro e
          have := hd.1
          rw [← hwr, e] at this
          exact absurd this (by decide)
      · have eu : uptoN l0 l (n + 1) b = uptoN l0 l n b := by unfold uptoN; rw [lastN, if_neg (fun q => c q.2)]
        rw [eu, List.getElem?_set_ne (by rw [hwr] at c ⊢; omega)]
        exact h.cache b hb
    · have : i ≠ n := fun e => n1 (e ▸ h1)
      exact h.dat i (by omega) h1
  · -- a flush
    have n1 : (rd_T38 l n).f0 ≠ 1 := by rw [k]; decide
    have n2 : (rd_T38 l n).f0 ≠ 2 := by rw [k]; decide
    have ea : applyL st (rd_T38 l n) = flL st := by unfold applyL; rw [if_neg n1, if_neg n2]
    rw [if_neg n1]
    rw [ea] at hw ⊢
    refine ⟨fun id => ?_, fun i hi h1 => ?_, fun id hd => ?_, hw, ?_, h.nd, fun b hb => ?_, fun b hb => ?_, fun i hi h1 => ?_⟩
    · rw [sub_same n1]; exact h.ids id
    · rw [sub_same n1]
      have : i ≠ n := fun e => n1 (e ▸ h1)
      exact h.own i (by omega) h1
    · rw [sub_same n1]; rw [sub_same n2] at hd; exact h.don id hd
    · rw [outs_same hn n2 n1]; exact h.out
    · rw [flE, if_pos k, upto_same n2]
      obtain ⟨c, c1, c2⟩ := h.cache b hb
      show (List.zipWith (fun c f => if c = [] then f else c) st.cache st.firm)[b]? = _
      rw [List.getElem?_zipWith, c1, h.firm b hb]
      rcases c2 with ⟨rfl, e⟩ | ⟨q, e⟩
      · simp [e]
      · simp [q, ← e]
    · obtain ⟨c, c1, c2⟩ := h.cache b hb
      refine ⟨[], ?_, .inl ⟨rfl, ?_⟩⟩
      · show (st.cache.map (fun _ => []))[b]? = _
        rw [List.getElem?_map, c1]; rfl
      · rw [flE, if_pos k]
    · have : i ≠ n := fun e => n1 (e ▸ h1)
      exact h.dat i (by omega) h1
theorem run_iv {l0 : List (List Int)} {l : List S38} : ∀ (d n : Nat) (ids : List Int) (st : StL), n + d = l.length → IV l0 l n ids st →
    (evsL l0.length (l.drop n) ids st).1 = chkE l0.length l d n ∧ (chkE l0.length l d n = 0 → ∃ ids', IV l0 l l.length ids' (evsL l0.length (l.drop n) ids st).2)
  | 0, n, ids, st, h, hi => by
    obtain rfl : n = l.length := by omega
    rw [List.drop_length]
    exact ⟨rfl, fun _ => ⟨ids, hi⟩⟩
  | d + 1, n, ids, st, h, hi => by
    have hn : n < l.length := by omega
    rw [List.drop_eq_getElem_cons hn, ← rd38 l n hn, evsL, chkE, hi.wrong hn]
    by_cases c : evE l0.length l n = 0
    · rw [if_neg (show ¬ evE l0.length l n ≠ 0 from fun q => q c), if_neg (show ¬ evE l0.length l n ≠ 0 from fun q => q c)]
      exact run_iv d (n + 1) _ _ (by omega) (hi.next hn ((hi.wrong hn).trans c))
    · rw [if_pos (show evE l0.length l n ≠ 0 from c), if_pos (show evE l0.length l n ≠ 0 from c)]
      exact ⟨rfl, fun q => absurd q c⟩
theorem IV.first {l0 : List (List Int)} (l : List S38) (hb : ∀ b ∈ l0, b.length = 32) : IV l0 l 0 [] ⟨l0, List.replicate l0.length [], []⟩ := by
  refine ⟨fun id => ?_, fun i hi => by omega, fun id hd => ?_, ⟨rfl, List.length_replicate .., hb, fun b hm => .inl (List.eq_of_mem_replicate hm), fun o ho => by simp at ho⟩, rfl, List.nodup_nil, fun b hb => ?_, fun b hb => ?_, fun i hi => by omega⟩
  · unfold subN; simp
  · unfold subN at hd; omega
  · unfold flE uptoN lastN
    rw [rdL1 l0 b hb]; exact List.getElem?_eq_getElem hb
  · refine ⟨[], ?_, .inl ⟨rfl, rfl⟩⟩
    rw [List.getElem?_replicate, if_pos hb]
theorem after_iv (l0 : List (List Int)) (l : List S38) : (afterL l0 l).1 = checkE l0 l ∧ (checkE l0 l = 0 → ∃ ids, IV l0 l l.length ids (afterL l0 l).2) := by
  unfold afterL checkE
  by_cases c : l0.any badL = true
  · rw [if_pos c, if_pos c]; exact ⟨rfl, fun h => absurd h (by decide)⟩
  · rw [if_neg c, if_neg c]
    have := run_iv (l0 := l0) l.length 0 [] _ (by omega) (IV.first l (fun b hm => by
      have : badL b = false := by
        cases e : badL b with
        | false => rfl
        | true => exact absurd (List.any_eq_true.2 ⟨b, hm, e⟩) c
      unfold badL at this
      have : (b.length : Int) = 32 := by simpa using this
      omega))
    rw [List.drop_zero] at this
    exact this
end Go.Proofs.Ytghmkmpgfpkfmaa.X
