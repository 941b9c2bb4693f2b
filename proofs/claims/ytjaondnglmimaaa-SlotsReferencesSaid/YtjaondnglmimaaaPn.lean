/- What the reference's operations of chapter 32 compute. -/
import Derived.Test.YtjaondnglmimaaaPm
import Derived.Test.YtjaondnglmimaaaX8
import Derived.Test.YtjaondnglmimaaaWFoot
import Derived.Test.YtjaondnglmimaaaWMore
namespace Go.Proofs.Ytjaondnglmimaaa.X
open Go.RowKit Go.Proofs.YtjaondnglmimaaaW.PrintWords Go.Proofs.YtjaondnglmimaaaW.PrintLast Go.Proofs.YtjaondnglmimaaaW.PrintMore
set_option linter.unusedVariables false
set_option linter.unusedSimpArgs false

/-- An argument that a law reads is read beside whatever is made later. -/
theorem vs_of {A : Option Addr} {c : Nat} {l : List S41} {w : World} (h : Kd.C k41 w A l.length l) (hc : l.length ≤ c) : Kd.V k41 41 w w.heap.size (fun _ => True) (.slice A l.length c) l :=
  Kd.V_mk hc (fun W' hW => Kd.Heap.C (Kd.heap_iso _ (Kd.heap_pair (Kd.heap_int .i64) (Kd.heap_int .i64))) (fun k hk => hW k trivial hk) h)
theorem take_snoc (l : List S41) (i : Nat) (h : i < l.length) : l.take i ++ [(⟨(rd_T41 l i).f0, (rd_T41 l i).f1⟩ : S41)] = l.take (i + 1) := by
  rw [show (⟨(rd_T41 l i).f0, (rd_T41 l i).f1⟩ : S41) = rd_T41 l i from rfl, rd_nat l i h, List.take_succ_eq_append_getElem h]
theorem refCopy_l0 (l : List S41) (hl : l.length ≤ 1000) : ∀ (d k i : Nat), l.length - i = d → i ≤ l.length → d < k → estoversref32_Copy.l0 k l (l.take i) i = some l
  | d, 0, i, _, _, h => absurd h (by omega)
  | 0, k + 1, i, h0, h1, _ => by
    simp only [estoversref32_Copy.l0]
    rw [if_neg (by omega), List.take_of_length_le (by omega)]
  | d + 1, k + 1, i, h0, h1, h2 => by
    simp only [estoversref32_Copy.l0]
    rw [if_pos (by omega), if_pos (by omega), if_pos (by rw [List.length_take]; omega), take_snoc l i (by omega), wrap_nat i (by omega)]
    exact refCopy_l0 l hl d k (i + 1) (by omega) (by omega) (by omega)
theorem refCopy_ev (l : List S41) (hl : l.length ≤ 1000) : Ev (fun k => estoversref32_Copy.f k l) l :=
  Ev.of (fun k => estoversref32_Copy.mono l k) (k := l.length + 1) (by
    unfold estoversref32_Copy.f
    exact refCopy_l0 l hl l.length (l.length + 1) 0 (by omega) (by omega) (by omega))
theorem idx_off (p : S41 → Bool) : ∀ (l : List S41) (k : Int), 0 ≤ k → idxFrom p l k = -1 ∨ (k ≤ idxFrom p l k ∧ idxFrom p l k < k + l.length)
  | [], k, _ => .inl rfl
  | x :: l, k, h => by
    unfold idxFrom
    split
    · right; simp; omega
    · rcases idx_off p l (k + 1) (by omega) with e | e
      · exact .inl e
      · right; simp; omega
/-- From i on: the first free slot is taken. -/
def takeAt (l : List S41) (x : Int) : List S41 × Int × Int := if x < 0 then ([], 0, 8) else (l.set x.toNat ⟨1, 0⟩, x, 0)
theorem refAlloc_l0 (l : List S41) (hl : l.length ≤ 1000) : ∀ (d i : Nat), l.length - i = d → i ≤ l.length → Ev (fun k => estoversref32_Alloc.l0 k l i) (takeAt l (idxFrom freeS (l.drop i) i))
  | 0, i, h0, h1 => by
    refine Ev.step (fun k => by rw [estoversref32_Alloc.l0]) ?_
    rw [List.drop_eq_nil_of_le (by omega)]
    exact Ev.neg (by omega) (Ev.now _)
  | d + 1, i, h0, h1 => by
    refine Ev.step (fun k => by rw [estoversref32_Alloc.l0]) ?_
    rw [idxFrom_drop freeS l i (by omega)]
    refine Ev.pos (by omega) (Ev.pos (by omega) ?_)
    by_cases c : (rd_T41 l i).f0 = 0
    · rw [if_pos (by simpa [freeS] using c)]
      refine Ev.pos c (Ev.bind (refCopy_ev l hl) (Ev.pos (by omega) ?_))
      unfold takeAt
      rw [if_neg (by omega)]
      exact Ev.now _
    · rw [if_neg (by simpa [freeS] using c)]
      refine Ev.neg c ?_
      rw [wrap_nat i (by omega)]
      have := refAlloc_l0 l hl d (i + 1) (by omega) (by omega)
      exact this
theorem refAlloc_ev (l : List S41) : Ev (fun k => estoversref32_Alloc.f k l) (allocF l) := by
  unfold estoversref32_Alloc.f allocF
  refine Ev.bind (refCheck_ev l) ?_
  by_cases h : chk l = 0
  · rw [if_neg (by simp [h])]
    refine Ev.pos h ?_
    have := refAlloc_l0 l (by have := ((chk_zero l).1 h).1; omega) l.length 0 (by omega) (by omega)
    exact this
  · rw [if_pos h]; exact Ev.neg h (Ev.now _)
def usedE (l : List S41) (a : Int) : Int := if chk l = 0 then (if here l a = true then 0 else 6) else chk l
theorem usedE_bad (l : List S41) (a : Int) (h : chk l ≠ 0) : usedE l a = chk l := by unfold usedE; rw [if_neg h]
theorem usedE_no (l : List S41) (a : Int) (h : chk l = 0) (h2 : ¬ here l a = true) : usedE l a = 6 := by unfold usedE; rw [if_pos h, if_neg h2]
theorem usedE_ok (l : List S41) (a : Int) (h : chk l = 0) (h2 : here l a = true) : usedE l a = 0 := by unfold usedE; rw [if_pos h, if_pos h2]
theorem refused_ev (l : List S41) (a : Int) : Ev (fun k => estoversref32_used.f k l a) (usedE l a) := by
  unfold estoversref32_used.f
  refine Ev.bind (refCheck_ev l) ?_
  by_cases h : chk l = 0
  · refine Ev.pos h ?_
    by_cases c0 : a < 0
    · rw [usedE_no l a h (by rw [here_iff]; omega)]; exact Ev.pos c0 (Ev.now _)
    · refine Ev.neg c0 ?_
      by_cases c1 : a ≥ (l.length : Int)
      · rw [usedE_no l a h (by rw [here_iff]; omega)]; exact Ev.pos c1 (Ev.now _)
      · refine Ev.neg c1 (Ev.pos (by omega) (Ev.pos (by omega) ?_))
        by_cases c2 : (rd_T41 l a).f0 = 0
        · rw [usedE_no l a h (by rw [here_iff]; simp [c2])]; exact Ev.pos c2 (Ev.now _)
        · rw [usedE_ok l a h ((here_iff l a).2 ⟨by omega, by omega, c2⟩), h]; exact Ev.neg c2 (Ev.now _)
  · rw [usedE_bad l a h]; exact Ev.neg h (Ev.now _)
/-- The shape that all operations on a slot share. -/
theorem wth_ev (l : List S41) (a : Int) (F : S41 → Int × S41) (g : Nat → Int → Option (List S41 × Int))
    (hbad : ∀ k e, e ≠ 0 → g k e = some ([], e)) (hgood : chk l = 0 → here l a = true → Ev (fun k => g k 0) (if (F (rd_T41 l a)).1 ≠ 0 then ([], (F (rd_T41 l a)).1) else (l.set a.toNat (F (rd_T41 l a)).2, 0))) :
    Ev (fun k => (estoversref32_used.f k l a).bind (g k)) (wth l a F) := by
  refine Ev.bind (refused_ev l a) ?_
  unfold usedE wth
  by_cases h : chk l = 0
  · rw [if_pos h, if_neg (c := chk l ≠ 0) (by simp [h])]
    by_cases h2 : here l a = true
    · rw [if_pos h2, if_neg (c := here l a = false) (by simp [h2])]
      exact hgood h h2
    · rw [if_neg h2, if_pos (c := here l a = false) (by simpa using h2)]
      refine Ev.congr (fun k => hbad k 6 (by decide)) (Ev.now _)
  · rw [if_neg h, if_pos (c := chk l ≠ 0) h]
    exact Ev.congr (fun k => hbad k _ h) (Ev.now _)
theorem bad_bd {x : S41} (h : bad x = false) : 0 ≤ x.f0 ∧ x.f0 ≤ 3 ∧ 0 ≤ x.f1 ∧ x.f1 ≤ 1048576 := by
  unfold bad at h; simp at h; omega
theorem refDup_ev (l : List S41) (a : Int) : Ev (fun k => estoversref32_Dup.f k l a) (wth l a dupF) := by
  unfold estoversref32_Dup.f
  refine wth_ev l a dupF _ (fun k e he => if_neg he) (fun h h2 => ?_)
  obtain ⟨a0, a1, _⟩ := (here_iff l a).1 h2
  have hb := bad_bd (chk_at h a a0 a1).1
  refine Ev.pos rfl (Ev.pos a0 (Ev.pos a1 ?_))
  unfold dupF
  by_cases c : (rd_T41 l a).f1 = 1048576
  · rw [if_pos c]; exact Ev.pos c (Ev.now _)
  · rw [if_neg c]
    refine Ev.neg c (Ev.bind (refCopy_ev l (by have := ((chk_zero l).1 h).1; omega)) (Ev.pos a1 ?_))
    rw [wrap_id _ (by omega) (by omega)]
    exact Ev.now _
theorem refRelease_ev (l : List S41) (a : Int) : Ev (fun k => estoversref32_Release.f k l a) (wth l a relF) := by
  unfold estoversref32_Release.f
  refine wth_ev l a relF _ (fun k e he => if_neg he) (fun h h2 => ?_)
  obtain ⟨a0, a1, _⟩ := (here_iff l a).1 h2
  refine Ev.pos rfl (Ev.pos a0 (Ev.pos a1 ?_))
  unfold relF
  by_cases c : (rd_T41 l a).f1 = 0
  · rw [if_neg (c := (rd_T41 l a).f1 ≠ 0) (by simp [c])]
    exact Ev.pos c (Ev.bind (refCopy_ev l (by have := ((chk_zero l).1 h).1; omega)) (Ev.pos a1 (Ev.now _)))
  · rw [if_pos (c := (rd_T41 l a).f1 ≠ 0) c]; exact Ev.neg c (Ev.now _)
theorem refPlace_ev (l : List S41) (a p : Int) : Ev (fun k => estoversref32_Place.f k l a p) (wth l a (plcF p)) := by
  unfold estoversref32_Place.f
  refine wth_ev l a (plcF p) _ (fun k e he => if_neg he) (fun h h2 => ?_)
  obtain ⟨a0, a1, _⟩ := (here_iff l a).1 h2
  have hc := refCopy_ev l (by have := ((chk_zero l).1 h).1; omega)
  refine Ev.pos rfl ?_
  unfold plcF
  by_cases c1 : p = 1
  · rw [if_neg (c := p < 1 ∨ 3 < p) (by omega)]
    exact Ev.pos c1 (Ev.bind hc (Ev.pos a0 (Ev.pos a1 (Ev.now _))))
  · refine Ev.neg c1 ?_
    by_cases c2 : p = 2
    · rw [if_neg (c := p < 1 ∨ 3 < p) (by omega)]
      exact Ev.pos c2 (Ev.bind hc (Ev.pos a0 (Ev.pos a1 (Ev.now _))))
    · refine Ev.neg c2 ?_
      by_cases c3 : p = 3
      · rw [if_neg (c := p < 1 ∨ 3 < p) (by omega)]
        exact Ev.pos c3 (Ev.bind hc (Ev.pos a0 (Ev.pos a1 (Ev.now _))))
      · rw [if_pos (c := p < 1 ∨ 3 < p) (by omega)]
        exact Ev.neg c3 (Ev.now _)
theorem refDrop_ev (l : List S41) (a : Int) (held : Bool) : Ev (fun k => estoversref32_Drop.f k l a held) ((wth l a (dropF held)).1, drops l a held, (wth l a (dropF held)).2) := by
  unfold estoversref32_Drop.f
  refine Ev.bind (refused_ev l a) ?_
  by_cases h : chk l = 0
  · by_cases h2 : here l a = true
    · rw [usedE_ok l a h h2]
      obtain ⟨a0, a1, _⟩ := (here_iff l a).1 h2
      have hb := bad_bd (chk_at h a a0 a1).1
      refine Ev.pos rfl (Ev.pos a0 (Ev.pos a1 ?_))
      by_cases c : (rd_T41 l a).f1 = 0
      · have hf : dropF held (rd_T41 l a) = (11, rd_T41 l a) := by unfold dropF; rw [if_pos c]
        have hw : wth l a (dropF held) = ([], 11) := by unfold wth; rw [if_neg (by simp [h]), if_neg (by simp [h2]), hf, if_pos (show (11 : Int) ≠ 0 by decide)]
        have hd : drops l a held = false := by unfold drops; simp [c]
        rw [hw, hd]
        exact Ev.pos c (Ev.now _)
      · refine Ev.neg c (Ev.bind (refCopy_ev l (by have := ((chk_zero l).1 h).1; omega)) (Ev.pos a1 (Ev.had rfl ?_)))
        rw [wrap_id _ (by omega) (by omega), rd_set_same l a _ a0 a1]
        by_cases c1 : (rd_T41 l a).f1 = 1
        · refine Ev.pos (show (rd_T41 l a).f1 - 1 = 0 from by omega) ?_
          cases held with
          | true =>
            have hf : dropF true (rd_T41 l a) = (0, ⟨(rd_T41 l a).f0, (rd_T41 l a).f1 - 1⟩) := by unfold dropF; rw [if_neg c, if_neg (by simp)]
            have hw := wth_yes l a (dropF true) h h2 (by rw [hf])
            have hd : drops l a true = false := by unfold drops; simp
            rw [hw, hd, hf]
            exact Ev.pos rfl (Ev.now _)
          | false =>
            have hf : dropF false (rd_T41 l a) = (0, ⟨0, 0⟩) := by unfold dropF; rw [if_neg c, if_pos ⟨c1, rfl⟩]
            have hw := wth_yes l a (dropF false) h h2 (by rw [hf])
            have hd : drops l a false = true := by unfold drops; simp [h, h2, c1]
            rw [hw, hd, hf, List.set_set]
            exact Ev.neg (by simp) (Ev.now _)
        · refine Ev.neg (show ¬ (rd_T41 l a).f1 - 1 = 0 from by omega) ?_
          have hf : dropF held (rd_T41 l a) = (0, ⟨(rd_T41 l a).f0, (rd_T41 l a).f1 - 1⟩) := by unfold dropF; rw [if_neg c, if_neg (by simp [c1])]
          have hw := wth_yes l a (dropF held) h h2 (by rw [hf])
          have hd : drops l a held = false := by unfold drops; simp [c1]
          rw [hw, hd, hf]
          exact Ev.now _
    · rw [usedE_no l a h h2]
      have e : here l a = false := by simpa using h2
      have hw : wth l a (dropF held) = ([], 6) := by unfold wth; rw [if_neg (by simp [h]), if_pos e]
      have hd : drops l a held = false := by unfold drops; simp [e]
      rw [hw, hd]
      exact Ev.neg (by decide) (Ev.now _)
  · rw [usedE_bad l a h]
    have hw : wth l a (dropF held) = ([], chk l) := by unfold wth; rw [if_pos h]
    have hd : drops l a held = false := by unfold drops; simp [h]
    rw [hw, hd]
    exact Ev.neg h (Ev.now _)
theorem allocF_len (l : List S41) : (allocF l).1.length ≤ l.length := by
  unfold allocF; split
  · simp
  · split
    · simp
    · simp
theorem wth_len (l : List S41) (a : Int) (F : S41 → Int × S41) : (wth l a F).1.length ≤ l.length := by
  unfold wth; split
  · simp
  · split
    · simp
    · split <;> simp
end Go.Proofs.Ytjaondnglmimaaa.X
