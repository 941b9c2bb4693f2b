/- The plain statement of SlotsReferences. -/
import Derived.Test.YtjaondnglmimaaaPn
import Derived.Test.YtjaondnglmimaaaX6
import Derived.Test.YtjaondnglmimaaaRd
namespace Go.Proofs.Ytjaondnglmimaaa.X
open Go.RowKit Go.Proofs.YtjaondnglmimaaaW.PrintWords
set_option linter.unusedVariables false
def us (x : S41) : Bool := !(x.f0 == 0)
/-- What the law knows behind i operations. -/
structure R (l : List S41) (i : Nat) (refs : List Int) (used : List Bool) : Prop where
  ck : chk l = 0
  le : l.length ≤ 8
  rf : refs = l.map S41.f1
  ud : used = l.map us
  mx : ∀ x ∈ l, x.f1 ≤ i
theorem R.next {l : List S41} {i : Nat} {refs : List Int} {used : List Bool} (h : R l i refs used) : R l (i + 1) refs used := ⟨h.ck, h.le, h.rf, h.ud, fun x hx => by have := h.mx x hx; omega⟩
theorem R.set {l : List S41} {i : Nat} {refs : List Int} {used : List Bool} (h : R l i refs used) (a : Nat) (x : S41) (h1 : bad x = false) (h2 : lone x = false) (h3 : x.f1 ≤ i + 1) : R (l.set a x) (i + 1) (refs.set a x.f1) (used.set a (us x)) := by
  refine ⟨chk_set h.ck a x h1 h2, by rw [List.length_set]; exact h.le, by rw [h.rf, List.map_set], by rw [h.ud, List.map_set], fun y hy => ?_⟩
  rcases List.mem_or_eq_of_mem_set hy with hy | rfl
  · have := h.mx y hy; omega
  · omega
theorem rd_refs {l : List S41} {i : Nat} {refs : List Int} {used : List Bool} (h : R l i refs used) (a : Nat) (ha : a < l.length) : rd refs a = (rd_T41 l a).f1 := by
  unfold rd
  rw [h.rf, rd_nat l a ha, List.getD_eq_getElem?_getD, Int.toNat_natCast, List.getElem?_map, List.getElem?_eq_getElem ha]; rfl
theorem rd_used {l : List S41} {i : Nat} {refs : List Int} {used : List Bool} (h : R l i refs used) (a : Nat) (ha : a < l.length) : rdOf false used a = us (rd_T41 l a) := by
  unfold rdOf
  rw [h.ud, rd_nat l a ha, List.getD_eq_getElem?_getD, Int.toNat_natCast, List.getElem?_map, List.getElem?_eq_getElem ha]; rfl
theorem set_same {α β : Type} (f : α → β) (l : List α) (a : Nat) (ha : a < l.length) (y : β) (h : y = f l[a]) : (l.map f).set a y = l.map f := by
  refine List.ext_getElem? (fun j => ?_)
  rw [List.getElem?_set]
  by_cases c : a = j
  · subst c
    rw [if_pos rfl, if_pos (by rw [List.length_map]; exact ha), List.getElem?_map, List.getElem?_eq_getElem ha, h]; rfl
  · rw [if_neg c]
theorem R.refs_same {l : List S41} {i : Nat} {refs : List Int} {used : List Bool} (h : R l i refs used) (a : Nat) (ha : a < l.length) (y : Int) (e : y = (rd_T41 l a).f1) : refs.set a y = refs := by
  rw [h.rf]; exact set_same S41.f1 l a ha y (by rw [e, rd_nat l a ha])
theorem R.used_same {l : List S41} {i : Nat} {refs : List Int} {used : List Bool} (h : R l i refs used) (a : Nat) (ha : a < l.length) (y : Bool) (e : y = us (rd_T41 l a)) : used.set a y = used := by
  rw [h.ud]; exact set_same us l a ha y (by rw [e, rd_nat l a ha])
theorem R.rl {l : List S41} {i : Nat} {refs : List Int} {used : List Bool} (h : R l i refs used) : refs.length = l.length := by rw [h.rf, List.length_map]
theorem R.ul {l : List S41} {i : Nat} {refs : List Int} {used : List Bool} (h : R l i refs used) : used.length = l.length := by rw [h.ud, List.length_map]
theorem cnt_take (l : List S41) (j : Nat) (h : j < l.length) : cnt (l.take (j + 1)) = cnt (l.take j) + (if us (rd_T41 l j) = true then 1 else 0) := by
  have key : ∀ (a b : List S41), cnt (a ++ b) = cnt a + cnt b := by
    intro a b
    induction a with
    | nil => simp [cnt]
    | cons x a ih => rw [List.cons_append, cnt, cnt, ih]; omega
  rw [List.take_succ_eq_append_getElem h, key, ← rd_nat l j h]
  congr 1
  unfold us
  by_cases c : (rd_T41 l j).f0 = 0
  · simp [cnt, c]
  · simp [cnt, c]
theorem ref_l2 (l : List S41) (refs : List Int) (used : List Bool) (i : Nat) (h : R l i refs used) (ops : List S34) (N : Int) (p : Nat) (hp : p ≤ 1000)
    (H : Ev (fun k => estoverslaw32_SlotsReferences.l0 k l refs used ops N (p + 1 : Nat)) true) : ∀ (d j : Nat), j + d = l.length → Ev (fun k => estoverslaw32_SlotsReferences.l2 k l refs used (cnt (l.take j)) ops N p l l.length j) true
  | 0, j, e => by
    refine Ev.step (fun k => by rw [estoverslaw32_SlotsReferences.l2]) ?_
    refine Ev.neg (by omega) (Ev.bind (sUsed_ev l) ?_)
    rw [List.take_of_length_le (by omega)]
    refine Ev.pos (by unfold usd; rw [if_pos h.ck]) ?_
    rw [wrap_nat p (by omega)]; exact H
  | d + 1, j, e => by
    refine Ev.step (fun k => by rw [estoverslaw32_SlotsReferences.l2]) ?_
    have ih := ref_l2 l refs used i h ops N p hp H d (j + 1) (by omega)
    have hle := h.le
    have hc := cnt_bd (l.take j)
    have hu : isf l j = !(us (rd_T41 l j)) := by
      unfold isf us
      rw [h.ck, decide_eq_true (by omega : (0 : Int) ≤ (j : Int)), decide_eq_true (by omega : ((j : Nat) : Int) < (l.length : Int))]; simp
    refine Ev.pos (by omega) (Ev.pos (by omega) (Ev.pos (by omega) (Ev.pos (by rw [h.rl]; omega) (Ev.pos (rd_refs h j (by omega)).symm (Ev.had (sIsFree_eq l j) (Ev.pos (by rw [h.ul]; omega) ?_))))))
    rw [rd_used h j (by omega), hu]
    refine Ev.step (fun k => by rw [estoverslaw32_SlotsReferences.j13]) ?_
    refine Ev.neg (by cases us (rd_T41 l j) <;> decide) (Ev.pos (by omega) (Ev.pos (by rw [h.ul]; omega) ?_))
    rw [rd_used h j (by omega)]
    rw [cnt_take l j (by omega)] at ih
    rw [List.length_take] at hc
    by_cases c : us (rd_T41 l j) = true
    · rw [if_pos c] at ih
      refine Ev.pos c ?_
      rw [wrap_nat j (by omega), wrap_id _ (by omega) (by omega)]
      exact ih
    · rw [if_neg c, Int.add_zero] at ih
      refine Ev.neg c ?_
      rw [wrap_nat j (by omega)]
      exact ih
theorem ref_j10 (l : List S41) (refs : List Int) (used : List Bool) (i : Nat) (h : R l i refs used) (ops : List S34) (N : Int) (p : Nat) (hp : p ≤ 1000)
    (H : Ev (fun k => estoverslaw32_SlotsReferences.l0 k l refs used ops N (p + 1 : Nat)) true) : Ev (fun k => estoverslaw32_SlotsReferences.j10 k l refs used ops N p) true := by
  refine Ev.step (fun k => by rw [estoverslaw32_SlotsReferences.j10]) ?_
  refine Ev.pos (by rw [h.rl]) (Ev.had (x := chk l) rfl ?_)
  rw [h.ck]
  refine Ev.step (fun k => by rw [estoverslaw32_SlotsReferences.j11]) ?_
  exact Ev.neg (by decide) (ref_l2 l refs used i h ops N p hp H l.length 0 (by omega))
theorem here_us (l : List S41) (a : Nat) (ha : a < l.length) : here l a = us (rd_T41 l a) := by
  unfold here us
  rw [decide_eq_true (by omega : (0 : Int) ≤ (a : Int)), decide_eq_true (by omega : ((a : Nat) : Int) < (l.length : Int))]; simp
theorem wth_free (l : List S41) (a : Int) (F : S41 → Int × S41) (h1 : chk l = 0) (h2 : ¬ here l a = true) : wth l a F = ([], 6) := by
  unfold wth; simp [h1, h2]
theorem wth_fail (l : List S41) (a : Int) (F : S41 → Int × S41) (h1 : chk l = 0) (h2 : here l a = true) (h3 : (F (rd_T41 l a)).1 ≠ 0) : (wth l a F).2 = (F (rd_T41 l a)).1 := by
  unfold wth; simp [h1, h2, h3]
theorem ref_l1 (l : List S41) (refs : List Int) (used : List Bool) (i : Nat) (h : R l i refs used) (g : List S41) (x e : Int) (ops : List S34) (N : Int) (p : Nat)
    (H : ∀ low : Nat, (low = l.length ∧ idx freeS l < 0 ∨ low < l.length ∧ idx freeS l = low) → Ev (fun k => estoverslaw32_SlotsReferences.j4 k l refs used g x e low ops N p) true) : ∀ (d j : Nat), j + d = l.length → idx freeS l = idxFrom freeS (l.drop j) j → Ev (fun k => estoverslaw32_SlotsReferences.l1 k l refs used g x e j ops N p) true
  | 0, j, e1, e2 => by
    refine Ev.step (fun k => by rw [estoverslaw32_SlotsReferences.l1]) ?_
    rw [List.drop_of_length_le (by omega)] at e2
    have : idx freeS l = -1 := e2
    exact Ev.neg (by rw [h.ul]; omega) (H j (.inl ⟨by omega, by omega⟩))
  | d + 1, j, e1, e2 => by
    refine Ev.step (fun k => by rw [estoverslaw32_SlotsReferences.l1]) ?_
    have hle := h.le
    rw [List.drop_eq_getElem_cons (by omega), idxFrom, ← rd_nat l j (by omega)] at e2
    refine Ev.pos (by rw [h.ul]; omega) (Ev.pos (by omega) ?_)
    rw [rd_used h j (by omega)]
    by_cases c : us (rd_T41 l j) = true
    · have hf : freeS (rd_T41 l j) = false := by unfold us at c; unfold freeS; simpa using c
      rw [hf, if_neg (by decide)] at e2
      refine Ev.pos c ?_
      rw [wrap_nat j (by omega)]
      exact ref_l1 l refs used i h g x e ops N p H d (j + 1) (by omega) e2
    · have hf : freeS (rd_T41 l j) = true := by unfold us at c; unfold freeS; simpa using c
      rw [hf, if_pos rfl] at e2
      exact Ev.neg c (H j (.inr ⟨by omega, e2⟩))
theorem ref_kind (l : List S41) (refs : List Int) (used : List Bool) (i : Nat) (hi : i ≤ 60) (h : R l i refs used) (ops : List S34) (N : Int) (p : Nat) (hp : p ≤ 1000) (kd s pl : Int) (inn : Bool) (hin : inn = here l s)
    (H : ∀ l' refs' used', R l' (i + 1) refs' used' → Ev (fun k => estoverslaw32_SlotsReferences.l0 k l' refs' used' ops N (p + 1 : Nat)) true) :
    Ev (fun k => estoverslaw32_SlotsReferences.j2 k l refs used s inn ops N p kd s pl) true := by
  have J : ∀ l' refs' used', R l' (i + 1) refs' used' → Ev (fun k => estoverslaw32_SlotsReferences.j10 k l' refs' used' ops N p) true := fun l' refs' used' q => ref_j10 l' refs' used' (i + 1) q ops N p hp (H l' refs' used' q)
  have hle := h.le
  -- what is known of a slot in use
  have inU : inn = true → ∃ a : Nat, s = a ∧ a < l.length ∧ us (rd_T41 l a) = true ∧ bad (rd_T41 l a) = false ∧ lone (rd_T41 l a) = false ∧ (rd_T41 l a).f1 ≤ i := fun q => by
    rw [hin] at q
    have q' := q
    unfold here at q'
    simp only [Bool.and_eq_true, decide_eq_true_eq] at q'
    obtain ⟨a, rfl⟩ : ∃ a : Nat, s = a := ⟨s.toNat, by omega⟩
    have ha : a < l.length := by omega
    have hb := chk_at h.ck a (by omega) (by omega)
    refine ⟨a, rfl, ha, by rw [← here_us l a ha]; exact q, hb.1, hb.2, ?_⟩
    rw [rd_nat l a ha]; exact h.mx _ (List.getElem_mem _)
  refine Ev.step (fun k => by rw [estoverslaw32_SlotsReferences.j2]) ?_
  by_cases k0 : kd = 0
  · refine Ev.pos k0 (Ev.had (x := allocF l) rfl ?_)
    refine ref_l1 l refs used i h _ _ _ ops N p (fun low hlow => ?_) l.length 0 (by omega) rfl
    refine Ev.step (fun k => by rw [estoverslaw32_SlotsReferences.j4]) ?_
    rcases hlow with ⟨e1, e2⟩ | ⟨e1, e2⟩
    · have ha : allocF l = ([], 0, 8) := by unfold allocF; rw [if_neg (by simp [h.ck]), if_pos e2]
      rw [ha]
      refine Ev.neg (by rw [h.ul, decide_eq_false (by omega)]; decide) (Ev.neg (by decide) (Ev.step (fun k => by rw [estoverslaw32_SlotsReferences.j5]) (Ev.neg (by decide) (Ev.neg (by decide) ?_))))
      exact J _ _ _ h.next
    · have ha : allocF l = (l.set low ⟨1, 0⟩, (low : Int), 0) := by unfold allocF; rw [if_neg (by simp [h.ck]), e2, if_neg (by omega), Int.toNat_natCast]
      rw [ha]
      refine Ev.neg (by rw [h.ul, decide_eq_true (by omega)]; exact Bool.false_ne_true) (Ev.pos rfl (Ev.step (fun k => by rw [estoverslaw32_SlotsReferences.j5]) (Ev.neg (by simp) (Ev.pos rfl (Ev.pos (by omega) (Ev.pos (by rw [h.ul]; omega) (Ev.pos (by rw [h.rl]; omega) ?_)))))))
      rw [Int.toNat_natCast]
      exact J _ _ _ (h.set low ⟨1, 0⟩ rfl rfl (by show (0 : Int) ≤ _; omega))
  refine Ev.neg k0 ?_
  by_cases k1 : kd = 1
  · refine Ev.pos k1 (Ev.had (x := wth l s dupF) rfl ?_)
    cases c : inn with
    | true =>
      obtain ⟨a, rfl, ha, hu, hb, hlo, hm⟩ := inU c
      have hd : dupF (rd_T41 l a) = (0, ⟨(rd_T41 l a).f0, (rd_T41 l a).f1 + 1⟩) := by unfold dupF; rw [if_neg (by omega)]
      have hw := wth_yes l a dupF h.ck (by rw [← hin]; exact c) (by rw [hd])
      rw [hd] at hw
      rw [hw]
      refine Ev.neg Bool.false_ne_true (Ev.pos rfl (Ev.pos (by omega) (Ev.pos (by rw [h.rl]; omega) ?_)))
      have hbb := bad_bd hb
      rw [rd_refs h a ha, wrap_id _ (by omega) (by omega), Int.toNat_natCast]
      have hf0 : (rd_T41 l a).f0 ≠ 0 := by unfold us at hu; simpa using hu
      have hR := h.set a ⟨(rd_T41 l a).f0, (rd_T41 l a).f1 + 1⟩ (by unfold bad; simp only [Bool.or_eq_false_iff, decide_eq_false_iff_not]; omega) (by unfold lone; simp [hf0]) (by show (rd_T41 l a).f1 + 1 ≤ _; omega)
      rw [h.used_same a ha (us ⟨(rd_T41 l a).f0, (rd_T41 l a).f1 + 1⟩) rfl] at hR
      exact J _ _ _ hR
    | false =>
      rw [wth_free l s dupF h.ck (by rw [← hin, c]; decide)]
      exact Ev.neg (by decide) (Ev.neg (by decide) (J _ _ _ h.next))
  refine Ev.neg k1 ?_
  -- a drop
  have drop : ∀ held : Bool, held = (kd == 3) → (held = false → kd = 2) → Ev (fun k => (slots_Drop.f l s (kd == 3)).bind fun bt217 => (if inn = true then (if 0 ≤ s then (if s < (refs.length : Int) then (estoverslaw32_SlotsReferences.j7 k l refs used s bt217.1 bt217.2.1 bt217.2.2 (decide ((rd refs s) > 0)) ops N p kd s pl) else (none)) else (none)) else (estoverslaw32_SlotsReferences.j7 k l refs used s bt217.1 bt217.2.1 bt217.2.2 false ops N p kd s pl))) true := by
    intro held hh hk
    rw [← hh]
    have hk2 : (kd == 2) = !held := by
      cases held with
      | false => rw [hk rfl]; decide
      | true => have := beq_iff_eq.1 hh.symm; rw [this]; decide
    refine Ev.had (x := ((wth l s (dropF held)).1, drops l s held, (wth l s (dropF held)).2)) rfl ?_
    cases c : inn with
    | true =>
      obtain ⟨a, rfl, ha, hu, hb, hlo, hm⟩ := inU c
      have hbb := bad_bd hb
      have hh2 : here l a = true := by rw [← hin]; exact c
      have hf0 : (rd_T41 l a).f0 ≠ 0 := by unfold us at hu; simpa using hu
      refine Ev.pos rfl (Ev.pos (by omega) (Ev.pos (by rw [h.rl]; omega) ?_))
      rw [rd_refs h a ha]
      by_cases z : (rd_T41 l a).f1 = 0
      · have hd : (dropF held (rd_T41 l a)).1 = 11 := by unfold dropF; rw [if_pos z]
        have hw := wth_fail l a (dropF held) h.ck hh2 (by rw [hd]; decide)
        rw [hd] at hw
        have hdr : drops l a held = false := by unfold drops; rw [z]; simp
        rw [decide_eq_false (by omega), hw, hdr]
        refine Ev.step (fun k => by rw [estoverslaw32_SlotsReferences.j7]) (Ev.neg (by exact Bool.false_ne_true) (Ev.neg (by exact Bool.false_ne_true) (Ev.step (fun k => by rw [estoverslaw32_SlotsReferences.j8]) (Ev.neg (by exact Bool.false_ne_true) (Ev.neg (by exact Bool.false_ne_true) ?_)))))
        exact J _ _ _ h.next
      · rw [decide_eq_true (by omega)]
        by_cases o : (rd_T41 l a).f1 = 1 ∧ held = false
        · have hd : dropF held (rd_T41 l a) = (0, ⟨0, 0⟩) := by unfold dropF; rw [if_neg z, if_pos o]
          have hw := wth_yes l a (dropF held) h.ck hh2 (by rw [hd])
          rw [hd] at hw
          have hdr : drops l a held = true := by unfold drops; rw [h.ck, hh2, o.1, o.2]; decide
          rw [hw, hdr]
          refine Ev.step (fun k => by rw [estoverslaw32_SlotsReferences.j7]) (Ev.neg (by exact Bool.false_ne_true) (Ev.pos rfl (Ev.pos (by omega) (Ev.pos (by rw [h.rl]; omega) ?_))))
          rw [rd_refs h a ha]
          refine Ev.pos o.1 (Ev.step (fun k => by rw [estoverslaw32_SlotsReferences.j8]) (Ev.neg (by rw [hk2, o.2]; exact Bool.false_ne_true) (Ev.pos rfl (Ev.pos (by omega) (Ev.pos (by rw [h.rl]; omega) (Ev.pos (by rw [h.ul]; omega) ?_))))))
          rw [rd_refs h a ha, o.1, Int.toNat_natCast, show wrap64 ((1 : Int) - 1) = 0 from by unfold wrap64; decide]
          have hR := h.set a ⟨0, 0⟩ rfl rfl (by show (0 : Int) ≤ _; omega)
          exact J _ _ _ hR
        · have hd : dropF held (rd_T41 l a) = (0, ⟨(rd_T41 l a).f0, (rd_T41 l a).f1 - 1⟩) := by unfold dropF; rw [if_neg z, if_neg o]
          have hw := wth_yes l a (dropF held) h.ck hh2 (by rw [hd])
          rw [hd] at hw
          have hdr : drops l a held = false := by
            unfold drops
            by_cases q : (rd_T41 l a).f1 = 1
            · have : held = true := by cases held with | true => rfl | false => exact absurd ⟨q, rfl⟩ o
              rw [this]; simp
            · simp [q]
          rw [hw, hdr]
          have fin : Ev (fun k => estoverslaw32_SlotsReferences.j8 k l refs used a (l.set (a : Int).toNat ⟨(rd_T41 l a).f0, (rd_T41 l a).f1 - 1⟩) false true ops N p false) true := by
            refine Ev.step (fun k => by rw [estoverslaw32_SlotsReferences.j8]) (Ev.neg (by decide) (Ev.pos rfl (Ev.pos (by omega) (Ev.pos (by rw [h.rl]; omega) (Ev.pos (by rw [h.ul]; omega) ?_)))))
            rw [rd_refs h a ha, wrap_id _ (by omega) (by omega), Int.toNat_natCast]
            have hR := h.set a ⟨(rd_T41 l a).f0, (rd_T41 l a).f1 - 1⟩ (by unfold bad; simp only [Bool.or_eq_false_iff, decide_eq_false_iff_not]; omega) (by unfold lone; simp [hf0]) (by show (rd_T41 l a).f1 - 1 ≤ _; omega)
            have e : us (⟨(rd_T41 l a).f0, (rd_T41 l a).f1 - 1⟩ : S41) = true := hu
            rw [e] at hR
            exact J _ _ _ hR
          refine Ev.step (fun k => by rw [estoverslaw32_SlotsReferences.j7]) (Ev.neg (by exact Bool.false_ne_true) (Ev.pos rfl (Ev.pos (by omega) (Ev.pos (by rw [h.rl]; omega) ?_))))
          rw [rd_refs h a ha]
          by_cases q : (rd_T41 l a).f1 = 1
          · have e3 : held = true := by cases held with | true => rfl | false => exact absurd ⟨q, rfl⟩ o
            refine Ev.pos q ?_
            rw [hk2, e3]
            exact fin
          · exact Ev.neg q fin
    | false =>
      have hnh : ¬ here l s = true := by rw [← hin, c]; decide
      have hdr : drops l s held = false := by unfold drops; rw [Bool.eq_false_iff.2 hnh]; simp
      rw [wth_free l s (dropF held) h.ck hnh, hdr]
      refine Ev.neg (by decide) (Ev.step (fun k => by rw [estoverslaw32_SlotsReferences.j7]) (Ev.neg (by decide) (Ev.neg (by decide) (Ev.step (fun k => by rw [estoverslaw32_SlotsReferences.j8]) (Ev.neg (by decide) (Ev.neg (by decide) ?_))))))
      exact J _ _ _ h.next
  by_cases k2 : kd = 2
  · refine Ev.pos k2 (Ev.step (fun k => by rw [estoverslaw32_SlotsReferences.j6]) (Ev.pos (beq_iff_eq.2 k2) ?_))
    exact drop false (by rw [k2]; decide) (fun _ => k2)
  refine Ev.neg k2 (Ev.step (fun k => by rw [estoverslaw32_SlotsReferences.j6]) ?_)
  by_cases k3 : kd = 3
  · refine Ev.pos (beq_iff_eq.2 k3) ?_
    exact drop true (by rw [k3]; decide) (fun q => by cases q)
  refine Ev.neg (fun q => k3 (beq_iff_eq.1 q)) ?_
  by_cases k4 : kd = 4
  · refine Ev.pos k4 (Ev.had (x := wth l s relF) rfl ?_)
    cases c : inn with
    | true =>
      obtain ⟨a, rfl, ha, hu, hb, hlo, hm⟩ := inU c
      have hh2 : here l a = true := by rw [← hin]; exact c
      refine Ev.pos rfl (Ev.pos (by omega) (Ev.pos (by rw [h.rl]; omega) ?_))
      rw [rd_refs h a ha]
      by_cases z : (rd_T41 l a).f1 = 0
      · have hd : relF (rd_T41 l a) = (0, ⟨0, 0⟩) := by unfold relF; rw [if_neg (fun q => q z)]
        have hw := wth_yes l a relF h.ck hh2 (by rw [hd])
        rw [hd] at hw
        rw [hw, z]
        refine Ev.step (fun k => by rw [estoverslaw32_SlotsReferences.j9]) (Ev.neg (by exact Bool.false_ne_true) (Ev.pos (by decide) (Ev.pos (by omega) (Ev.pos (by rw [h.ul]; omega) ?_))))
        rw [Int.toNat_natCast]
        have hR := h.set a ⟨0, 0⟩ rfl rfl (by show (0 : Int) ≤ _; omega)
        rw [h.refs_same a ha (S41.f1 ⟨0, 0⟩) z.symm] at hR
        exact J _ _ _ hR
      · have hd : (relF (rd_T41 l a)).1 = 21 := by unfold relF; rw [if_pos z]
        have hw := wth_fail l a relF h.ck hh2 (by rw [hd]; decide)
        rw [hd] at hw
        rw [hw, beq_eq_false_iff_ne.2 z]
        refine Ev.step (fun k => by rw [estoverslaw32_SlotsReferences.j9]) (Ev.neg (by decide) (Ev.neg (by decide) ?_))
        exact J _ _ _ h.next
    | false =>
      rw [wth_free l s relF h.ck (by rw [← hin, c]; decide)]
      refine Ev.neg (by decide) (Ev.step (fun k => by rw [estoverslaw32_SlotsReferences.j9]) (Ev.neg (by decide) (Ev.neg (by decide) ?_)))
      exact J _ _ _ h.next
  · exact Ev.neg k4 (J _ _ _ h.next)
theorem ref_l0 (ops : List S34) (ho : ops.length ≤ 60) : ∀ (d i : Nat) (l : List S41) (refs : List Int) (used : List Bool), i + d = ops.length → R l i refs used → Ev (fun k => estoverslaw32_SlotsReferences.l0 k l refs used ops ops.length i) true
  | 0, i, l, refs, used, e, h => by
    refine Ev.step (fun k => by rw [estoverslaw32_SlotsReferences.l0]) ?_
    exact Ev.neg (by omega) (Ev.now _)
  | d + 1, i, l, refs, used, e, h => by
    refine Ev.step (fun k => by rw [estoverslaw32_SlotsReferences.l0]) ?_
    refine Ev.pos (by omega) (Ev.pos (by omega) (Ev.pos (by omega) ?_))
    have H : ∀ l' refs' used', R l' (i + 1) refs' used' → Ev (fun k => estoverslaw32_SlotsReferences.l0 k l' refs' used' ops ops.length (i + 1 : Nat)) true := fun l' refs' used' q => ref_l0 ops ho d (i + 1) l' refs' used' (by omega) q
    have K : ∀ inn, inn = here l (rd_T34 ops i).f1 → Ev (fun k => estoverslaw32_SlotsReferences.j2 k l refs used (rd_T34 ops i).f1 inn ops ops.length i (rd_T34 ops i).f0 (rd_T34 ops i).f1 (rd_T34 ops i).f2) true := fun inn q => ref_kind l refs used i (by omega) h ops ops.length i (by omega) _ _ _ inn q H
    generalize rd_T34 ops i = o at *
    by_cases c : o.f1 ≥ 0
    · refine Ev.pos c ?_
      by_cases c2 : o.f1 < (refs.length : Int)
      · have c3 := c2
        rw [h.rl] at c3
        refine Ev.pos c2 (Ev.pos c (Ev.pos (by rw [h.ul]; exact c3) ?_))
        refine K _ ?_
        obtain ⟨a, ea⟩ : ∃ a : Nat, o.f1 = a := ⟨o.f1.toNat, by omega⟩
        rw [ea, rd_used h a (by omega), here_us l a (by omega)]
      · rw [h.rl] at c2
        exact Ev.neg (by rw [h.rl]; exact c2) (K false (by unfold here; rw [decide_eq_false c2]; simp))
    · exact Ev.neg c (K false (by unfold here; rw [decide_eq_false (show ¬ 0 ≤ o.f1 from c)]; simp))
end Go.Proofs.Ytjaondnglmimaaa.X
namespace Go.Proofs.Ytjaondnglmimaaa.Pure
open Go.RowKit Go.Proofs.Ytjaondnglmimaaa.X Go.Proofs.YtjaondnglmimaaaW.PrintWords
theorem SlotsReferences : ∀ (a0 : Int) (l1 : List (S34)), (Lit.int .u8 a0).wf = true → (Gl G34 l1) → ∃ k, estoverslaw32_SlotsReferences.f k a0 l1 = some true := by
  intro a ops hw _
  have hb : 0 ≤ a ∧ a ≤ 255 := by simpa [Lit.wf, IntKind.min, IntKind.max, IntKind.signed, IntKind.bits] using hw
  refine Ev.rounds ?_
  unfold estoverslaw32_SlotsReferences.f
  refine Ev.bind awake_ev (Ev.pos rfl (Ev.step (fun k => by rw [estoverslaw32_SlotsReferences.j0]) ?_))
  by_cases c : (ops.length : Int) > 60
  · exact Ev.pos (decide_eq_true c) (Ev.bind awake_ev (Ev.now _))
  refine Ev.neg (by rw [decide_eq_true_eq]; exact c) ?_
  obtain ⟨n, hn, hn1⟩ : ∃ n : Nat, Int.tmod (wrap64 a) 9 = n ∧ n ≤ 8 := by
    rw [show wrap64 a = a from by unfold wrap64; omega, Int.tmod_eq_emod_of_nonneg hb.1]
    exact ⟨(a % 9).toNat, by omega, by omega⟩
  rw [hn]
  have hN : newF (n : Int) = (List.replicate n z41, 0) := by unfold newF; rw [if_neg (by omega)]; simp
  refine Ev.had (x := (List.replicate n z41, 0)) (by rw [sNew_eq, hN]) (Ev.pos rfl (Ev.pos (by omega) (Ev.pos (by simp; omega) (Ev.pos (by simp; omega) ?_))))
  have e : ((List.replicate n z41).length : Int).toNat = n := by simp
  show Ev (fun k => estoverslaw32_SlotsReferences.l0 k (List.replicate n z41) (List.replicate ((List.replicate n z41).length : Int).toNat 0) (List.replicate ((List.replicate n z41).length : Int).toNat false) ops ops.length 0) true
  rw [e]
  refine ref_l0 ops (by omega) ops.length 0 _ _ _ (by omega) ⟨?_, by simp; omega, by simp [z41], by simp [z41, us], fun x hx => ?_⟩
  · refine (chk_zero _).2 ⟨by simp; omega, fun x hx => ?_, fun x hx => ?_⟩ <;> obtain ⟨_, rfl⟩ := List.mem_replicate.1 hx <;> rfl
  · obtain ⟨_, rfl⟩ := List.mem_replicate.1 hx; exact Int.le_refl _
end Go.Proofs.Ytjaondnglmimaaa.Pure
