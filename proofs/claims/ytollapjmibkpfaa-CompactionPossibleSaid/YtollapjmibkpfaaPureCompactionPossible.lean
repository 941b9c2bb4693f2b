/- The plain statement of CompactionPossible. -/
import Derived.Test.YtollapjmibkpfaaPq
import Derived.Test.YtollapjmibkpfaaK23
import Derived.Test.YtollapjmibkpfaaRd
namespace Go.Proofs.Ytollapjmibkpfaa.Pure
open Go.RowKit Go.Proofs.Ytollapjmibkpfaa.X Go.Proofs.YtollapjmibkpfaaW.PrintWords
/-- A block that is free bounds the lowest one. -/
theorem blkAt_le (l : List Int) (s i : Nat) (hs : 1 ≤ s) (hi : i + s ≤ l.length) (hf : ((l.drop i).take s).all isFree = true) : ∀ f a : Nat, a ≤ i → s ∣ (i - a) → l.length + 1 - a ≤ f → 0 ≤ blkAt isFree l s f a ∧ blkAt isFree l s f a ≤ i
  | 0, a, h0, h1, h2 => by omega
  | f + 1, a, h0, h1, h2 => by
    unfold blkAt
    rw [if_pos (by omega)]
    by_cases c : ((l.drop a).take s).all isFree = true
    · rw [if_pos c]; omega
    · rw [if_neg c]
      have hne : a ≠ i := by intro e; rw [e] at c; exact c hf
      obtain ⟨q, hq⟩ := h1
      have hq0 : q ≠ 0 := by intro e; rw [e] at hq; omega
      have hge : s ≤ i - a := by rw [hq]; exact Nat.le_mul_of_pos_right s (by omega)
      refine blkAt_le l s i hs hi hf f (a + s) (by omega) ⟨q - 1, ?_⟩ (by omega)
      rw [Nat.mul_sub, Nat.mul_one, ← hq]; omega
theorem blk_chk {l : List Int} (hk : chk l = 0) (i s : Nat) : chk ((l.drop i).take s) = 0 := by
  have := chk_len hk
  refine (chk_zero _).2 ⟨by rw [List.length_take, List.length_drop]; omega, fun x hx => chk_bad hk x (List.mem_of_mem_drop (List.mem_of_mem_take hx))⟩
/-- What Clear says of a block. -/
theorem clear_blk (l : List Int) (hk : chk l = 0) (i s : Nat) (hi : i + s ≤ l.length) : (clearF l i s).2 = 0 ↔ cntN 2 ((l.drop i).take s) = 0 ∧ (s : Int) ≤ cntN 0 l := by
  rw [clearF_in l i s hk (by omega), Int.toNat_natCast, Int.toNat_natCast]
  have b2 := cntN_bd 2 ((l.drop i).take s)
  have hsum := cntN_sum ((l.drop i).take s) (chk_bad (blk_chk hk i s))
  rw [List.length_take, List.length_drop, Nat.min_eq_left (by omega)] at hsum
  have hT := nT_all l i s hi
  by_cases c : cntN 2 ((l.drop i).take s) > 0
  · rw [if_pos c]; constructor
    · intro h; exact absurd h (by decide)
    · intro h; omega
  · rw [if_neg c]
    constructor
    · intro h
      refine ⟨by omega, ?_⟩
      by_cases q : nT l i (i + s) (l.length - 0) 0 < cntN 1 ((l.drop i).take s)
      · rw [fill_no l i (i + s) s i 0 [] (by omega) (by omega) q] at h; exact absurd h (by decide)
      · rw [Nat.sub_zero] at q; omega
    · intro h
      exact fill_yes l i (i + s) s i 0 [] (by omega) (by omega) (by rw [Nat.sub_zero]; omega)
theorem poss_enter (l : List Int) (hk : chk l = 0) (o w : Int) (i s : Nat) (hi : i + s ≤ l.length) (n1 n2 : Int) (r : Bool)
    (K : Ev (fun k => if (clearF l i s).2 = 0 then (estoverslaw40_CompactionPossible.j3 k l o s w i (clearF l i s).1 (decide (w ≥ 0)) (cntN 0 l) n1 n2) else (estoverslaw40_CompactionPossible.j3 k l o s w i (clearF l i s).1 true (cntN 0 l) n1 n2)) r) :
    Ev (fun k => estoverslaw40_CompactionPossible.l0 k l o s w i (cntN 0 l) n1 n2) r := by
  have hl := chk_len hk
  refine Ev.step (fun k => by rw [estoverslaw40_CompactionPossible.l0]) ?_
  rw [wrap_id ((i : Int) + s) (by omega) (by omega)]
  refine Ev.pos (by omega) (Ev.pos (by omega) (Ev.pos (by omega) ?_))
  have e1 : (l.take ((i : Int) + s).toNat).drop (i : Int).toNat = (l.drop i).take s := by
    rw [show ((i : Int) + s).toNat = i + s from by omega, Int.toNat_natCast, List.drop_take, show i + s - i = s from by omega]
  rw [e1]
  refine Ev.bind (kinds_valid _ (blk_chk hk i s)) (Ev.bind (clear_ev l i s) ?_)
  have hc := clear_blk l hk i s hi
  have j2 : ∀ x : Bool, x = false → Ev (fun k => estoverslaw40_CompactionPossible.j2 k l o s w i (clearF l i s).1 (clearF l i s).2 x (cntN 0 l) n1 n2) r := by
    intro x hx
    refine Ev.step (fun k => by rw [estoverslaw40_CompactionPossible.j2]) ?_
    exact Ev.neg (by simp [hx]) K
  by_cases c : cntN 2 ((l.drop i).take s) = 0
  · refine Ev.pos c (j2 _ ?_)
    by_cases q : (s : Int) ≤ cntN 0 l
    · rw [hc.2 ⟨c, q⟩, decide_eq_true (show cntN 0 l ≥ (s : Int) from q)]; rfl
    · have : (clearF l i s).2 ≠ 0 := fun h => q (hc.1 h).2
      rw [decide_eq_false (show ¬ cntN 0 l ≥ (s : Int) from q), show ((clearF l i s).2 == 0) = false from by simpa using this]; rfl
  · refine Ev.neg c (j2 _ ?_)
    have : (clearF l i s).2 ≠ 0 := fun h => c (hc.1 h).1
    rw [show ((clearF l i s).2 == 0) = false from by simpa using this]; rfl
theorem poss_skip (l : List Int) (hk : chk l = 0) (o w : Int) (i s : Nat) (hi : i + s ≤ l.length) (n1 n2 : Int) (r : Bool) (hc : ¬ (cntN 2 ((l.drop i).take s) = 0 ∧ (s : Int) ≤ cntN 0 l) ∨ 0 ≤ w)
    (K : Ev (fun k => estoverslaw40_CompactionPossible.l0 k l o s w (i + s : Nat) (cntN 0 l) n1 n2) r) : Ev (fun k => estoverslaw40_CompactionPossible.l0 k l o s w i (cntN 0 l) n1 n2) r := by
  have hl := chk_len hk
  refine poss_enter l hk o w i s hi n1 n2 r ?_
  have j3 : ∀ x : Bool, x = true → Ev (fun k => estoverslaw40_CompactionPossible.j3 k l o s w i (clearF l i s).1 x (cntN 0 l) n1 n2) r := by
    intro x hx
    refine Ev.step (fun k => by rw [estoverslaw40_CompactionPossible.j3]) ?_
    refine Ev.pos hx ?_
    rw [wrap_id ((i : Int) + s) (by omega) (by omega)]; exact K
  by_cases q : (clearF l i s).2 = 0
  · refine Ev.pos q (j3 _ ?_)
    rcases hc with h | h
    · exact absurd ((clear_blk l hk i s hi).1 q) h
    · simpa using h
  · exact Ev.neg q (j3 _ rfl)
theorem poss_hit (l : List Int) (hk : chk l = 0) (o : Int) (o0 : 0 ≤ o) (o1 : o ≤ 4) (i : Nat) (hi : i + 2 ^ o.toNat ≤ l.length) (hd : 2 ^ o.toNat ∣ i) (n1 n2 : Int) (r : Bool) (hc : cntN 2 ((l.drop i).take (2 ^ o.toNat)) = 0 ∧ ((2 ^ o.toNat : Nat) : Int) ≤ cntN 0 l)
    (K : Ev (fun k => estoverslaw40_CompactionPossible.l0 k l o (2 ^ o.toNat : Nat) i (i + 2 ^ o.toNat : Nat) (cntN 0 l) n1 n2) r) : Ev (fun k => estoverslaw40_CompactionPossible.l0 k l o (2 ^ o.toNat : Nat) (-1) i (cntN 0 l) n1 n2) r := by
  have hl := chk_len hk
  have hs1 : 1 ≤ 2 ^ o.toNat := Nat.one_le_two_pow
  generalize hS : 2 ^ o.toNat = s at *
  refine poss_enter l hk o (-1) i s hi n1 n2 r ?_
  have hq := (clear_blk l hk i s hi).2 hc
  refine Ev.pos hq ?_
  refine Ev.step (fun k => by rw [estoverslaw40_CompactionPossible.j3]) ?_
  refine Ev.neg (by decide) ?_
  rw [clearF_in l i s hk (by omega), Int.toNat_natCast, Int.toNat_natCast, if_neg (by omega)] at hq ⊢
  obtain ⟨suf, g, a1, a2, a3, a4, a5, a6, a7, a8, a9⟩ := fill_go l i (i + s) (by omega) (by omega) s i 0 [] l (by omega) (by omega) (by omega) rfl hk (fun _ _ _ => rfl) (fun _ _ _ _ => rfl) hq
  rw [List.nil_append] at a1
  have eA : compaction_Apply.f l (fill l i (i + s) s i 0 []).1 = some (g, 0) := by unfold compaction_Apply.f applyF; rw [if_pos hk, a1, a2]
  have hfree : ((g.drop i).take s).all isFree = true := by
    refine List.all_eq_true.2 (fun x hx => ?_)
    obtain ⟨j, hj, rfl⟩ := List.mem_iff_getElem.1 hx
    rw [List.length_take, List.length_drop] at hj
    rw [List.getElem_take, List.getElem_drop]
    have hcell := rd_nat g (i + j) (by omega)
    have h0 := a6 (i + j : Nat) (by omega) (by omega)
    have hsoft := List.all_eq_true.1 ((cntN_none _).1 hc.1) (l[i + j]'(by omega)) (List.mem_iff_getElem.2 ⟨j, by rw [List.length_take, List.length_drop]; omega, by rw [List.getElem_take, List.getElem_drop]⟩)
    have hbad := chk_bad hk (l[i + j]'(by omega)) (List.getElem_mem _)
    rw [← rd_nat l (i + j) (by omega)] at hsoft hbad
    rw [← hcell, h0]
    unfold isSoft at hsoft
    unfold bad at hbad
    unfold isFree
    by_cases z : rd l (i + j : Nat) = 1
    · rw [if_pos z]; rfl
    · rw [if_neg z]
      have z2 : rd l (i + j : Nat) ≠ 2 := by simpa using hsoft
      by_cases z0 : rd l (i + j : Nat) = 0
      · rw [z0]; rfl
      · rw [show (rd l (i + j : Nat) == 0) = false from by simpa using z0, show (rd l (i + j : Nat) == 1) = false from by simpa using z, show (rd l (i + j : Nat) == 2) = false from by simpa using z2] at hbad
        cases hbad
  have hb := blkAt_le g s i hs1 (by omega) hfree (g.length + 1) 0 (by omega) (by simpa using hd) (by omega)
  have eF : compaction_Fits.f g o = some (blkAt isFree g s (g.length + 1) 0) := by unfold compaction_Fits.f blockF; rw [if_pos ⟨a4, o0, o1⟩, hS]
  refine Ev.had eA (Ev.pos rfl (Ev.had eF (Ev.neg (by omega) (Ev.neg (by omega) ?_))))
  rw [wrap_id ((i : Int) + s) (by omega) (by omega)]; exact K
theorem poss_l0 (l : List Int) (hk : chk l = 0) (o : Int) (o0 : 0 ≤ o) (o1 : o ≤ 4) (n1 n2 : Int) : ∀ (f i : Nat) (w : Int), l.length + 1 - i ≤ f → i ≤ l.length → 2 ^ o.toNat ∣ i → (w = -1 ∨ 0 ≤ w) →
    Ev (fun k => estoverslaw40_CompactionPossible.l0 k l o (2 ^ o.toNat : Nat) w i (cntN 0 l) n1 n2) (possF l o == (if 0 ≤ w then w else if cntN 0 l < (2 ^ o.toNat : Nat) then -1 else blkAt isSoft l (2 ^ o.toNat) f i))
  | 0, i, w, h0, h1, hd, hw => by omega
  | f + 1, i, w, h0, h1, hd, hw => by
    have hl := chk_len hk
    have hs1 : 1 ≤ 2 ^ o.toNat := Nat.one_le_two_pow
    have hs2 := (shl_small o o0 o1).2.2
    by_cases c : i + 2 ^ o.toNat ≤ l.length
    · have hd2 : 2 ^ o.toNat ∣ i + 2 ^ o.toNat := Nat.dvd_add hd (Nat.dvd_refl _)
      have b2 := cntN_bd 2 ((l.drop i).take (2 ^ o.toNat))
      unfold blkAt
      rw [if_pos c]
      by_cases c2 : cntN 2 ((l.drop i).take (2 ^ o.toNat)) = 0
      · rw [if_pos ((cntN_none _).1 c2)]
        by_cases c3 : 0 ≤ w
        · have := poss_l0 l hk o o0 o1 n1 n2 f (i + 2 ^ o.toNat) w (by omega) c hd2 hw
          rw [if_pos c3] at this ⊢
          exact poss_skip l hk o w i _ c n1 n2 _ (.inr c3) this
        · rw [if_neg c3]
          by_cases c4 : cntN 0 l < (2 ^ o.toNat : Nat)
          · have := poss_l0 l hk o o0 o1 n1 n2 f (i + 2 ^ o.toNat) w (by omega) c hd2 hw
            rw [if_neg c3, if_pos c4] at this
            rw [if_pos c4]
            exact poss_skip l hk o w i _ c n1 n2 _ (.inl (fun h => by omega)) this
          · have := poss_l0 l hk o o0 o1 n1 n2 f (i + 2 ^ o.toNat) i (by omega) c hd2 (.inr (by omega))
            rw [if_pos (by omega)] at this
            rw [if_neg c4]
            obtain rfl : w = -1 := by omega
            exact poss_hit l hk o o0 o1 i c hd n1 n2 _ ⟨c2, by omega⟩ this
      · rw [if_neg (fun h => c2 ((cntN_none _).2 h))]
        have := poss_l0 l hk o o0 o1 n1 n2 f (i + 2 ^ o.toNat) w (by omega) c hd2 hw
        exact poss_skip l hk o w i _ c n1 n2 _ (.inl (fun h => c2 h.1)) this
    · refine Ev.step (fun k => by rw [estoverslaw40_CompactionPossible.l0]) ?_
      unfold blkAt
      rw [if_neg c, wrap_id ((i : Int) + (2 ^ o.toNat : Nat)) (by omega) (by omega)]
      refine Ev.neg (by omega) (Ev.had (x := possF l o) rfl ?_)
      have : (if 0 ≤ w then w else if cntN 0 l < (2 ^ o.toNat : Nat) then (-1 : Int) else -1) = w := by
        split
        · rfl
        · split <;> omega
      rw [this]; exact Ev.now _
theorem CompactionPossible : ∀ (l0 : List (Int)) (a1 : Int), l0.length ≤ 9223372036854775807 → (Gl (fun n : Int => (Lit.int .i64 n).wf = true) l0) → (Lit.int .u8 a1).wf = true → ∃ k, estoverslaw40_CompactionPossible.f k l0 a1 = some true := by
  intro l a hlen _ ha
  have hab : 0 ≤ a ∧ a ≤ 255 := by
    have m0 : IntKind.u8.min = 0 := by decide
    have m1 : IntKind.u8.max = 255 := by decide
    simp [Lit.wf] at ha; omega
  obtain ⟨p, p1, p2, p3⟩ := kinds_ev l hlen
  refine Ev.rounds ?_
  unfold estoverslaw40_CompactionPossible.f
  have jT : ∀ x : Bool, x = true → Ev (fun k => estoverslaw40_CompactionPossible.j0 k l a x p.1 p.2.1 p.2.2.1) true := by
    intro x hx
    refine Ev.step (fun k => by rw [estoverslaw40_CompactionPossible.j0]) ?_
    exact Ev.pos hx (Ev.had (x := true) rfl (Ev.now _))
  refine Ev.bind p1 (Ev.had (x := true) rfl (Ev.pos rfl (Ev.had (x := decide ((l.length : Int) ≤ 80)) rfl ?_)))
  by_cases h : (l.length : Int) ≤ 80
  · refine Ev.pos (by simpa using h) ?_
    cases hb : l.any bad with
    | true => exact jT _ (by rw [p2, hb]; rfl)
    | false =>
      have hk := chk_of (show l.length ≤ 4096 by omega) hb
      rw [p3 hb]
      refine Ev.step (fun k => by rw [estoverslaw40_CompactionPossible.j0]) ?_
      refine Ev.neg (by simp) ?_
      rw [wrap_id a (by omega) (by omega)]
      have o0 : 0 ≤ Int.tmod a 5 := by rw [Int.tmod_eq_emod_of_nonneg hab.1]; omega
      have o1 : Int.tmod a 5 ≤ 4 := by rw [Int.tmod_eq_emod_of_nonneg hab.1]; omega
      generalize Int.tmod a 5 = o at *
      refine Ev.pos o0 ?_
      rw [(shl_small o o0 o1).1]
      have := poss_l0 l hk o o0 o1 (cntN 1 l) (cntN 2 l) (l.length + 1) 0 (-1) (by omega) (by omega) (Nat.dvd_zero _) (.inl rfl)
      have e : possF l o = (if (0 : Int) ≤ -1 then -1 else if cntN 0 l < (2 ^ o.toNat : Nat) then -1 else blkAt isSoft l (2 ^ o.toNat) (l.length + 1) 0) := by
        unfold possF blockF
        rw [if_pos (And.intro hk (And.intro o0 o1)), cntN_free, if_neg (show ¬ (0 : Int) ≤ -1 from by decide), show ((2 : Int) ^ o.toNat) = ((2 ^ o.toNat : Nat) : Int) from by simp]
        rcases blkAt_bd isSoft l (2 ^ o.toNat) (l.length + 1) 0 with q | q
        · rw [q]; simp
        · rw [if_neg (by omega)]
      rw [← e, beq_self_eq_true] at this
      exact this
  · exact Ev.neg (by simpa using h) (jT _ rfl)
end Go.Proofs.Ytollapjmibkpfaa.Pure
