-- Written for this claim by a program of this session (wip/px.py) with the kit's print; the contracts of GIVEN functions are proved by hand.
import Derived.Test.YtollapjmibkpfaaX0
import Derived.Test.YtollapjmibkpfaaX17
import Derived.Test.YtollapjmibkpfaaX19
import Derived.Test.YtollapjmibkpfaaK20
import Derived.Test.YtollapjmibkpfaaGb
import Derived.Test.YtollapjmibkpfaaGc
import Derived.Test.YtollapjmibkpfaaGe
namespace Go.Proofs.Ytollapjmibkpfaa.X
open Go.RowKit Go.Proofs.YtollapjmibkpfaaW.PrintWords Go.Proofs.YtollapjmibkpfaaW.PrintLast Go.Proofs.YtollapjmibkpfaaW.PrintMore
attribute [local go_sem] max2_int min2_int max_two min_two max_three min_three max_four min_four   -- for this text's walks alone
set_option linter.unusedVariables false
set_option linter.unusedSimpArgs false

/-! ### estoverslaw40_CompactionPossible: function 9 -/
mutual
def estoverslaw40_CompactionPossible.j0 : Nat → List Int → Int → Bool → Int → Int → Int → Option (Bool)
  | 0, _, _, _, _, _, _ => none
  | k + 1, x0, x1, x33, x200000, x200001, x200002 => if x33 = true then ((estoverslaw40_awake.f).bind fun t202 => (some t202)) else (if 0 ≤ (Int.tmod (wrap64 (x1)) 5) then (estoverslaw40_CompactionPossible.l0 k x0 (Int.tmod (wrap64 (x1)) 5) (shl .i64 1 (Int.tmod (wrap64 (x1)) 5)) (-1) 0 x200000 x200001 x200002) else (none))
def estoverslaw40_CompactionPossible.l0 : Nat → List Int → Int → Int → Int → Int → Int → Int → Int → Option (Bool)
  | 0, _, _, _, _, _, _, _, _ => none
  | k + 1, x0, x7, x8, x9, x10, x200000, x200001, x200002 => if (wrap64 (x10 + x8)) ≤ (x0.length : Int) then (if 0 ≤ x10 then (if x10 ≤ (wrap64 (x10 + x8)) then ((estoverslaw40_kinds.f k ((x0.take ((wrap64 (x10 + x8)) : Int).toNat).drop (x10 : Int).toNat)).bind fun bt205 => ((compaction_Clear.f k x0 x10 x8).bind fun bt210 => (if bt205.2.2.1 = 0 then (estoverslaw40_CompactionPossible.j2 k x0 x7 x8 x9 x10 bt210.1 bt210.2 ((bt210.2 == 0) != (decide (x200000 ≥ x8))) x200000 x200001 x200002) else (estoverslaw40_CompactionPossible.j2 k x0 x7 x8 x9 x10 bt210.1 bt210.2 ((bt210.2 == 0) != false) x200000 x200001 x200002)))) else (none)) else (none)) else ((compaction_Possible.f x0 x7).bind fun t203 => (some (t203 == x9)))
def estoverslaw40_CompactionPossible.j2 : Nat → List Int → Int → Int → Int → Int → List (S26) → Int → Bool → Int → Int → Int → Option (Bool)
  | 0, _, _, _, _, _, _, _, _, _, _, _ => none
  | k + 1, x0, x7, x8, x9, x10, x13, x14, x77, x200000, x200001, x200002 => if x77 = true then (some false) else (if x14 = 0 then (estoverslaw40_CompactionPossible.j3 k x0 x7 x8 x9 x10 x13 (decide (x9 ≥ 0)) x200000 x200001 x200002) else (estoverslaw40_CompactionPossible.j3 k x0 x7 x8 x9 x10 x13 true x200000 x200001 x200002))
def estoverslaw40_CompactionPossible.j3 : Nat → List Int → Int → Int → Int → Int → List (S26) → Bool → Int → Int → Int → Option (Bool)
  | 0, _, _, _, _, _, _, _, _, _, _ => none
  | k + 1, x0, x7, x8, x9, x10, x13, x83, x200000, x200001, x200002 => if x83 = true then (estoverslaw40_CompactionPossible.l0 k x0 x7 x8 x9 (wrap64 (x10 + x8)) x200000 x200001 x200002) else ((compaction_Apply.f x0 x13).bind fun bt214 => (if bt214.2 = 0 then ((compaction_Fits.f bt214.1 x7).bind fun t218 => (if t218 < 0 then (some false) else (if t218 > x10 then (some false) else (estoverslaw40_CompactionPossible.l0 k x0 x7 x8 x10 (wrap64 (x10 + x8)) x200000 x200001 x200002)))) else (some false)))
end
def estoverslaw40_CompactionPossible.f (k : Nat) (l0 : List Int) (a1 : Int) : Option (Bool) := (estoverslaw40_kinds.f k l0).bind fun bt195 => ((estoverslaw40_awake.f).bind fun t200 => (if t200 = true then ((estoverslaw40_few.f l0).bind fun t201 => (if t201 = true then (estoverslaw40_CompactionPossible.j0 k l0 a1 (!bt195.2.2.2) bt195.1 bt195.2.1 bt195.2.2.1) else (estoverslaw40_CompactionPossible.j0 k l0 a1 true bt195.1 bt195.2.1 bt195.2.2.1))) else (estoverslaw40_CompactionPossible.j0 k l0 a1 true bt195.1 bt195.2.1 bt195.2.2.1)))
theorem estoverslaw40_CompactionPossible.mono_l : ∀ k, (∀ y0 y1 y2 y3 y4 y5, LeO (estoverslaw40_CompactionPossible.j0 k y0 y1 y2 y3 y4 y5) (estoverslaw40_CompactionPossible.j0 (k + 1) y0 y1 y2 y3 y4 y5)) ∧ (∀ y0 y1 y2 y3 y4 y5 y6 y7, LeO (estoverslaw40_CompactionPossible.l0 k y0 y1 y2 y3 y4 y5 y6 y7) (estoverslaw40_CompactionPossible.l0 (k + 1) y0 y1 y2 y3 y4 y5 y6 y7)) ∧ (∀ y0 y1 y2 y3 y4 y5 y6 y7 y8 y9 y10, LeO (estoverslaw40_CompactionPossible.j2 k y0 y1 y2 y3 y4 y5 y6 y7 y8 y9 y10) (estoverslaw40_CompactionPossible.j2 (k + 1) y0 y1 y2 y3 y4 y5 y6 y7 y8 y9 y10)) ∧ (∀ y0 y1 y2 y3 y4 y5 y6 y7 y8 y9, LeO (estoverslaw40_CompactionPossible.j3 k y0 y1 y2 y3 y4 y5 y6 y7 y8 y9) (estoverslaw40_CompactionPossible.j3 (k + 1) y0 y1 y2 y3 y4 y5 y6 y7 y8 y9))
  | 0 => ⟨fun _ _ _ _ _ _ r h => by simp [estoverslaw40_CompactionPossible.j0] at h, fun _ _ _ _ _ _ _ _ r h => by simp [estoverslaw40_CompactionPossible.l0] at h, fun _ _ _ _ _ _ _ _ _ _ _ r h => by simp [estoverslaw40_CompactionPossible.j2] at h, fun _ _ _ _ _ _ _ _ _ _ r h => by simp [estoverslaw40_CompactionPossible.j3] at h⟩
  | k + 1 => by
    obtain ⟨ih0, ih1, ih2, ih3⟩ := estoverslaw40_CompactionPossible.mono_l k
    refine ⟨?_, ?_, ?_, ?_⟩
    · intro y0 y1 y2 y3 y4 y5
      unfold estoverslaw40_CompactionPossible.j0
      repeat' first
      | (with_reducible exact ih0 _ _ _ _ _ _)
      | (with_reducible exact ih1 _ _ _ _ _ _ _ _)
      | (with_reducible exact ih2 _ _ _ _ _ _ _ _ _ _ _)
      | (with_reducible exact ih3 _ _ _ _ _ _ _ _ _ _)
      | (with_reducible exact compaction_Clear.mono _ _ _ _)
      | (with_reducible exact estoverslaw40_kinds.mono _ _)
      | (with_reducible exact LeO.refl _)
      | (with_reducible exact LeO.none _)
      | (with_reducible refine LeO.ite ?_ ?_)
      | (with_reducible refine LeO.bind ?_ (fun _ => ?_))
      | exact ih0 _ _ _ _ _ _
      | exact ih1 _ _ _ _ _ _ _ _
      | exact ih2 _ _ _ _ _ _ _ _ _ _ _
      | exact ih3 _ _ _ _ _ _ _ _ _ _
      | exact compaction_Clear.mono _ _ _ _
      | exact estoverslaw40_kinds.mono _ _
      | exact LeO.none _
      | refine LeO.ite ?_ ?_
      | refine LeO.bind ?_ (fun _ => ?_)
    · intro y0 y1 y2 y3 y4 y5 y6 y7
      unfold estoverslaw40_CompactionPossible.l0
      repeat' first
      | (with_reducible exact ih0 _ _ _ _ _ _)
      | (with_reducible exact ih1 _ _ _ _ _ _ _ _)
      | (with_reducible exact ih2 _ _ _ _ _ _ _ _ _ _ _)
      | (with_reducible exact ih3 _ _ _ _ _ _ _ _ _ _)
      | (with_reducible exact compaction_Clear.mono _ _ _ _)
      | (with_reducible exact estoverslaw40_kinds.mono _ _)
      | (with_reducible exact LeO.refl _)
      | (with_reducible exact LeO.none _)
      | (with_reducible refine LeO.ite ?_ ?_)
      | (with_reducible refine LeO.bind ?_ (fun _ => ?_))
      | exact ih0 _ _ _ _ _ _
      | exact ih1 _ _ _ _ _ _ _ _
      | exact ih2 _ _ _ _ _ _ _ _ _ _ _
      | exact ih3 _ _ _ _ _ _ _ _ _ _
      | exact compaction_Clear.mono _ _ _ _
      | exact estoverslaw40_kinds.mono _ _
      | exact LeO.none _
      | refine LeO.ite ?_ ?_
      | refine LeO.bind ?_ (fun _ => ?_)
    · intro y0 y1 y2 y3 y4 y5 y6 y7 y8 y9 y10
      unfold estoverslaw40_CompactionPossible.j2
      repeat' first
      | (with_reducible exact ih0 _ _ _ _ _ _)
      | (with_reducible exact ih1 _ _ _ _ _ _ _ _)
      | (with_reducible exact ih2 _ _ _ _ _ _ _ _ _ _ _)
      | (with_reducible exact ih3 _ _ _ _ _ _ _ _ _ _)
      | (with_reducible exact compaction_Clear.mono _ _ _ _)
      | (with_reducible exact estoverslaw40_kinds.mono _ _)
      | (with_reducible exact LeO.refl _)
      | (with_reducible exact LeO.none _)
      | (with_reducible refine LeO.ite ?_ ?_)
      | (with_reducible refine LeO.bind ?_ (fun _ => ?_))
      | exact ih0 _ _ _ _ _ _
      | exact ih1 _ _ _ _ _ _ _ _
      | exact ih2 _ _ _ _ _ _ _ _ _ _ _
      | exact ih3 _ _ _ _ _ _ _ _ _ _
      | exact compaction_Clear.mono _ _ _ _
      | exact estoverslaw40_kinds.mono _ _
      | exact LeO.none _
      | refine LeO.ite ?_ ?_
      | refine LeO.bind ?_ (fun _ => ?_)
    · intro y0 y1 y2 y3 y4 y5 y6 y7 y8 y9
      unfold estoverslaw40_CompactionPossible.j3
      repeat' first
      | (with_reducible exact ih0 _ _ _ _ _ _)
      | (with_reducible exact ih1 _ _ _ _ _ _ _ _)
      | (with_reducible exact ih2 _ _ _ _ _ _ _ _ _ _ _)
      | (with_reducible exact ih3 _ _ _ _ _ _ _ _ _ _)
      | (with_reducible exact compaction_Clear.mono _ _ _ _)
      | (with_reducible exact estoverslaw40_kinds.mono _ _)
      | (with_reducible exact LeO.refl _)
      | (with_reducible exact LeO.none _)
      | (with_reducible refine LeO.ite ?_ ?_)
      | (with_reducible refine LeO.bind ?_ (fun _ => ?_))
      | exact ih0 _ _ _ _ _ _
      | exact ih1 _ _ _ _ _ _ _ _
      | exact ih2 _ _ _ _ _ _ _ _ _ _ _
      | exact ih3 _ _ _ _ _ _ _ _ _ _
      | exact compaction_Clear.mono _ _ _ _
      | exact estoverslaw40_kinds.mono _ _
      | exact LeO.none _
      | refine LeO.ite ?_ ?_
      | refine LeO.bind ?_ (fun _ => ?_)
theorem estoverslaw40_CompactionPossible.mono : ∀ a0 a1 k, LeO (estoverslaw40_CompactionPossible.f k a0 a1) (estoverslaw40_CompactionPossible.f (k + 1) a0 a1) := by
  intro a0 a1 k
  obtain ⟨ih0, ih1, ih2, ih3⟩ := estoverslaw40_CompactionPossible.mono_l k
  unfold estoverslaw40_CompactionPossible.f
  repeat' first
      | (with_reducible exact ih0 _ _ _ _ _ _)
      | (with_reducible exact ih1 _ _ _ _ _ _ _ _)
      | (with_reducible exact ih2 _ _ _ _ _ _ _ _ _ _ _)
      | (with_reducible exact ih3 _ _ _ _ _ _ _ _ _ _)
      | (with_reducible exact compaction_Clear.mono _ _ _ _)
      | (with_reducible exact estoverslaw40_kinds.mono _ _)
      | (with_reducible exact LeO.refl _)
      | (with_reducible exact LeO.none _)
      | (with_reducible refine LeO.ite ?_ ?_)
      | (with_reducible refine LeO.bind ?_ (fun _ => ?_))
      | exact ih0 _ _ _ _ _ _
      | exact ih1 _ _ _ _ _ _ _ _
      | exact ih2 _ _ _ _ _ _ _ _ _ _ _
      | exact ih3 _ _ _ _ _ _ _ _ _ _
      | exact compaction_Clear.mono _ _ _ _
      | exact estoverslaw40_kinds.mono _ _
      | exact LeO.none _
      | refine LeO.ite ?_ ?_
      | refine LeO.bind ?_ (fun _ => ?_)
set_option maxHeartbeats 8000000 in
set_option maxRecDepth 100000 in
theorem estoverslaw40_CompactionPossible.calls (k : Nat) (A0 : Option Addr) (c0 : Nat) (l0 : List Int) (a1 : Int) (r : Bool) (w : World) (hr0 : Kd.C (Kd.int .i64) w A0 l0.length l0) (hc0 : l0.length ≤ c0) (h : estoverslaw40_CompactionPossible.f k l0 a1 = some r) :
    Calls Try.prog 9 #[.slice A0 l0.length c0, .int .u8 a1] w fun e w' => e = .returned (.bool r) ∧ Below w.heap.size w w' := by
  have hu44 := Try.underlying44
  have HR0 := Aside0.mk hr0
  have HC0 := Aside0.mk hc0
  clear hr0 hc0
  have HB := Aside0.mk (Below.refl w.heap.size w)
  have H : ((estoverslaw40_kinds.f k l0).bind fun bt195 => ((estoverslaw40_awake.f).bind fun t200 => (if t200 = true then ((estoverslaw40_few.f l0).bind fun t201 => (if t201 = true then (estoverslaw40_CompactionPossible.j0 k l0 a1 (!bt195.2.2.2) bt195.1 bt195.2.1 bt195.2.2.1) else (estoverslaw40_CompactionPossible.j0 k l0 a1 true bt195.1 bt195.2.1 bt195.2.2.1))) else (estoverslaw40_CompactionPossible.j0 k l0 a1 true bt195.1 bt195.2.1 bt195.2.2.1)))) = some r := h
  clear h
  replace H := Option.bind_eq_some_iff.mp H
  obtain ⟨⟨t195, t196, t197, t198⟩, A30, H⟩ := H
  replace H : ((estoverslaw40_awake.f).bind fun t200 => (if t200 = true then ((estoverslaw40_few.f l0).bind fun t201 => (if t201 = true then (estoverslaw40_CompactionPossible.j0 k l0 a1 (!t198) t195 t196 t197) else (estoverslaw40_CompactionPossible.j0 k l0 a1 true t195 t196 t197))) else (estoverslaw40_CompactionPossible.j0 k l0 a1 true t195 t196 t197))) = some r := H
  have A3 := Aside0.mk A30
  clear A30
  have HC4 := Aside0.mk H
  clear H
  go_enter Try.func9, Try.ntmps9
  go_upto_region 2 with (first | ((with_reducible refine gate_callee (f := 31) rfl ?_); refine goesL_ (some 20) rfl rfl Try.func31 (by kernel_rfl) rfl #[.slice A0 l0.length c0] rfl (by (try simp only [List.map_toArray, List.map_cons, List.map_nil]); first | done | rfl | (simp only [List.length_drop, List.length_take]; rfl)) ?_; (with_reducible refine (estoverslaw40_kinds.calls k _ _ l0 t195 t196 t197 t198 _ ?side1 ?side2 A3.out).mono ?_); (case side1 => repeat (first | exact HR0.out | (with_reducible refine Kd.C_alloc ?_ _) | (with_reducible refine Kd.C_drewN ?_ _) | (with_reducible refine Kd.C_drew ?_))); (case side2 => exact HC0.out); rintro e w5 ⟨rfl, hb⟩; refine ⟨_, rfl, ?_⟩; have n0_ := Aside0.mk (below_step (by repeat (first | (with_reducible first | exact HB.out | apply below_alloc | apply pw_below_drewN | apply below_drew1) | exact HB.out)) hb); clear HB; have HB := n0_; clear n0_; (try clear hb); (try clear hb2); (try clear hk); (try clear hi)) | ((with_reducible refine gate_dst (N := 5) rfl ?_); refine box_event ?hg (N := 5) ?hd (cs := #[.int .i64 0, .int .i64 0, .int .i64 0]) (t := 44) ?hr ?_; (case hd => rfl); (case hg => rfl); (case hr => first | (go_simp; done) | (go_simp; rfl)); intro gb199 hg w6 hbox hb; have n0_ := Aside0.mk (below_step (by repeat (first | (with_reducible first | exact HB.out | apply below_alloc | apply pw_below_drewN | apply below_drew1) | exact HB.out)) hb); have n1_ := Aside0.mk (hbox); have n2_ := Aside0.mk ((by rw [hg]; exact (below_size (by repeat (first | (with_reducible first | exact HB.out | apply below_alloc | apply pw_below_drewN | apply below_drew1) | exact HB.out))) : w.heap.size ≤ gb199)); have n3_ := Aside0.mk ((by rw [hg]; exact (below_size (by repeat (first | (with_reducible first | exact HB.out | apply below_alloc | apply pw_below_drewN | apply below_drew1) | exact HB.out))) : w.heap.size ≤ gb199)); clear HB; have HB := n0_; have BK199 := n1_; have GW199 := n2_; have GE199 := n3_; clear n0_ n1_ n2_ n3_; clear hb hbox hg; have hcz7_0 : w6.cell? ⟨gb199, 0, none⟩ = some (.int .i64 0) := (blk_cell BK199.out 0).trans rfl; have hcz7_1 : w6.cell? ⟨gb199, 1, none⟩ = some (.int .i64 0) := (blk_cell BK199.out 1).trans rfl; have hcz7_2 : w6.cell? ⟨gb199, 2, none⟩ = some (.int .i64 0) := (blk_cell BK199.out 2).trans rfl; have hfz7_0 := blk_frozen BK199.out 0; have hfz7_1 := blk_frozen BK199.out 1; have hfz7_2 := blk_frozen BK199.out 2))
  (try simp only [Act.put, List.setIfInBounds_toArray, List.set_cons_zero, List.set_cons_succ])
  go_cut [33] (fun v33 wc => ∃ (kq : Nat) (x33_3 : Bool), v33 = .bool x33_3 ∧ Aside0 (estoverslaw40_CompactionPossible.j0 kq l0 a1 x33_3 t195 t196 t197 = some r) ∧ Aside0 (kq ≤ k) ∧ Aside0 (wc.heap[gb199]? = some (.cells #[.int .i64 t195, .int .i64 t196, .int .i64 t197] 44 (0, 0))) ∧ Aside0 (Below w.heap.size w wc))
  case first =>
    have H := HC4.out
    clear HC4
    replace H := Option.bind_eq_some_iff.mp H
    obtain ⟨t200, A80, H⟩ := H
    replace H : (if t200 = true then ((estoverslaw40_few.f l0).bind fun t201 => (if t201 = true then (estoverslaw40_CompactionPossible.j0 k l0 a1 (!t198) t195 t196 t197) else (estoverslaw40_CompactionPossible.j0 k l0 a1 true t195 t196 t197))) else (estoverslaw40_CompactionPossible.j0 k l0 a1 true t195 t196 t197)) = some r := H
    have A8 := Aside0.mk A80
    clear A80
    by_cases c9 : t200 = true
    · subst c9
      have H1 : ((estoverslaw40_few.f l0).bind fun t201 => (if t201 = true then (estoverslaw40_CompactionPossible.j0 k l0 a1 (!t198) t195 t196 t197) else (estoverslaw40_CompactionPossible.j0 k l0 a1 true t195 t196 t197))) = some r := by rw [if_pos rfl] at H; exact H
      clear H
      have H := H1
      clear H1
      replace H := Option.bind_eq_some_iff.mp H
      obtain ⟨t201, A100, H⟩ := H
      replace H : (if t201 = true then (estoverslaw40_CompactionPossible.j0 k l0 a1 (!t198) t195 t196 t197) else (estoverslaw40_CompactionPossible.j0 k l0 a1 true t195 t196 t197)) = some r := H
      have A10 := Aside0.mk A100
      clear A100
      by_cases c11 : t201 = true
      · subst c11
        have H1 : (estoverslaw40_CompactionPossible.j0 k l0 a1 (!t198) t195 t196 t197) = some r := by rw [if_pos rfl] at H; exact H
        clear H
        have H := H1
        clear H1
        have H' := Aside0.mk H
        clear H
        go_wp2_with (first | ((with_reducible refine gate_callee (f := 11) rfl ?_); refine goesL_ (some 23) rfl rfl Try.func11 (by kernel_rfl) rfl #[] rfl (by (try simp only [List.map_toArray, List.map_cons, List.map_nil]); first | done | rfl | (simp only [List.length_drop, List.length_take]; rfl)) ?_; (with_reducible refine (estoverslaw40_awake.calls  true _ A8.out).mono ?_); rintro e w12 ⟨rfl, hb⟩; refine ⟨_, rfl, ?_⟩; have n0_ := Aside0.mk (blk_below (g := gb199) (o := .cells #[.int .i64 t195, .int .i64 t196, .int .i64 t197] 44 (0, 0)) (by (with_reducible repeat (first | refine blk_drewN ?_ _ | refine blk_drew ?_ | refine blk_alloc ?_ _)); refine blk_put (cs := #[.int .i64 t195, .int .i64 t196, .int .i64 0]) ?_ 2 _ rfl; (with_reducible repeat (first | refine blk_drewN ?_ _ | refine blk_drew ?_ | refine blk_alloc ?_ _)); refine blk_put (cs := #[.int .i64 t195, .int .i64 0, .int .i64 0]) ?_ 1 _ rfl; (with_reducible repeat (first | refine blk_drewN ?_ _ | refine blk_drew ?_ | refine blk_alloc ?_ _)); refine blk_put (cs := #[.int .i64 0, .int .i64 0, .int .i64 0]) ?_ 0 _ rfl; (with_reducible repeat (first | refine blk_drewN ?_ _ | refine blk_drew ?_ | refine blk_alloc ?_ _)); exact BK199.out) hb); have n1_ := Aside0.mk (below_step (by repeat (first | (with_reducible first | exact HB.out | apply below_alloc | apply pw_below_drewN | apply below_drew1 | refine below_set ?_ GE199.out) | exact HB.out)) hb); clear BK199; clear HB; have BK199 := n0_; have HB := n1_; clear n0_ n1_; (try clear hb); (try clear hb2); (try clear hk); (try clear hi)) | (go_at_call 12; (with_reducible refine (estoverslaw40_few.calls _ _ l0 true _ ?side1 ?side2 A10.out).mono ?_); (case side1 => repeat (first | exact (Kd.C_below HR0.out HB.out) | (with_reducible refine Kd.C_alloc ?_ _) | (with_reducible refine Kd.C_drewN ?_ _) | (with_reducible refine Kd.C_drew ?_))); (case side2 => exact HC0.out); rintro e w' ⟨rfl, ⟨nd, rfl⟩⟩))
        go_meet
        case rel => exact ⟨_, (!t198), (by first | rfl | (simp; done) | (simp [*]; done)), H', ⟨by first | omega | exact Nat.le_refl _⟩, ⟨by (with_reducible repeat (first | refine blk_drewN ?_ _ | refine blk_drew ?_ | refine blk_alloc ?_ _)); exact BK199.out⟩, ⟨by repeat (first | (with_reducible first | exact HB.out | apply below_alloc | apply pw_below_drewN | apply below_drew1 | refine below_set ?_ GE199.out) | exact HB.out)⟩⟩
      · replace c11 := Bool.eq_false_iff.mpr c11
        subst c11
        have H1 : (estoverslaw40_CompactionPossible.j0 k l0 a1 true t195 t196 t197) = some r := by rw [if_neg (show ¬ (false = true) by decide)] at H; exact H
        clear H
        have H := H1
        clear H1
        have H' := Aside0.mk H
        clear H
        go_wp2_with (first | ((with_reducible refine gate_callee (f := 11) rfl ?_); refine goesL_ (some 23) rfl rfl Try.func11 (by kernel_rfl) rfl #[] rfl (by (try simp only [List.map_toArray, List.map_cons, List.map_nil]); first | done | rfl | (simp only [List.length_drop, List.length_take]; rfl)) ?_; (with_reducible refine (estoverslaw40_awake.calls  true _ A8.out).mono ?_); rintro e w13 ⟨rfl, hb⟩; refine ⟨_, rfl, ?_⟩; have n0_ := Aside0.mk (blk_below (g := gb199) (o := .cells #[.int .i64 t195, .int .i64 t196, .int .i64 t197] 44 (0, 0)) (by (with_reducible repeat (first | refine blk_drewN ?_ _ | refine blk_drew ?_ | refine blk_alloc ?_ _)); refine blk_put (cs := #[.int .i64 t195, .int .i64 t196, .int .i64 0]) ?_ 2 _ rfl; (with_reducible repeat (first | refine blk_drewN ?_ _ | refine blk_drew ?_ | refine blk_alloc ?_ _)); refine blk_put (cs := #[.int .i64 t195, .int .i64 0, .int .i64 0]) ?_ 1 _ rfl; (with_reducible repeat (first | refine blk_drewN ?_ _ | refine blk_drew ?_ | refine blk_alloc ?_ _)); refine blk_put (cs := #[.int .i64 0, .int .i64 0, .int .i64 0]) ?_ 0 _ rfl; (with_reducible repeat (first | refine blk_drewN ?_ _ | refine blk_drew ?_ | refine blk_alloc ?_ _)); exact BK199.out) hb); have n1_ := Aside0.mk (below_step (by repeat (first | (with_reducible first | exact HB.out | apply below_alloc | apply pw_below_drewN | apply below_drew1 | refine below_set ?_ GE199.out) | exact HB.out)) hb); clear BK199; clear HB; have BK199 := n0_; have HB := n1_; clear n0_ n1_; (try clear hb); (try clear hb2); (try clear hk); (try clear hi)) | (go_at_call 12; (with_reducible refine (estoverslaw40_few.calls _ _ l0 false _ ?side1 ?side2 A10.out).mono ?_); (case side1 => repeat (first | exact (Kd.C_below HR0.out HB.out) | (with_reducible refine Kd.C_alloc ?_ _) | (with_reducible refine Kd.C_drewN ?_ _) | (with_reducible refine Kd.C_drew ?_))); (case side2 => exact HC0.out); rintro e w' ⟨rfl, ⟨nd, rfl⟩⟩))
        go_meet
        case rel => exact ⟨_, (true), (by first | rfl | (simp; done) | (simp [*]; done)), H', ⟨by first | omega | exact Nat.le_refl _⟩, ⟨by (with_reducible repeat (first | refine blk_drewN ?_ _ | refine blk_drew ?_ | refine blk_alloc ?_ _)); exact BK199.out⟩, ⟨by repeat (first | (with_reducible first | exact HB.out | apply below_alloc | apply pw_below_drewN | apply below_drew1 | refine below_set ?_ GE199.out) | exact HB.out)⟩⟩
    · replace c9 := Bool.eq_false_iff.mpr c9
      subst c9
      have H1 : (estoverslaw40_CompactionPossible.j0 k l0 a1 true t195 t196 t197) = some r := by rw [if_neg (show ¬ (false = true) by decide)] at H; exact H
      clear H
      have H := H1
      clear H1
      have H' := Aside0.mk H
      clear H
      go_wp2_with (first | ((with_reducible refine gate_callee (f := 11) rfl ?_); refine goesL_ (some 23) rfl rfl Try.func11 (by kernel_rfl) rfl #[] rfl (by (try simp only [List.map_toArray, List.map_cons, List.map_nil]); first | done | rfl | (simp only [List.length_drop, List.length_take]; rfl)) ?_; (with_reducible refine (estoverslaw40_awake.calls  false _ A8.out).mono ?_); rintro e w14 ⟨rfl, hb⟩; refine ⟨_, rfl, ?_⟩; have n0_ := Aside0.mk (blk_below (g := gb199) (o := .cells #[.int .i64 t195, .int .i64 t196, .int .i64 t197] 44 (0, 0)) (by (with_reducible repeat (first | refine blk_drewN ?_ _ | refine blk_drew ?_ | refine blk_alloc ?_ _)); refine blk_put (cs := #[.int .i64 t195, .int .i64 t196, .int .i64 0]) ?_ 2 _ rfl; (with_reducible repeat (first | refine blk_drewN ?_ _ | refine blk_drew ?_ | refine blk_alloc ?_ _)); refine blk_put (cs := #[.int .i64 t195, .int .i64 0, .int .i64 0]) ?_ 1 _ rfl; (with_reducible repeat (first | refine blk_drewN ?_ _ | refine blk_drew ?_ | refine blk_alloc ?_ _)); refine blk_put (cs := #[.int .i64 0, .int .i64 0, .int .i64 0]) ?_ 0 _ rfl; (with_reducible repeat (first | refine blk_drewN ?_ _ | refine blk_drew ?_ | refine blk_alloc ?_ _)); exact BK199.out) hb); have n1_ := Aside0.mk (below_step (by repeat (first | (with_reducible first | exact HB.out | apply below_alloc | apply pw_below_drewN | apply below_drew1 | refine below_set ?_ GE199.out) | exact HB.out)) hb); clear BK199; clear HB; have BK199 := n0_; have HB := n1_; clear n0_ n1_; (try clear hb); (try clear hb2); (try clear hk); (try clear hi)))
      go_meet
      case rel => exact ⟨_, (true), (by first | rfl | (simp; done) | (simp [*]; done)), H', ⟨by first | omega | exact Nat.le_refl _⟩, ⟨by (with_reducible repeat (first | refine blk_drewN ?_ _ | refine blk_drew ?_ | refine blk_alloc ?_ _)); exact BK199.out⟩, ⟨by repeat (first | (with_reducible first | exact HB.out | apply below_alloc | apply pw_below_drewN | apply below_drew1 | refine below_set ?_ GE199.out) | exact HB.out)⟩⟩
  case rest =>
    clear HC4
    try clear c1
    try clear p2
    try clear c3
    try clear c9
    try clear c11
    try clear hcz7_0
    try clear hcz7_1
    try clear hcz7_2
    try clear hfz7_0
    try clear hfz7_1
    try clear hfz7_2
    obtain ⟨kq, x33_3, rfl, HA, HJ3, BK199, HB⟩ := hcut
    cases kq with
    | zero => exact absurd HA.out (by simp [estoverslaw40_CompactionPossible.j0])
    | succ kj3 =>
      have H := HA.out
      clear HA
      simp only [estoverslaw40_CompactionPossible.j0] at H
      by_cases c15 : x33_3 = true
      · subst c15
        have H1 : ((estoverslaw40_awake.f).bind fun t202 => (some t202)) = some r := by rw [if_pos rfl] at H; exact H
        clear H
        have H := H1
        clear H1
        replace H := Option.bind_eq_some_iff.mp H
        obtain ⟨t202, A160, H⟩ := H
        replace H : (some t202) = some r := H
        have A16 := Aside0.mk A160
        clear A160
        obtain rfl := Option.some.inj H
        go_wp2_with (first | ((with_reducible refine gate_callee (f := 11) rfl ?_); refine goesL_ (some 34) rfl rfl Try.func11 (by kernel_rfl) rfl #[] rfl (by (try simp only [List.map_toArray, List.map_cons, List.map_nil]); first | done | rfl | (simp only [List.length_drop, List.length_take]; rfl)) ?_; (with_reducible refine (estoverslaw40_awake.calls  t202 _ A16.out).mono ?_); rintro e w17 ⟨rfl, hb⟩; refine ⟨_, rfl, ?_⟩; have n0_ := Aside0.mk (blk_below (g := gb199) (o := .cells #[.int .i64 t195, .int .i64 t196, .int .i64 t197] 44 (0, 0)) (by (with_reducible repeat (first | refine blk_drewN ?_ _ | refine blk_drew ?_ | refine blk_alloc ?_ _)); exact BK199.out) hb); have n1_ := Aside0.mk (below_step (by repeat (first | (with_reducible first | exact HB.out | apply below_alloc | apply pw_below_drewN | apply below_drew1 | refine below_set ?_ GE199.out) | exact HB.out)) hb); clear BK199; clear HB; have BK199 := n0_; have HB := n1_; clear n0_ n1_; (try clear hb); (try clear hb2); (try clear hk); (try clear hi)))
        go_ret
        exact ⟨by first | rfl | (simp [errW_none, errW_some] <;> rfl) | (simp [*, errW_none, errW_some] <;> rfl), by repeat (first | (with_reducible first | exact HB.out | apply below_alloc | apply pw_below_drewN | apply below_drew1 | refine below_set ?_ GE199.out) | exact HB.out)⟩
      · replace c15 := Bool.eq_false_iff.mpr c15
        subst c15
        have H1 : (if 0 ≤ (Int.tmod (wrap64 (a1)) 5) then (estoverslaw40_CompactionPossible.l0 kj3 l0 (Int.tmod (wrap64 (a1)) 5) (shl .i64 1 (Int.tmod (wrap64 (a1)) 5)) (-1) 0 t195 t196 t197) else (none)) = some r := by rw [if_neg (show ¬ (false = true) by decide)] at H; exact H
        clear H
        have H := H1
        clear H1
        obtain ⟨ji18, hji18⟩ : ∃ j_ : Int, (Int.tmod (wrap64 (a1)) 5) = j_ := ⟨_, rfl⟩
        replace H : (if 0 ≤ (ji18) then (estoverslaw40_CompactionPossible.l0 kj3 l0 ji18 (shl .i64 1 (ji18)) (-1) 0 t195 t196 t197) else (none)) = some r := by first | (rw [hji18] at H; exact H) | (simp only [hji18] at H ⊢; exact H)
        by_cases c19 : 0 ≤ (ji18)
        · rw [if_pos c19] at H
          have c19b0 := eq_true c19
          have c19b1 : decide (0 ≤ (ji18)) = true := decide_eq_true c19
          clear c19
          obtain ⟨ji20, hji20⟩ : ∃ j_ : Int, (shl .i64 1 (ji18)) = j_ := ⟨_, rfl⟩
          replace H : (estoverslaw40_CompactionPossible.l0 kj3 l0 ji18 ji20 (-1) 0 t195 t196 t197) = some r := by first | (rw [hji20] at H; exact H) | (simp only [hji20] at H ⊢; exact H)
          have hji20_ : (IntKind.i64.wrap (1 * 2 ^ min (ji18).toNat 64)) = ji20 := hji20
          have hji20z : (ji18) ≤ 64 → (IntKind.i64.wrap (1 * 2 ^ (ji18).toNat)) = ji20 := shl_small hji20
          have hji20u : (IntKind.i64.wrap (2 ^ min (ji18).toNat 64)) = ji20 := by have h_ := hji20_; rw [Int.one_mul] at h_; exact h_
          have hji20v : (ji18) ≤ 64 → (IntKind.i64.wrap (2 ^ (ji18).toNat)) = ji20 := fun hle_ => by have h_ := hji20z hle_; rw [Int.one_mul] at h_; exact h_
          have hji20y : (wrap64 (1 * 2 ^ min (ji18).toNat 64)) = ji20 := (i64_w _).symm.trans hji20_
          have hji20x : (ji18) ≤ 64 → (wrap64 (1 * 2 ^ (ji18).toNat)) = ji20 := fun h_ => (i64_w _).symm.trans (hji20z h_)
          have H' := Aside0.mk H
          clear H
          go_wp2
          go_loopg [9, 10] kj3 (fun kq v9 v10 w' => ∃ (x9_2 : Int) (x10_2 : Int), v9 = .int .i64 x9_2 ∧ v10 = .int .i64 x10_2 ∧ Aside0 (estoverslaw40_CompactionPossible.l0 kq l0 ji18 ji20 x9_2 x10_2 t195 t196 t197 = some r) ∧ Aside0 (kq ≤ kj3) ∧ Aside0 (w'.heap[gb199]? = some (.cells #[.int .i64 t195, .int .i64 t196, .int .i64 t197] 44 (0, 0))) ∧ Aside0 (Below w.heap.size w w'))
          case atStart => exact ⟨((-1)), (0), (by first | rfl | (simp; done) | (simp [*]; done)), (by first | rfl | (simp; done) | (simp [*]; done)), H', ⟨Nat.le_refl _⟩, ⟨by (with_reducible repeat (first | refine blk_drewN ?_ _ | refine blk_drew ?_ | refine blk_alloc ?_ _)); exact BK199.out⟩, ⟨by repeat (first | (with_reducible first | exact HB.out | apply below_alloc | apply pw_below_drewN | apply below_drew1 | refine below_set ?_ GE199.out) | exact HB.out)⟩⟩
          case round =>
            clear H'
            try clear c1
            try clear p2
            try clear c3
            try clear p6
            try clear c9
            try clear c11
            try clear c15
            try clear c19
            try clear c19b0
            try clear c19b1
            try clear hcz7_0
            try clear hcz7_1
            try clear hcz7_2
            try clear hfz7_0
            try clear hfz7_1
            try clear hfz7_2
            try clear p2
            obtain ⟨x9_2, x10_2, rfl, rfl, HA, HK2, BK199, HB⟩ := hrel
            cases gk with
            | zero => exact absurd HA.out (by simp [estoverslaw40_CompactionPossible.l0])
            | succ k2 =>
              have H := HA.out
              clear HA
              simp only [estoverslaw40_CompactionPossible.l0] at H
              by_cases c21 : (wrap64 (x10_2 + ji20)) ≤ (l0.length : Int)
              · rw [if_pos c21] at H
                have c21b0 : decide ((wrap64 (x10_2 + ji20)) ≤ (l0.length : Int)) = true := decide_eq_true c21
                clear c21
                by_cases c22 : 0 ≤ x10_2
                · rw [if_pos c22] at H
                  have c22b0 := eq_true c22
                  have c22b1 : decide (0 ≤ x10_2) = true := decide_eq_true c22
                  clear c22
                  by_cases c23 : x10_2 ≤ (wrap64 (x10_2 + ji20))
                  · rw [if_pos c23] at H
                    have c23b0 := eq_true c23
                    have c23b1 : decide (x10_2 ≤ (wrap64 (x10_2 + ji20))) = true := decide_eq_true c23
                    have c24b0 := eq_true (of_decide_eq_true (by first | (with_reducible assumption) | assumption) : (wrap64 (x10_2 + ji20)) ≤ (l0.length : Int))
                    replace H := Option.bind_eq_some_iff.mp H
                    obtain ⟨⟨t205, t206, t207, t208⟩, A250, H⟩ := H
                    replace H : ((compaction_Clear.f k2 l0 x10_2 ji20).bind fun bt210 => (if t207 = 0 then (estoverslaw40_CompactionPossible.j2 k2 l0 ji18 ji20 x9_2 x10_2 bt210.1 bt210.2 ((bt210.2 == 0) != (decide (t195 ≥ ji20))) t195 t196 t197) else (estoverslaw40_CompactionPossible.j2 k2 l0 ji18 ji20 x9_2 x10_2 bt210.1 bt210.2 ((bt210.2 == 0) != false) t195 t196 t197))) = some r := H
                    have A25 := Aside0.mk A250
                    clear A250
                    replace H := Option.bind_eq_some_iff.mp H
                    obtain ⟨⟨t210, t211⟩, A260, H⟩ := H
                    replace H : (if t207 = 0 then (estoverslaw40_CompactionPossible.j2 k2 l0 ji18 ji20 x9_2 x10_2 t210 t211 ((t211 == 0) != (decide (t195 ≥ ji20))) t195 t196 t197) else (estoverslaw40_CompactionPossible.j2 k2 l0 ji18 ji20 x9_2 x10_2 t210 t211 ((t211 == 0) != false) t195 t196 t197)) = some r := H
                    have A26 := Aside0.mk A260
                    clear A260
                    have HC27 := Aside0.mk H
                    clear H
                    obtain ⟨i028, hi028, _, hsz28, _⟩ := info_parts info3
                    obtain ⟨A28, hcut28, hA28, hC28⟩ := print_mid_of (P := Try.prog) (Value.int .i64) 0 22 3 .i64 .i64 Try.underlying22 hi028 hsz28 A0 c0 l0 x10_2 (wrap64 (x10_2 + ji20)) (of_decide_eq_true (by first | (with_reducible assumption) | assumption)) (by first | omega | exact of_decide_eq_true (by first | (with_reducible assumption) | assumption)) (of_decide_eq_true (by first | (with_reducible assumption) | assumption)) HC0.out
                    have HR204 := Aside0.mk (Kd.C_of_reads (h1 := fun _ => rfl) (hA28 _ (Kd.reads_of_C HR0.out)))
                    have HC204 := Aside0.mk hC28
                    clear hA28 hC28 hi028 hsz28
                    go_upto_region 12 with (first | ((with_reducible refine gate_callee (f := 31) rfl ?_); refine goesL_ (some 56) rfl rfl Try.func31 (by kernel_rfl) rfl #[.slice A28 ((l0.take ((wrap64 (x10_2 + ji20)) : Int).toNat).drop (x10_2 : Int).toNat).length (c0 - x10_2.toNat)] rfl (by (try simp only [List.map_toArray, List.map_cons, List.map_nil]); first | done | (rw [show ((l0.take ((wrap64 (x10_2 + ji20)) : Int).toNat).drop (x10_2 : Int).toNat).length = ((wrap64 (x10_2 + ji20)).toNat - x10_2.toNat) from (by rw [List.length_drop, List.length_take]; have h_ : ((wrap64 (x10_2 + ji20)) : Int) ≤ (l0.length : Int) := of_decide_eq_true (by first | (with_reducible assumption) | assumption); omega)] <;> rfl) | (simp only [hji20]; rfl) | rfl | (simp only [List.length_drop, List.length_take]; rfl)) ?_; (with_reducible refine (estoverslaw40_kinds.calls k2 _ _ ((l0.take ((wrap64 (x10_2 + ji20)) : Int).toNat).drop (x10_2 : Int).toNat) t205 t206 t207 t208 _ ?side1 ?side2 A25.out).mono ?_); (case side1 => repeat (first | exact (Kd.C_below HR204.out HB.out) | (with_reducible refine Kd.C_alloc ?_ _) | (with_reducible refine Kd.C_drewN ?_ _) | (with_reducible refine Kd.C_drew ?_))); (case side2 => exact HC204.out); rintro e w29 ⟨rfl, hb⟩; refine ⟨_, rfl, ?_⟩; have n0_ := Aside0.mk (blk_below (g := gb199) (o := .cells #[.int .i64 t195, .int .i64 t196, .int .i64 t197] 44 (0, 0)) (by (with_reducible repeat (first | refine blk_drewN ?_ _ | refine blk_drew ?_ | refine blk_alloc ?_ _)); exact BK199.out) hb); have n1_ := Aside0.mk (below_step (by repeat (first | (with_reducible first | exact HB.out | apply below_alloc | apply pw_below_drewN | apply below_drew1 | refine below_set ?_ GE199.out) | exact HB.out)) hb); clear BK199; clear HB; have BK199 := n0_; have HB := n1_; clear n0_ n1_; (try clear hb); (try clear hb2); (try clear hk); (try clear hi)) | ((with_reducible refine gate_dst (N := 11) rfl ?_); refine box_event ?hg (N := 11) ?hd (cs := #[.int .i64 0, .int .i64 0, .int .i64 0]) (t := 44) ?hr ?_; (case hd => rfl); (case hg => rfl); (case hr => first | (go_simp; done) | (go_simp; rfl)); intro gb209 hg w30 hbox hb; have n0_ := Aside0.mk (blk_below (g := gb199) (o := .cells #[.int .i64 t195, .int .i64 t196, .int .i64 t197] 44 (0, 0)) (by (with_reducible repeat (first | refine blk_drewN ?_ _ | refine blk_drew ?_ | refine blk_alloc ?_ _)); exact BK199.out) hb); have n1_ := Aside0.mk (below_step (by repeat (first | (with_reducible first | exact HB.out | apply below_alloc | apply pw_below_drewN | apply below_drew1 | refine below_set ?_ GE199.out) | exact HB.out)) hb); have n2_ := Aside0.mk (hbox); have n3_ := Aside0.mk ((by rw [hg]; exact (below_size (by repeat (first | (with_reducible first | exact HB.out | apply below_alloc | apply pw_below_drewN | apply below_drew1 | refine below_set ?_ GE199.out) | exact HB.out))) : w.heap.size ≤ gb209)); have n4_ := Aside0.mk ((by rw [hg]; exact (below_size (by repeat (first | (with_reducible first | exact HB.out | apply below_alloc | apply pw_below_drewN | apply below_drew1 | refine below_set ?_ GE199.out) | exact HB.out))) : w.heap.size ≤ gb209)); have n5_ := Aside0.mk ((by rw [hg]; exact Nat.ne_of_lt (blk_lt (g := gb199) (o := .cells #[.int .i64 t195, .int .i64 t196, .int .i64 t197] 44 (0, 0)) (by (with_reducible repeat (first | refine blk_drewN ?_ _ | refine blk_drew ?_ | refine blk_alloc ?_ _)); exact BK199.out)) : gb199 ≠ gb209)); have n6_ := Aside0.mk ((by rw [hg]; exact Nat.ne_of_gt (blk_lt (g := gb199) (o := .cells #[.int .i64 t195, .int .i64 t196, .int .i64 t197] 44 (0, 0)) (by (with_reducible repeat (first | refine blk_drewN ?_ _ | refine blk_drew ?_ | refine blk_alloc ?_ _)); exact BK199.out)) : gb209 ≠ gb199)); clear BK199; clear HB; have BK199 := n0_; have HB := n1_; have BK209 := n2_; have GW209 := n3_; have GE209 := n4_; have NB199_209 := n5_; have NB209_199 := n6_; clear n0_ n1_ n2_ n3_ n4_ n5_ n6_; clear hb hbox hg; have hnb31 := NB209_199.out; have hnc31 := NB199_209.out; have hcz32_0 : w30.cell? ⟨gb209, 0, none⟩ = some (.int .i64 0) := (blk_cell BK209.out 0).trans rfl; have hcz32_1 : w30.cell? ⟨gb209, 1, none⟩ = some (.int .i64 0) := (blk_cell BK209.out 1).trans rfl; have hcz32_2 : w30.cell? ⟨gb209, 2, none⟩ = some (.int .i64 0) := (blk_cell BK209.out 2).trans rfl; have hfz32_0 := blk_frozen BK209.out 0; have hfz32_1 := blk_frozen BK209.out 1; have hfz32_2 := blk_frozen BK209.out 2) | ((with_reducible refine gate_callee (f := 29) rfl ?_); refine goesL_ (some 63) rfl rfl Try.func29 (by kernel_rfl) rfl #[.slice A0 l0.length c0, .int .i64 x10_2, .int .i64 ji20] rfl (by (try simp only [List.map_toArray, List.map_cons, List.map_nil]); first | done | (simp only [hji20]; rfl) | rfl | (simp only [List.length_drop, List.length_take]; rfl)) ?_; (with_reducible refine (compaction_Clear.calls k2 _ _ l0 x10_2 ji20 t210 t211 _ ?side1 ?side2 A26.out).mono ?_); (case side1 => exact Kd.C_below HR0.out (by repeat (first | (with_reducible first | exact HB.out | apply below_alloc | apply pw_below_drewN | apply below_drew1 | refine below_set ?_ GE199.out | refine below_set ?_ GE209.out) | exact HB.out))); (case side2 => exact HC0.out); rintro e w33 ⟨v212, rfl, ho0, hb⟩; refine ⟨_, rfl, ?_⟩; have n0_ := Aside0.mk (Kd.R_lower ho0 (below_size (by repeat (first | (with_reducible first | exact HB.out | apply below_alloc | apply pw_below_drewN | apply below_drew1 | refine below_set ?_ GE199.out | refine below_set ?_ GE209.out) | exact HB.out)))); have n1_ := Aside0.mk (blk_below (g := gb199) (o := .cells #[.int .i64 t195, .int .i64 t196, .int .i64 t197] 44 (0, 0)) (by (with_reducible repeat (first | refine blk_drewN ?_ _ | refine blk_drew ?_ | refine blk_alloc ?_ _)); refine blk_far ?_ NB199_209.out _; (with_reducible repeat (first | refine blk_drewN ?_ _ | refine blk_drew ?_ | refine blk_alloc ?_ _)); refine blk_far ?_ NB199_209.out _; (with_reducible repeat (first | refine blk_drewN ?_ _ | refine blk_drew ?_ | refine blk_alloc ?_ _)); refine blk_far ?_ NB199_209.out _; (with_reducible repeat (first | refine blk_drewN ?_ _ | refine blk_drew ?_ | refine blk_alloc ?_ _)); exact BK199.out) hb); have n2_ := Aside0.mk (blk_below (g := gb209) (o := .cells #[.int .i64 t205, .int .i64 t206, .int .i64 t207] 44 (0, 0)) (by (with_reducible repeat (first | refine blk_drewN ?_ _ | refine blk_drew ?_ | refine blk_alloc ?_ _)); refine blk_put (cs := #[.int .i64 t205, .int .i64 t206, .int .i64 0]) ?_ 2 _ rfl; (with_reducible repeat (first | refine blk_drewN ?_ _ | refine blk_drew ?_ | refine blk_alloc ?_ _)); refine blk_put (cs := #[.int .i64 t205, .int .i64 0, .int .i64 0]) ?_ 1 _ rfl; (with_reducible repeat (first | refine blk_drewN ?_ _ | refine blk_drew ?_ | refine blk_alloc ?_ _)); refine blk_put (cs := #[.int .i64 0, .int .i64 0, .int .i64 0]) ?_ 0 _ rfl; (with_reducible repeat (first | refine blk_drewN ?_ _ | refine blk_drew ?_ | refine blk_alloc ?_ _)); exact BK209.out) hb); have n3_ := Aside0.mk (below_step (by repeat (first | (with_reducible first | exact HB.out | apply below_alloc | apply pw_below_drewN | apply below_drew1 | refine below_set ?_ GE199.out | refine below_set ?_ GE209.out) | exact HB.out)) hb); clear BK199; clear BK209; clear HB; have HO213 := n0_; have BK199 := n1_; have BK209 := n2_; have HB := n3_; clear n0_ n1_ n2_ n3_; (try clear hb); (try clear hb2); (try clear hk); (try clear hi); (try clear ho0)))
                    (try simp only [Act.put, List.setIfInBounds_toArray, List.set_cons_zero, List.set_cons_succ])
                    go_cut [77] (fun v77 wc => ∃ (kq : Nat) (x77_26 : Bool), v77 = .bool x77_26 ∧ Aside0 (estoverslaw40_CompactionPossible.j2 kq l0 ji18 ji20 x9_2 x10_2 t210 t211 x77_26 t195 t196 t197 = some r) ∧ Aside0 (kq ≤ k2) ∧ Aside0 (Kd.R k26 26 wc w.heap.size (fun _ => True) v212 t210) ∧ Aside0 (wc.heap[gb199]? = some (.cells #[.int .i64 t195, .int .i64 t196, .int .i64 t197] 44 (0, 0))) ∧ Aside0 (wc.heap[gb209]? = some (.cells #[.int .i64 t205, .int .i64 t206, .int .i64 t207] 44 (0, 0))) ∧ Aside0 (Below w.heap.size w wc))
                    case first =>
                      have H := HC27.out
                      clear HC27
                      by_cases c34 : t207 = 0
                      · rw [if_pos c34] at H
                        have c34b0 : (t207 == 0) = true := beq_iff_eq.mpr c34
                        have c34b1 : (t207 != 0) = false := bne_eq_false_iff_eq.mpr c34
                        clear c34
                        (first | rw [c34b0] | (simp only [i64_w, i32_w]; rw [c34b0]) | skip)
                        have H' := Aside0.mk H
                        clear H
                        have hnb35 := NB209_199.out
                        have hnc35 := NB199_209.out
                        have hcz36_0 : w33.cell? ⟨gb209, 0, none⟩ = some (.int .i64 t205) := (blk_cell BK209.out 0).trans rfl
                        have hcz36_1 : w33.cell? ⟨gb209, 1, none⟩ = some (.int .i64 t206) := (blk_cell BK209.out 1).trans rfl
                        have hcz36_2 : w33.cell? ⟨gb209, 2, none⟩ = some (.int .i64 t207) := (blk_cell BK209.out 2).trans rfl
                        have hfz36_0 := blk_frozen BK209.out 0
                        have hfz36_1 := blk_frozen BK209.out 1
                        have hfz36_2 := blk_frozen BK209.out 2
                        have hcz37_0 : w33.cell? ⟨gb199, 0, none⟩ = some (.int .i64 t195) := (blk_cell BK199.out 0).trans rfl
                        have hcz37_1 : w33.cell? ⟨gb199, 1, none⟩ = some (.int .i64 t196) := (blk_cell BK199.out 1).trans rfl
                        have hcz37_2 : w33.cell? ⟨gb199, 2, none⟩ = some (.int .i64 t197) := (blk_cell BK199.out 2).trans rfl
                        have hfz37_0 := blk_frozen BK199.out 0
                        have hfz37_1 := blk_frozen BK199.out 1
                        have hfz37_2 := blk_frozen BK199.out 2
                        go_wp2
                        go_meet
                        case rel => exact ⟨_, (((t211 == 0) != (decide (t195 ≥ ji20)))), (by first | rfl | (simp; done) | (simp only [← hji20] <;> (first | rfl | simp)) | (simp [*]; done)), H', ⟨by have := HJ3.out; have := HK2.out; first | omega | exact Nat.le_refl _⟩, ⟨by (with_reducible repeat (first | apply Kd.R_alloc | apply Kd.R_drewN | apply Kd.R_drew)); exact HO213.out⟩, ⟨by (with_reducible repeat (first | refine blk_drewN ?_ _ | refine blk_drew ?_ | refine blk_alloc ?_ _)); exact BK199.out⟩, ⟨by (with_reducible repeat (first | refine blk_drewN ?_ _ | refine blk_drew ?_ | refine blk_alloc ?_ _)); exact BK209.out⟩, ⟨by repeat (first | (with_reducible first | exact HB.out | apply below_alloc | apply pw_below_drewN | apply below_drew1 | refine below_set ?_ GE199.out | refine below_set ?_ GE209.out) | exact HB.out)⟩⟩
                      · rw [if_neg c34] at H
                        have c34b0 : (t207 == 0) = false := beq_eq_false_iff_ne.mpr c34
                        have c34b1 : (t207 != 0) = true := bne_iff_ne.mpr c34
                        (first | rw [c34b0] | (simp only [i64_w, i32_w]; rw [c34b0]) | skip)
                        have H' := Aside0.mk H
                        clear H
                        have hnb38 := NB209_199.out
                        have hnc38 := NB199_209.out
                        have hcz39_0 : w33.cell? ⟨gb209, 0, none⟩ = some (.int .i64 t205) := (blk_cell BK209.out 0).trans rfl
                        have hcz39_1 : w33.cell? ⟨gb209, 1, none⟩ = some (.int .i64 t206) := (blk_cell BK209.out 1).trans rfl
                        have hcz39_2 : w33.cell? ⟨gb209, 2, none⟩ = some (.int .i64 t207) := (blk_cell BK209.out 2).trans rfl
                        have hfz39_0 := blk_frozen BK209.out 0
                        have hfz39_1 := blk_frozen BK209.out 1
                        have hfz39_2 := blk_frozen BK209.out 2
                        go_wp2
                        go_meet
                        case rel => exact ⟨_, (((t211 == 0) != false)), (by first | rfl | (simp; done) | (simp [*]; done)), H', ⟨by have := HJ3.out; have := HK2.out; first | omega | exact Nat.le_refl _⟩, ⟨by (with_reducible repeat (first | apply Kd.R_alloc | apply Kd.R_drewN | apply Kd.R_drew)); exact HO213.out⟩, ⟨by (with_reducible repeat (first | refine blk_drewN ?_ _ | refine blk_drew ?_ | refine blk_alloc ?_ _)); exact BK199.out⟩, ⟨by (with_reducible repeat (first | refine blk_drewN ?_ _ | refine blk_drew ?_ | refine blk_alloc ?_ _)); exact BK209.out⟩, ⟨by repeat (first | (with_reducible first | exact HB.out | apply below_alloc | apply pw_below_drewN | apply below_drew1 | refine below_set ?_ GE199.out | refine below_set ?_ GE209.out) | exact HB.out)⟩⟩
                    case rest =>
                      clear HC27
                      try clear c1
                      try clear c2
                      try clear p2
                      try clear c3
                      try clear p6
                      try clear c9
                      try clear c11
                      try clear c15
                      try clear c19
                      try clear c19b0
                      try clear c19b1
                      try clear c21
                      try clear c21b0
                      try clear c22
                      try clear c22b0
                      try clear c22b1
                      try clear c23
                      try clear c23b0
                      try clear c23b1
                      try clear c24
                      try clear c24b0
                      try clear c29
                      try clear c31
                      try clear c34
                      try clear c34b0
                      try clear c34b1
                      try clear c35
                      try clear c38
                      try clear hcz32_0
                      try clear hcz32_1
                      try clear hcz32_2
                      try clear hcz36_0
                      try clear hcz36_1
                      try clear hcz36_2
                      try clear hcz37_0
                      try clear hcz37_1
                      try clear hcz37_2
                      try clear hcz39_0
                      try clear hcz39_1
                      try clear hcz39_2
                      try clear hcz7_0
                      try clear hcz7_1
                      try clear hcz7_2
                      try clear hfz32_0
                      try clear hfz32_1
                      try clear hfz32_2
                      try clear hfz36_0
                      try clear hfz36_1
                      try clear hfz36_2
                      try clear hfz37_0
                      try clear hfz37_1
                      try clear hfz37_2
                      try clear hfz39_0
                      try clear hfz39_1
                      try clear hfz39_2
                      try clear hfz7_0
                      try clear hfz7_1
                      try clear hfz7_2
                      try clear p2
                      try clear p6
                      obtain ⟨kq, x77_26, rfl, HA, HJ26, HO_13, BK199, BK209, HB⟩ := hcut
                      cases kq with
                      | zero => exact absurd HA.out (by simp [estoverslaw40_CompactionPossible.j2])
                      | succ kj26 =>
                        have H := HA.out
                        clear HA
                        simp only [estoverslaw40_CompactionPossible.j2] at H
                        by_cases c40 : x77_26 = true
                        · subst c40
                          have H1 : (some false) = some r := by rw [if_pos rfl] at H; exact H
                          clear H
                          have H := H1
                          clear H1
                          obtain rfl := Option.some.inj H
                          go_wp2
                          go_ret
                          exact ⟨by first | rfl | (simp [errW_none, errW_some] <;> rfl) | (simp only [← hji18, ← hji20]; first | rfl | (simp [errW_none, errW_some] <;> rfl)) | (simp [*, errW_none, errW_some] <;> rfl), by repeat (first | (with_reducible first | exact HB.out | apply below_alloc | apply pw_below_drewN | apply below_drew1 | refine below_set ?_ GE199.out | refine below_set ?_ GE209.out) | exact HB.out)⟩
                        · replace c40 := Bool.eq_false_iff.mpr c40
                          subst c40
                          have H1 : (if t211 = 0 then (estoverslaw40_CompactionPossible.j3 kj26 l0 ji18 ji20 x9_2 x10_2 t210 (decide (x9_2 ≥ 0)) t195 t196 t197) else (estoverslaw40_CompactionPossible.j3 kj26 l0 ji18 ji20 x9_2 x10_2 t210 true t195 t196 t197)) = some r := by rw [if_neg (show ¬ (false = true) by decide)] at H; exact H
                          clear H
                          have H := H1
                          clear H1
                          have HC41 := Aside0.mk H
                          clear H
                          go_upto_region 14 with (fail)
                          go_cut [83] (fun v83 wc => ∃ (kq : Nat) (x83_40 : Bool), v83 = .bool x83_40 ∧ Aside0 (estoverslaw40_CompactionPossible.j3 kq l0 ji18 ji20 x9_2 x10_2 t210 x83_40 t195 t196 t197 = some r) ∧ Aside0 (kq ≤ kj26) ∧ Aside0 (Kd.R k26 26 wc w.heap.size (fun _ => True) v212 t210) ∧ Aside0 (wc.heap[gb199]? = some (.cells #[.int .i64 t195, .int .i64 t196, .int .i64 t197] 44 (0, 0))) ∧ Aside0 (wc.heap[gb209]? = some (.cells #[.int .i64 t205, .int .i64 t206, .int .i64 t207] 44 (0, 0))) ∧ Aside0 (Below w.heap.size w wc))
                          case first =>
                            have H := HC41.out
                            clear HC41
                            by_cases c42 : t211 = 0
                            · rw [if_pos c42] at H
                              have c42b0 : (t211 == 0) = true := beq_iff_eq.mpr c42
                              have c42b1 : (t211 != 0) = false := bne_eq_false_iff_eq.mpr c42
                              clear c42
                              (first | rw [c42b0] | (simp only [i64_w, i32_w]; rw [c42b0]) | skip)
                              have H' := Aside0.mk H
                              clear H
                              go_wp2
                              go_meet
                              case rel => exact ⟨_, (decide (x9_2 ≥ 0)), (by first | rfl | (simp; done) | (simp [*]; done)), H', ⟨by have := HJ3.out; have := HK2.out; have := HJ26.out; first | omega | exact Nat.le_refl _⟩, ⟨by (with_reducible repeat (first | apply Kd.R_alloc | apply Kd.R_drewN | apply Kd.R_drew)); exact HO_13.out⟩, ⟨by (with_reducible repeat (first | refine blk_drewN ?_ _ | refine blk_drew ?_ | refine blk_alloc ?_ _)); exact BK199.out⟩, ⟨by (with_reducible repeat (first | refine blk_drewN ?_ _ | refine blk_drew ?_ | refine blk_alloc ?_ _)); exact BK209.out⟩, ⟨by repeat (first | (with_reducible first | exact HB.out | apply below_alloc | apply pw_below_drewN | apply below_drew1 | refine below_set ?_ GE199.out | refine below_set ?_ GE209.out) | exact HB.out)⟩⟩
                            · rw [if_neg c42] at H
                              have c42b0 : (t211 == 0) = false := beq_eq_false_iff_ne.mpr c42
                              have c42b1 : (t211 != 0) = true := bne_iff_ne.mpr c42
                              (first | rw [c42b0] | (simp only [i64_w, i32_w]; rw [c42b0]) | skip)
                              have H' := Aside0.mk H
                              clear H
                              go_wp2
                              go_meet
                              case rel => exact ⟨_, (true), (by first | rfl | (simp; done) | (simp [*]; done)), H', ⟨by have := HJ3.out; have := HK2.out; have := HJ26.out; first | omega | exact Nat.le_refl _⟩, ⟨by (with_reducible repeat (first | apply Kd.R_alloc | apply Kd.R_drewN | apply Kd.R_drew)); exact HO_13.out⟩, ⟨by (with_reducible repeat (first | refine blk_drewN ?_ _ | refine blk_drew ?_ | refine blk_alloc ?_ _)); exact BK199.out⟩, ⟨by (with_reducible repeat (first | refine blk_drewN ?_ _ | refine blk_drew ?_ | refine blk_alloc ?_ _)); exact BK209.out⟩, ⟨by repeat (first | (with_reducible first | exact HB.out | apply below_alloc | apply pw_below_drewN | apply below_drew1 | refine below_set ?_ GE199.out | refine below_set ?_ GE209.out) | exact HB.out)⟩⟩
                          case rest =>
                            clear HC41
                            try clear c1
                            try clear c2
                            try clear p2
                            try clear c3
                            try clear c4
                            try clear p6
                            try clear c9
                            try clear c11
                            try clear c15
                            try clear c19
                            try clear c19b0
                            try clear c19b1
                            try clear c21
                            try clear c21b0
                            try clear c22
                            try clear c22b0
                            try clear c22b1
                            try clear c23
                            try clear c23b0
                            try clear c23b1
                            try clear c24
                            try clear c24b0
                            try clear c29
                            try clear c31
                            try clear c34
                            try clear c34b0
                            try clear c34b1
                            try clear c35
                            try clear c38
                            try clear c40
                            try clear c42
                            try clear c42b0
                            try clear c42b1
                            try clear hcz32_0
                            try clear hcz32_1
                            try clear hcz32_2
                            try clear hcz36_0
                            try clear hcz36_1
                            try clear hcz36_2
                            try clear hcz37_0
                            try clear hcz37_1
                            try clear hcz37_2
                            try clear hcz39_0
                            try clear hcz39_1
                            try clear hcz39_2
                            try clear hcz7_0
                            try clear hcz7_1
                            try clear hcz7_2
                            try clear hfz32_0
                            try clear hfz32_1
                            try clear hfz32_2
                            try clear hfz36_0
                            try clear hfz36_1
                            try clear hfz36_2
                            try clear hfz37_0
                            try clear hfz37_1
                            try clear hfz37_2
                            try clear hfz39_0
                            try clear hfz39_1
                            try clear hfz39_2
                            try clear hfz7_0
                            try clear hfz7_1
                            try clear hfz7_2
                            try clear p2
                            try clear p6
                            obtain ⟨kq, x83_40, rfl, HA, HJ40, HO_13, BK199, BK209, HB⟩ := hcut
                            cases kq with
                            | zero => exact absurd HA.out (by simp [estoverslaw40_CompactionPossible.j3])
                            | succ kj40 =>
                              have H := HA.out
                              clear HA
                              simp only [estoverslaw40_CompactionPossible.j3] at H
                              by_cases c43 : x83_40 = true
                              · subst c43
                                have H1 : (estoverslaw40_CompactionPossible.l0 kj40 l0 ji18 ji20 x9_2 (wrap64 (x10_2 + ji20)) t195 t196 t197) = some r := by rw [if_pos rfl] at H; exact H
                                clear H
                                have H := H1
                                clear H1
                                have H' := Aside0.mk H
                                clear H
                                go_wp2
                                go_roundg kj40
                                case measure => have := HJ3.out; have := HK2.out; have := HJ26.out; have := HJ40.out; omega
                                case rel => exact ⟨(x9_2), (wrap64 (x10_2 + ji20)), (by first | rfl | (simp; done) | (simp [*]; done)), (by first | rfl | (simp; done) | (simp only [← hji20] <;> (first | rfl | simp)) | (simp [*]; done)), H', ⟨by have := HJ3.out; have := HK2.out; have := HJ26.out; have := HJ40.out; omega⟩, ⟨by (with_reducible repeat (first | refine blk_drewN ?_ _ | refine blk_drew ?_ | refine blk_alloc ?_ _)); exact BK199.out⟩, ⟨by repeat (first | (with_reducible first | exact HB.out | apply below_alloc | apply pw_below_drewN | apply below_drew1 | refine below_set ?_ GE199.out | refine below_set ?_ GE209.out) | exact HB.out)⟩⟩
                              · replace c43 := Bool.eq_false_iff.mpr c43
                                subst c43
                                have H1 : ((compaction_Apply.f l0 t210).bind fun bt214 => (if bt214.2 = 0 then ((compaction_Fits.f bt214.1 ji18).bind fun t218 => (if t218 < 0 then (some false) else (if t218 > x10_2 then (some false) else (estoverslaw40_CompactionPossible.l0 kj40 l0 ji18 ji20 x10_2 (wrap64 (x10_2 + ji20)) t195 t196 t197)))) else (some false))) = some r := by rw [if_neg (show ¬ (false = true) by decide)] at H; exact H
                                clear H
                                have H := H1
                                clear H1
                                replace H := Option.bind_eq_some_iff.mp H
                                obtain ⟨⟨t214, t215⟩, A440, H⟩ := H
                                replace H : (if t215 = 0 then ((compaction_Fits.f t214 ji18).bind fun t218 => (if t218 < 0 then (some false) else (if t218 > x10_2 then (some false) else (estoverslaw40_CompactionPossible.l0 kj40 l0 ji18 ji20 x10_2 (wrap64 (x10_2 + ji20)) t195 t196 t197)))) else (some false)) = some r := H
                                have A44 := Aside0.mk A440
                                clear A440
                                by_cases c45 : t215 = 0
                                · rw [if_pos c45] at H
                                  have c45b0 : (t215 == 0) = true := beq_iff_eq.mpr c45
                                  have c45b1 : (t215 != 0) = false := bne_eq_false_iff_eq.mpr c45
                                  clear c45
                                  replace H := Option.bind_eq_some_iff.mp H
                                  obtain ⟨t218, A460, H⟩ := H
                                  replace H : (if t218 < 0 then (some false) else (if t218 > x10_2 then (some false) else (estoverslaw40_CompactionPossible.l0 kj40 l0 ji18 ji20 x10_2 (wrap64 (x10_2 + ji20)) t195 t196 t197))) = some r := H
                                  have A46 := Aside0.mk A460
                                  clear A460
                                  by_cases c47 : t218 < 0
                                  · rw [if_pos c47] at H
                                    have c47b0 : decide (t218 < 0) = true := decide_eq_true c47
                                    clear c47
                                    obtain rfl := Option.some.inj H
                                    obtain ⟨Ao48, co48, eo48⟩ := Kd.R_slice HO_13.out
                                    subst eo48
                                    go_wp2_with (first | ((with_reducible refine gate_callee (f := 20) rfl ?_); refine goesL_ (some 88) rfl rfl Try.func20 (by kernel_rfl) rfl #[.slice A0 l0.length c0, .slice Ao48 t210.length co48] rfl (by (try simp only [List.map_toArray, List.map_cons, List.map_nil]); first | done | rfl | (simp only [List.length_drop, List.length_take]; rfl)) ?_; (with_reducible refine (compaction_Apply.calls _ _ l0 _ _ t210 t214 t215 _ ?side1 ?side2 ?side3 ?side4 A44.out).mono ?_); (case side1 => repeat (first | exact (Kd.C_below HR0.out HB.out) | (with_reducible refine Kd.C_alloc ?_ _) | (with_reducible refine Kd.C_drewN ?_ _) | (with_reducible refine Kd.C_drew ?_))); (case side2 => exact HC0.out); (case side3 => repeat (first | exact (Kd.R_reads' HO_13.out).2.2 | (with_reducible refine Kd.C_alloc ?_ _) | (with_reducible refine Kd.C_drewN ?_ _) | (with_reducible refine Kd.C_drew ?_))); (case side4 => exact (Kd.R_reads' HO_13.out).2.1); rintro e w49 ⟨v216, rfl, ho0, hb⟩; refine ⟨_, rfl, ?_⟩; have n0_ := Aside0.mk (Kd.R_below (by (with_reducible repeat (first | apply Kd.R_alloc | apply Kd.R_drewN | apply Kd.R_drew)); exact HO_13.out) hb); have n1_ := Aside0.mk (Kd.R_lower ho0 (below_size (by repeat (first | (with_reducible first | exact HB.out | apply below_alloc | apply pw_below_drewN | apply below_drew1 | refine below_set ?_ GE199.out | refine below_set ?_ GE209.out) | exact HB.out)))); have n2_ := Aside0.mk (blk_below (g := gb199) (o := .cells #[.int .i64 t195, .int .i64 t196, .int .i64 t197] 44 (0, 0)) (by (with_reducible repeat (first | refine blk_drewN ?_ _ | refine blk_drew ?_ | refine blk_alloc ?_ _)); exact BK199.out) hb); have n3_ := Aside0.mk (blk_below (g := gb209) (o := .cells #[.int .i64 t205, .int .i64 t206, .int .i64 t207] 44 (0, 0)) (by (with_reducible repeat (first | refine blk_drewN ?_ _ | refine blk_drew ?_ | refine blk_alloc ?_ _)); exact BK209.out) hb); have n4_ := Aside0.mk (below_step (by repeat (first | (with_reducible first | exact HB.out | apply below_alloc | apply pw_below_drewN | apply below_drew1 | refine below_set ?_ GE199.out | refine below_set ?_ GE209.out) | exact HB.out)) hb); clear HO_13; clear BK199; clear BK209; clear HB; have HO_13 := n0_; have HO217 := n1_; have BK199 := n2_; have BK209 := n3_; have HB := n4_; clear n0_ n1_ n2_ n3_ n4_; (try clear hb); (try clear hb2); (try clear hk); (try clear hi); (try clear ho0); obtain ⟨Ao50, co50, eo50⟩ := Kd.R_slice HO217.out; subst eo50) | ((with_reducible refine gate_callee (f := 25) rfl ?_); refine goesL_ (some 95) rfl rfl Try.func25 (by kernel_rfl) rfl #[.slice Ao50 t214.length co50, .int .i64 ji18] rfl (by (try simp only [List.map_toArray, List.map_cons, List.map_nil]); first | done | (simp only [hji18]; rfl) | rfl | (simp only [List.length_drop, List.length_take]; rfl)) ?_; (with_reducible refine (compaction_Fits.calls _ _ t214 ji18 t218 _ ?side1 ?side2 A46.out).mono ?_); (case side1 => repeat (first | exact (Kd.R_reads' HO217.out).2.2 | (with_reducible refine Kd.C_alloc ?_ _) | (with_reducible refine Kd.C_drewN ?_ _) | (with_reducible refine Kd.C_drew ?_))); (case side2 => exact (Kd.R_reads' HO217.out).2.1); rintro e w51 ⟨rfl, hb⟩; refine ⟨_, rfl, ?_⟩; have n0_ := Aside0.mk (Kd.R_below (by (with_reducible repeat (first | apply Kd.R_alloc | apply Kd.R_drewN | apply Kd.R_drew)); exact HO_13.out) hb); have n1_ := Aside0.mk (Kd.R_below (by (with_reducible repeat (first | apply Kd.R_alloc | apply Kd.R_drewN | apply Kd.R_drew)); exact HO217.out) hb); have n2_ := Aside0.mk (blk_below (g := gb199) (o := .cells #[.int .i64 t195, .int .i64 t196, .int .i64 t197] 44 (0, 0)) (by (with_reducible repeat (first | refine blk_drewN ?_ _ | refine blk_drew ?_ | refine blk_alloc ?_ _)); exact BK199.out) hb); have n3_ := Aside0.mk (blk_below (g := gb209) (o := .cells #[.int .i64 t205, .int .i64 t206, .int .i64 t207] 44 (0, 0)) (by (with_reducible repeat (first | refine blk_drewN ?_ _ | refine blk_drew ?_ | refine blk_alloc ?_ _)); exact BK209.out) hb); have n4_ := Aside0.mk (below_step (by repeat (first | (with_reducible first | exact HB.out | apply below_alloc | apply pw_below_drewN | apply below_drew1 | refine below_set ?_ GE199.out | refine below_set ?_ GE209.out) | exact HB.out)) hb); clear HO_13; clear HO217; clear BK199; clear BK209; clear HB; have HO_13 := n0_; have HO217 := n1_; have BK199 := n2_; have BK209 := n3_; have HB := n4_; clear n0_ n1_ n2_ n3_ n4_; (try clear hb); (try clear hb2); (try clear hk); (try clear hi)))
                                    go_ret
                                    exact ⟨by first | rfl | (simp [errW_none, errW_some] <;> rfl) | (simp only [← hji18, ← hji20]; first | rfl | (simp [errW_none, errW_some] <;> rfl)) | (simp [*, errW_none, errW_some] <;> rfl), by repeat (first | (with_reducible first | exact HB.out | apply below_alloc | apply pw_below_drewN | apply below_drew1 | refine below_set ?_ GE199.out | refine below_set ?_ GE209.out) | exact HB.out)⟩
                                  · rw [if_neg c47] at H
                                    have c47b0 : decide (t218 < 0) = false := decide_eq_false c47
                                    clear c47
                                    by_cases c52 : t218 > x10_2
                                    · rw [if_pos c52] at H
                                      have c52b0 : decide (x10_2 < t218) = true := decide_eq_true c52
                                      clear c52
                                      obtain rfl := Option.some.inj H
                                      obtain ⟨Ao53, co53, eo53⟩ := Kd.R_slice HO_13.out
                                      subst eo53
                                      go_wp2_with (first | ((with_reducible refine gate_callee (f := 20) rfl ?_); refine goesL_ (some 88) rfl rfl Try.func20 (by kernel_rfl) rfl #[.slice A0 l0.length c0, .slice Ao53 t210.length co53] rfl (by (try simp only [List.map_toArray, List.map_cons, List.map_nil]); first | done | rfl | (simp only [List.length_drop, List.length_take]; rfl)) ?_; (with_reducible refine (compaction_Apply.calls _ _ l0 _ _ t210 t214 t215 _ ?side1 ?side2 ?side3 ?side4 A44.out).mono ?_); (case side1 => repeat (first | exact (Kd.C_below HR0.out HB.out) | (with_reducible refine Kd.C_alloc ?_ _) | (with_reducible refine Kd.C_drewN ?_ _) | (with_reducible refine Kd.C_drew ?_))); (case side2 => exact HC0.out); (case side3 => repeat (first | exact (Kd.R_reads' HO_13.out).2.2 | (with_reducible refine Kd.C_alloc ?_ _) | (with_reducible refine Kd.C_drewN ?_ _) | (with_reducible refine Kd.C_drew ?_))); (case side4 => exact (Kd.R_reads' HO_13.out).2.1); rintro e w54 ⟨v216, rfl, ho0, hb⟩; refine ⟨_, rfl, ?_⟩; have n0_ := Aside0.mk (Kd.R_below (by (with_reducible repeat (first | apply Kd.R_alloc | apply Kd.R_drewN | apply Kd.R_drew)); exact HO_13.out) hb); have n1_ := Aside0.mk (Kd.R_lower ho0 (below_size (by repeat (first | (with_reducible first | exact HB.out | apply below_alloc | apply pw_below_drewN | apply below_drew1 | refine below_set ?_ GE199.out | refine below_set ?_ GE209.out) | exact HB.out)))); have n2_ := Aside0.mk (blk_below (g := gb199) (o := .cells #[.int .i64 t195, .int .i64 t196, .int .i64 t197] 44 (0, 0)) (by (with_reducible repeat (first | refine blk_drewN ?_ _ | refine blk_drew ?_ | refine blk_alloc ?_ _)); exact BK199.out) hb); have n3_ := Aside0.mk (blk_below (g := gb209) (o := .cells #[.int .i64 t205, .int .i64 t206, .int .i64 t207] 44 (0, 0)) (by (with_reducible repeat (first | refine blk_drewN ?_ _ | refine blk_drew ?_ | refine blk_alloc ?_ _)); exact BK209.out) hb); have n4_ := Aside0.mk (below_step (by repeat (first | (with_reducible first | exact HB.out | apply below_alloc | apply pw_below_drewN | apply below_drew1 | refine below_set ?_ GE199.out | refine below_set ?_ GE209.out) | exact HB.out)) hb); clear HO_13; clear BK199; clear BK209; clear HB; have HO_13 := n0_; have HO217 := n1_; have BK199 := n2_; have BK209 := n3_; have HB := n4_; clear n0_ n1_ n2_ n3_ n4_; (try clear hb); (try clear hb2); (try clear hk); (try clear hi); (try clear ho0); obtain ⟨Ao55, co55, eo55⟩ := Kd.R_slice HO217.out; subst eo55) | ((with_reducible refine gate_callee (f := 25) rfl ?_); refine goesL_ (some 95) rfl rfl Try.func25 (by kernel_rfl) rfl #[.slice Ao55 t214.length co55, .int .i64 ji18] rfl (by (try simp only [List.map_toArray, List.map_cons, List.map_nil]); first | done | (simp only [hji18]; rfl) | rfl | (simp only [List.length_drop, List.length_take]; rfl)) ?_; (with_reducible refine (compaction_Fits.calls _ _ t214 ji18 t218 _ ?side1 ?side2 A46.out).mono ?_); (case side1 => repeat (first | exact (Kd.R_reads' HO217.out).2.2 | (with_reducible refine Kd.C_alloc ?_ _) | (with_reducible refine Kd.C_drewN ?_ _) | (with_reducible refine Kd.C_drew ?_))); (case side2 => exact (Kd.R_reads' HO217.out).2.1); rintro e w56 ⟨rfl, hb⟩; refine ⟨_, rfl, ?_⟩; have n0_ := Aside0.mk (Kd.R_below (by (with_reducible repeat (first | apply Kd.R_alloc | apply Kd.R_drewN | apply Kd.R_drew)); exact HO_13.out) hb); have n1_ := Aside0.mk (Kd.R_below (by (with_reducible repeat (first | apply Kd.R_alloc | apply Kd.R_drewN | apply Kd.R_drew)); exact HO217.out) hb); have n2_ := Aside0.mk (blk_below (g := gb199) (o := .cells #[.int .i64 t195, .int .i64 t196, .int .i64 t197] 44 (0, 0)) (by (with_reducible repeat (first | refine blk_drewN ?_ _ | refine blk_drew ?_ | refine blk_alloc ?_ _)); exact BK199.out) hb); have n3_ := Aside0.mk (blk_below (g := gb209) (o := .cells #[.int .i64 t205, .int .i64 t206, .int .i64 t207] 44 (0, 0)) (by (with_reducible repeat (first | refine blk_drewN ?_ _ | refine blk_drew ?_ | refine blk_alloc ?_ _)); exact BK209.out) hb); have n4_ := Aside0.mk (below_step (by repeat (first | (with_reducible first | exact HB.out | apply below_alloc | apply pw_below_drewN | apply below_drew1 | refine below_set ?_ GE199.out | refine below_set ?_ GE209.out) | exact HB.out)) hb); clear HO_13; clear HO217; clear BK199; clear BK209; clear HB; have HO_13 := n0_; have HO217 := n1_; have BK199 := n2_; have BK209 := n3_; have HB := n4_; clear n0_ n1_ n2_ n3_ n4_; (try clear hb); (try clear hb2); (try clear hk); (try clear hi)))
                                      go_ret
                                      exact ⟨by first | rfl | (simp [errW_none, errW_some] <;> rfl) | (simp only [← hji18, ← hji20]; first | rfl | (simp [errW_none, errW_some] <;> rfl)) | (simp [*, errW_none, errW_some] <;> rfl), by repeat (first | (with_reducible first | exact HB.out | apply below_alloc | apply pw_below_drewN | apply below_drew1 | refine below_set ?_ GE199.out | refine below_set ?_ GE209.out) | exact HB.out)⟩
                                    · rw [if_neg c52] at H
                                      have c52b0 : decide (x10_2 < t218) = false := decide_eq_false c52
                                      clear c52
                                      have H' := Aside0.mk H
                                      clear H
                                      obtain ⟨Ao57, co57, eo57⟩ := Kd.R_slice HO_13.out
                                      subst eo57
                                      go_wp2_with (first | ((with_reducible refine gate_callee (f := 20) rfl ?_); refine goesL_ (some 88) rfl rfl Try.func20 (by kernel_rfl) rfl #[.slice A0 l0.length c0, .slice Ao57 t210.length co57] rfl (by (try simp only [List.map_toArray, List.map_cons, List.map_nil]); first | done | rfl | (simp only [List.length_drop, List.length_take]; rfl)) ?_; (with_reducible refine (compaction_Apply.calls _ _ l0 _ _ t210 t214 t215 _ ?side1 ?side2 ?side3 ?side4 A44.out).mono ?_); (case side1 => repeat (first | exact (Kd.C_below HR0.out HB.out) | (with_reducible refine Kd.C_alloc ?_ _) | (with_reducible refine Kd.C_drewN ?_ _) | (with_reducible refine Kd.C_drew ?_))); (case side2 => exact HC0.out); (case side3 => repeat (first | exact (Kd.R_reads' HO_13.out).2.2 | (with_reducible refine Kd.C_alloc ?_ _) | (with_reducible refine Kd.C_drewN ?_ _) | (with_reducible refine Kd.C_drew ?_))); (case side4 => exact (Kd.R_reads' HO_13.out).2.1); rintro e w58 ⟨v216, rfl, ho0, hb⟩; refine ⟨_, rfl, ?_⟩; have n0_ := Aside0.mk (Kd.R_below (by (with_reducible repeat (first | apply Kd.R_alloc | apply Kd.R_drewN | apply Kd.R_drew)); exact HO_13.out) hb); have n1_ := Aside0.mk (Kd.R_lower ho0 (below_size (by repeat (first | (with_reducible first | exact HB.out | apply below_alloc | apply pw_below_drewN | apply below_drew1 | refine below_set ?_ GE199.out | refine below_set ?_ GE209.out) | exact HB.out)))); have n2_ := Aside0.mk (blk_below (g := gb199) (o := .cells #[.int .i64 t195, .int .i64 t196, .int .i64 t197] 44 (0, 0)) (by (with_reducible repeat (first | refine blk_drewN ?_ _ | refine blk_drew ?_ | refine blk_alloc ?_ _)); exact BK199.out) hb); have n3_ := Aside0.mk (blk_below (g := gb209) (o := .cells #[.int .i64 t205, .int .i64 t206, .int .i64 t207] 44 (0, 0)) (by (with_reducible repeat (first | refine blk_drewN ?_ _ | refine blk_drew ?_ | refine blk_alloc ?_ _)); exact BK209.out) hb); have n4_ := Aside0.mk (below_step (by repeat (first | (with_reducible first | exact HB.out | apply below_alloc | apply pw_below_drewN | apply below_drew1 | refine below_set ?_ GE199.out | refine below_set ?_ GE209.out) | exact HB.out)) hb); clear HO_13; clear BK199; clear BK209; clear HB; have HO_13 := n0_; have HO217 := n1_; have BK199 := n2_; have BK209 := n3_; have HB := n4_; clear n0_ n1_ n2_ n3_ n4_; (try clear hb); (try clear hb2); (try clear hk); (try clear hi); (try clear ho0); obtain ⟨Ao59, co59, eo59⟩ := Kd.R_slice HO217.out; subst eo59) | ((with_reducible refine gate_callee (f := 25) rfl ?_); refine goesL_ (some 95) rfl rfl Try.func25 (by kernel_rfl) rfl #[.slice Ao59 t214.length co59, .int .i64 ji18] rfl (by (try simp only [List.map_toArray, List.map_cons, List.map_nil]); first | done | (simp only [hji18]; rfl) | rfl | (simp only [List.length_drop, List.length_take]; rfl)) ?_; (with_reducible refine (compaction_Fits.calls _ _ t214 ji18 t218 _ ?side1 ?side2 A46.out).mono ?_); (case side1 => repeat (first | exact (Kd.R_reads' HO217.out).2.2 | (with_reducible refine Kd.C_alloc ?_ _) | (with_reducible refine Kd.C_drewN ?_ _) | (with_reducible refine Kd.C_drew ?_))); (case side2 => exact (Kd.R_reads' HO217.out).2.1); rintro e w60 ⟨rfl, hb⟩; refine ⟨_, rfl, ?_⟩; have n0_ := Aside0.mk (Kd.R_below (by (with_reducible repeat (first | apply Kd.R_alloc | apply Kd.R_drewN | apply Kd.R_drew)); exact HO_13.out) hb); have n1_ := Aside0.mk (Kd.R_below (by (with_reducible repeat (first | apply Kd.R_alloc | apply Kd.R_drewN | apply Kd.R_drew)); exact HO217.out) hb); have n2_ := Aside0.mk (blk_below (g := gb199) (o := .cells #[.int .i64 t195, .int .i64 t196, .int .i64 t197] 44 (0, 0)) (by (with_reducible repeat (first | refine blk_drewN ?_ _ | refine blk_drew ?_ | refine blk_alloc ?_ _)); exact BK199.out) hb); have n3_ := Aside0.mk (blk_below (g := gb209) (o := .cells #[.int .i64 t205, .int .i64 t206, .int .i64 t207] 44 (0, 0)) (by (with_reducible repeat (first | refine blk_drewN ?_ _ | refine blk_drew ?_ | refine blk_alloc ?_ _)); exact BK209.out) hb); have n4_ := Aside0.mk (below_step (by repeat (first | (with_reducible first | exact HB.out | apply below_alloc | apply pw_below_drewN | apply below_drew1 | refine below_set ?_ GE199.out | refine below_set ?_ GE209.out) | exact HB.out)) hb); clear HO_13; clear HO217; clear BK199; clear BK209; clear HB; have HO_13 := n0_; have HO217 := n1_; have BK199 := n2_; have BK209 := n3_; have HB := n4_; clear n0_ n1_ n2_ n3_ n4_; (try clear hb); (try clear hb2); (try clear hk); (try clear hi)))
                                      go_roundg kj40
                                      case measure => have := HJ3.out; have := HK2.out; have := HJ26.out; have := HJ40.out; omega
                                      case rel => exact ⟨(x10_2), (wrap64 (x10_2 + ji20)), (by first | rfl | (simp; done) | (simp [*]; done)), (by first | rfl | (simp; done) | (simp only [← hji20] <;> (first | rfl | simp)) | (simp [*]; done)), H', ⟨by have := HJ3.out; have := HK2.out; have := HJ26.out; have := HJ40.out; omega⟩, ⟨by (with_reducible repeat (first | refine blk_drewN ?_ _ | refine blk_drew ?_ | refine blk_alloc ?_ _)); exact BK199.out⟩, ⟨by repeat (first | (with_reducible first | exact HB.out | apply below_alloc | apply pw_below_drewN | apply below_drew1 | refine below_set ?_ GE199.out | refine below_set ?_ GE209.out) | exact HB.out)⟩⟩
                                · rw [if_neg c45] at H
                                  have c45b0 : (t215 == 0) = false := beq_eq_false_iff_ne.mpr c45
                                  have c45b1 : (t215 != 0) = true := bne_iff_ne.mpr c45
                                  obtain rfl := Option.some.inj H
                                  obtain ⟨Ao61, co61, eo61⟩ := Kd.R_slice HO_13.out
                                  subst eo61
                                  go_wp2_with (first | ((with_reducible refine gate_callee (f := 20) rfl ?_); refine goesL_ (some 88) rfl rfl Try.func20 (by kernel_rfl) rfl #[.slice A0 l0.length c0, .slice Ao61 t210.length co61] rfl (by (try simp only [List.map_toArray, List.map_cons, List.map_nil]); first | done | rfl | (simp only [List.length_drop, List.length_take]; rfl)) ?_; (with_reducible refine (compaction_Apply.calls _ _ l0 _ _ t210 t214 t215 _ ?side1 ?side2 ?side3 ?side4 A44.out).mono ?_); (case side1 => repeat (first | exact (Kd.C_below HR0.out HB.out) | (with_reducible refine Kd.C_alloc ?_ _) | (with_reducible refine Kd.C_drewN ?_ _) | (with_reducible refine Kd.C_drew ?_))); (case side2 => exact HC0.out); (case side3 => repeat (first | exact (Kd.R_reads' HO_13.out).2.2 | (with_reducible refine Kd.C_alloc ?_ _) | (with_reducible refine Kd.C_drewN ?_ _) | (with_reducible refine Kd.C_drew ?_))); (case side4 => exact (Kd.R_reads' HO_13.out).2.1); rintro e w62 ⟨v216, rfl, ho0, hb⟩; refine ⟨_, rfl, ?_⟩; have n0_ := Aside0.mk (Kd.R_below (by (with_reducible repeat (first | apply Kd.R_alloc | apply Kd.R_drewN | apply Kd.R_drew)); exact HO_13.out) hb); have n1_ := Aside0.mk (Kd.R_lower ho0 (below_size (by repeat (first | (with_reducible first | exact HB.out | apply below_alloc | apply pw_below_drewN | apply below_drew1 | refine below_set ?_ GE199.out | refine below_set ?_ GE209.out) | exact HB.out)))); have n2_ := Aside0.mk (blk_below (g := gb199) (o := .cells #[.int .i64 t195, .int .i64 t196, .int .i64 t197] 44 (0, 0)) (by (with_reducible repeat (first | refine blk_drewN ?_ _ | refine blk_drew ?_ | refine blk_alloc ?_ _)); exact BK199.out) hb); have n3_ := Aside0.mk (blk_below (g := gb209) (o := .cells #[.int .i64 t205, .int .i64 t206, .int .i64 t207] 44 (0, 0)) (by (with_reducible repeat (first | refine blk_drewN ?_ _ | refine blk_drew ?_ | refine blk_alloc ?_ _)); exact BK209.out) hb); have n4_ := Aside0.mk (below_step (by repeat (first | (with_reducible first | exact HB.out | apply below_alloc | apply pw_below_drewN | apply below_drew1 | refine below_set ?_ GE199.out | refine below_set ?_ GE209.out) | exact HB.out)) hb); clear HO_13; clear BK199; clear BK209; clear HB; have HO_13 := n0_; have HO217 := n1_; have BK199 := n2_; have BK209 := n3_; have HB := n4_; clear n0_ n1_ n2_ n3_ n4_; (try clear hb); (try clear hb2); (try clear hk); (try clear hi); (try clear ho0)))
                                  go_ret
                                  exact ⟨by first | rfl | (simp [errW_none, errW_some] <;> rfl) | (simp only [← hji18, ← hji20]; first | rfl | (simp [errW_none, errW_some] <;> rfl)) | (simp [*, errW_none, errW_some] <;> rfl), by repeat (first | (with_reducible first | exact HB.out | apply below_alloc | apply pw_below_drewN | apply below_drew1 | refine below_set ?_ GE199.out | refine below_set ?_ GE209.out) | exact HB.out)⟩
                  · rw [if_neg c23] at H
                    exact absurd H (by simp)
                · rw [if_neg c22] at H
                  exact absurd H (by simp)
              · rw [if_neg c21] at H
                have c21b0 : decide ((wrap64 (x10_2 + ji20)) ≤ (l0.length : Int)) = false := decide_eq_false c21
                clear c21
                replace H := Option.bind_eq_some_iff.mp H
                obtain ⟨t203, A630, H⟩ := H
                replace H : (some (t203 == x9_2)) = some r := H
                have A63 := Aside0.mk A630
                clear A630
                obtain rfl := Option.some.inj H
                go_wp2_with (first | ((with_reducible refine gate_callee (f := 27) rfl ?_); refine goesL_ (some 105) rfl rfl Try.func27 (by kernel_rfl) rfl #[.slice A0 l0.length c0, .int .i64 ji18] rfl (by (try simp only [List.map_toArray, List.map_cons, List.map_nil]); first | done | (simp only [hji18]; rfl) | rfl | (simp only [List.length_drop, List.length_take]; rfl)) ?_; (with_reducible refine (compaction_Possible.calls _ _ l0 ji18 t203 _ ?side1 ?side2 A63.out).mono ?_); (case side1 => repeat (first | exact (Kd.C_below HR0.out HB.out) | (with_reducible refine Kd.C_alloc ?_ _) | (with_reducible refine Kd.C_drewN ?_ _) | (with_reducible refine Kd.C_drew ?_))); (case side2 => exact HC0.out); rintro e w64 ⟨rfl, hb⟩; refine ⟨_, rfl, ?_⟩; have n0_ := Aside0.mk (blk_below (g := gb199) (o := .cells #[.int .i64 t195, .int .i64 t196, .int .i64 t197] 44 (0, 0)) (by (with_reducible repeat (first | refine blk_drewN ?_ _ | refine blk_drew ?_ | refine blk_alloc ?_ _)); exact BK199.out) hb); have n1_ := Aside0.mk (below_step (by repeat (first | (with_reducible first | exact HB.out | apply below_alloc | apply pw_below_drewN | apply below_drew1 | refine below_set ?_ GE199.out) | exact HB.out)) hb); clear BK199; clear HB; have BK199 := n0_; have HB := n1_; clear n0_ n1_; (try clear hb); (try clear hb2); (try clear hk); (try clear hi)))
                go_ret
                exact ⟨by first | rfl | (simp [errW_none, errW_some] <;> rfl) | (simp only [← hji18, ← hji20]; first | rfl | (simp [errW_none, errW_some] <;> rfl)) | (simp [*, errW_none, errW_some] <;> rfl), by repeat (first | (with_reducible first | exact HB.out | apply below_alloc | apply pw_below_drewN | apply below_drew1 | refine below_set ?_ GE199.out) | exact HB.out)⟩
        · rw [if_neg c19] at H
          exact absurd H (by simp)

end Go.Proofs.Ytollapjmibkpfaa.X
