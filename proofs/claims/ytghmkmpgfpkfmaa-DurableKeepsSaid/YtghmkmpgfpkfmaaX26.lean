-- Written for this claim by a program of this session (wip/px.py) with the kit's print; the contracts of GIVEN functions are proved by hand.
import Derived.Test.YtghmkmpgfpkfmaaX0
import Derived.Test.YtghmkmpgfpkfmaaX24
import Derived.Test.YtghmkmpgfpkfmaaX25
namespace Go.Proofs.Ytghmkmpgfpkfmaa.X
open Go.RowKit Go.Proofs.YtghmkmpgfpkfmaaW.PrintWords Go.Proofs.YtghmkmpgfpkfmaaW.PrintLast Go.Proofs.YtghmkmpgfpkfmaaW.PrintMore
attribute [local go_sem] max2_int min2_int max_two min_two max_three min_three max_four min_four   -- for this text's walks alone
set_option linter.unusedVariables false
set_option linter.unusedSimpArgs false

/-! ### estoversref11_event: function 33 -/
mutual
def estoversref11_event.j0 : Nat → List (S38) → Int → Bool → Int → Int → Int → List Int → Option (Int)
  | 0, _, _, _, _, _, _, _ => none
  | k + 1, x1, x2, x25, x199000, x199001, x199002, x199003 => if x25 = true then (some 2) else (if (x199003.length : Int) = 32 then ((estoversref11_submitted.f k x1 x2 x199001).bind fun t199 => (if t199 ≥ 0 then (some 7) else (some 0))) else (some 3))
def estoversref11_event.j1 : Nat → List (S38) → Int → Bool → Int → Int → Int → List Int → Option (Int)
  | 0, _, _, _, _, _, _, _ => none
  | k + 1, x1, x2, x46, x199000, x199001, x199002, x199003 => if x46 = true then (some 1) else ((estoversref11_submitted.f k x1 x2 x199001).bind fun t200 => (if t200 < 0 then (some 6) else ((estoversref11_completed.f k x1 x2 x199001).bind fun t201 => (if t201 ≥ 0 then (some 6) else (some 0)))))
end
def estoversref11_event.f (k : Nat) (l0 : List (List Int)) (l1 : List (S38)) (a2 : Int) : Option (Int) := if 0 ≤ a2 then (if a2 < (l1.length : Int) then (if ((rd_T38 l1 a2).f0) = 1 then (if ((rd_T38 l1 a2).f2) < 0 then (estoversref11_event.j0 k l1 a2 true ((rd_T38 l1 a2).f0) ((rd_T38 l1 a2).f1) ((rd_T38 l1 a2).f2) ((rd_T38 l1 a2).f3)) else (estoversref11_event.j0 k l1 a2 (decide (((rd_T38 l1 a2).f2) ≥ (l0.length : Int))) ((rd_T38 l1 a2).f0) ((rd_T38 l1 a2).f1) ((rd_T38 l1 a2).f2) ((rd_T38 l1 a2).f3))) else (if ((rd_T38 l1 a2).f0) = 2 then (if ((rd_T38 l1 a2).f2) = 0 then (estoversref11_event.j1 k l1 a2 (decide ((((rd_T38 l1 a2).f3).length : Int) > 0)) ((rd_T38 l1 a2).f0) ((rd_T38 l1 a2).f1) ((rd_T38 l1 a2).f2) ((rd_T38 l1 a2).f3)) else (estoversref11_event.j1 k l1 a2 true ((rd_T38 l1 a2).f0) ((rd_T38 l1 a2).f1) ((rd_T38 l1 a2).f2) ((rd_T38 l1 a2).f3))) else (if ((rd_T38 l1 a2).f0) = 3 then (if ((rd_T38 l1 a2).f1) = 0 then (if ((rd_T38 l1 a2).f2) = 0 then (if (((rd_T38 l1 a2).f3).length : Int) > 0 then (some 1) else (some 0)) else (some 1)) else (some 1)) else (some 1)))) else (none)) else (none)
theorem estoversref11_event.mono_l : ∀ k, (∀ y0 y1 y2 y3 y4 y5 y6, LeO (estoversref11_event.j0 k y0 y1 y2 y3 y4 y5 y6) (estoversref11_event.j0 (k + 1) y0 y1 y2 y3 y4 y5 y6)) ∧ (∀ y0 y1 y2 y3 y4 y5 y6, LeO (estoversref11_event.j1 k y0 y1 y2 y3 y4 y5 y6) (estoversref11_event.j1 (k + 1) y0 y1 y2 y3 y4 y5 y6))
  | 0 => ⟨fun _ _ _ _ _ _ _ r h => by simp [estoversref11_event.j0] at h, fun _ _ _ _ _ _ _ r h => by simp [estoversref11_event.j1] at h⟩
  | k + 1 => by
    obtain ⟨ih0, ih1⟩ := estoversref11_event.mono_l k
    refine ⟨?_, ?_⟩
    · intro y0 y1 y2 y3 y4 y5 y6
      unfold estoversref11_event.j0
      repeat' first
      | (with_reducible exact ih0 _ _ _ _ _ _ _)
      | (with_reducible exact ih1 _ _ _ _ _ _ _)
      | (with_reducible exact estoversref11_completed.mono _ _ _ _)
      | (with_reducible exact estoversref11_submitted.mono _ _ _ _)
      | (with_reducible exact LeO.refl _)
      | (with_reducible exact LeO.none _)
      | (with_reducible refine LeO.ite ?_ ?_)
      | (with_reducible refine LeO.bind ?_ (fun _ => ?_))
      | exact ih0 _ _ _ _ _ _ _
      | exact ih1 _ _ _ _ _ _ _
      | exact estoversref11_completed.mono _ _ _ _
      | exact estoversref11_submitted.mono _ _ _ _
      | exact LeO.none _
      | refine LeO.ite ?_ ?_
      | refine LeO.bind ?_ (fun _ => ?_)
    · intro y0 y1 y2 y3 y4 y5 y6
      unfold estoversref11_event.j1
      repeat' first
      | (with_reducible exact ih0 _ _ _ _ _ _ _)
      | (with_reducible exact ih1 _ _ _ _ _ _ _)
      | (with_reducible exact estoversref11_completed.mono _ _ _ _)
      | (with_reducible exact estoversref11_submitted.mono _ _ _ _)
      | (with_reducible exact LeO.refl _)
      | (with_reducible exact LeO.none _)
      | (with_reducible refine LeO.ite ?_ ?_)
      | (with_reducible refine LeO.bind ?_ (fun _ => ?_))
      | exact ih0 _ _ _ _ _ _ _
      | exact ih1 _ _ _ _ _ _ _
      | exact estoversref11_completed.mono _ _ _ _
      | exact estoversref11_submitted.mono _ _ _ _
      | exact LeO.none _
      | refine LeO.ite ?_ ?_
      | refine LeO.bind ?_ (fun _ => ?_)
theorem estoversref11_event.mono : ∀ a0 a1 a2 k, LeO (estoversref11_event.f k a0 a1 a2) (estoversref11_event.f (k + 1) a0 a1 a2) := by
  intro a0 a1 a2 k
  obtain ⟨ih0, ih1⟩ := estoversref11_event.mono_l k
  unfold estoversref11_event.f
  repeat' first
      | (with_reducible exact ih0 _ _ _ _ _ _ _)
      | (with_reducible exact ih1 _ _ _ _ _ _ _)
      | (with_reducible exact estoversref11_completed.mono _ _ _ _)
      | (with_reducible exact estoversref11_submitted.mono _ _ _ _)
      | (with_reducible exact LeO.refl _)
      | (with_reducible exact LeO.none _)
      | (with_reducible refine LeO.ite ?_ ?_)
      | (with_reducible refine LeO.bind ?_ (fun _ => ?_))
      | exact ih0 _ _ _ _ _ _ _
      | exact ih1 _ _ _ _ _ _ _
      | exact estoversref11_completed.mono _ _ _ _
      | exact estoversref11_submitted.mono _ _ _ _
      | exact LeO.none _
      | refine LeO.ite ?_ ?_
      | refine LeO.bind ?_ (fun _ => ?_)
set_option maxHeartbeats 8000000 in
set_option maxRecDepth 100000 in
theorem estoversref11_event.calls (k : Nat) (A0 : Option Addr) (c0 : Nat) (l0 : List (List Int)) (A1 : Option Addr) (c1 : Nat) (l1 : List (S38)) (a2 : Int) (r : Int) (w : World) (hr0 : Kd.C (Kd.slice 5 (Kd.int .u8)) w A0 l0.length l0) (hc0 : l0.length ≤ c0) (hr1 : Kd.C k38 w A1 l1.length l1) (hc1 : l1.length ≤ c1) (h : estoversref11_event.f k l0 l1 a2 = some r) :
    Calls Try.prog 33 #[.slice A0 l0.length c0, .slice A1 l1.length c1, .int .i64 a2] w fun e w' => e = .returned (.int .i64 r) ∧ Below w.heap.size w w' := by
  have hu38 := Try.underlying38
  have HR0 := Aside0.mk hr0
  have HC0 := Aside0.mk hc0
  clear hr0 hc0
  have HR1 := Aside0.mk hr1
  have HC1 := Aside0.mk hc1
  clear hr1 hc1
  have HB := Aside0.mk (Below.refl w.heap.size w)
  have H : (if 0 ≤ a2 then (if a2 < (l1.length : Int) then (if ((rd_T38 l1 a2).f0) = 1 then (if ((rd_T38 l1 a2).f2) < 0 then (estoversref11_event.j0 k l1 a2 true ((rd_T38 l1 a2).f0) ((rd_T38 l1 a2).f1) ((rd_T38 l1 a2).f2) ((rd_T38 l1 a2).f3)) else (estoversref11_event.j0 k l1 a2 (decide (((rd_T38 l1 a2).f2) ≥ (l0.length : Int))) ((rd_T38 l1 a2).f0) ((rd_T38 l1 a2).f1) ((rd_T38 l1 a2).f2) ((rd_T38 l1 a2).f3))) else (if ((rd_T38 l1 a2).f0) = 2 then (if ((rd_T38 l1 a2).f2) = 0 then (estoversref11_event.j1 k l1 a2 (decide ((((rd_T38 l1 a2).f3).length : Int) > 0)) ((rd_T38 l1 a2).f0) ((rd_T38 l1 a2).f1) ((rd_T38 l1 a2).f2) ((rd_T38 l1 a2).f3)) else (estoversref11_event.j1 k l1 a2 true ((rd_T38 l1 a2).f0) ((rd_T38 l1 a2).f1) ((rd_T38 l1 a2).f2) ((rd_T38 l1 a2).f3))) else (if ((rd_T38 l1 a2).f0) = 3 then (if ((rd_T38 l1 a2).f1) = 0 then (if ((rd_T38 l1 a2).f2) = 0 then (if (((rd_T38 l1 a2).f3).length : Int) > 0 then (some 1) else (some 0)) else (some 1)) else (some 1)) else (some 1)))) else (none)) else (none)) = some r := h
  clear h
  by_cases c4 : 0 ≤ a2
  · rw [if_pos c4] at H
    have c4b0 : decide (0 ≤ a2) = true := decide_eq_true c4
    clear c4
    by_cases c5 : a2 < (l1.length : Int)
    · rw [if_pos c5] at H
      have c5b0 : decide (a2 < (l1.length : Int)) = true := decide_eq_true c5
      clear c5
      by_cases c6 : ((rd_T38 l1 a2).f0) = 1
      · rw [if_pos c6] at H
        have c6b0 : (((rd_T38 l1 a2).f0) == 1) = true := beq_iff_eq.mpr c6
        have c6b1 : (((rd_T38 l1 a2).f0) != 1) = false := bne_eq_false_iff_eq.mpr c6
        clear c6
        have HC7 := Aside0.mk H
        clear H
        have p197 : 0 ≤ (a2 : Int) := of_decide_eq_true (by first | (with_reducible assumption) | assumption)
        have q197 : a2 < (l1.length : Int) := of_decide_eq_true (by first | (with_reducible assumption) | assumption)
        obtain ⟨ad197, A197_3, c197_3, e197, hx197_0, hx197_1, hx197_2, hx197_3, hl197_3, hi197_3⟩ := at_T38 HR1.out a2 p197 q197
        cases e197
        have HR197_3 := Aside0.mk hi197_3
        have HC197_3 := Aside0.mk hl197_3
        clear hi197_3 hl197_3
        replace p197 := eq_true p197
        replace q197 := eq_true q197
        go_enter Try.func33, Try.ntmps33
        go_upto_region 5 with (first | ((with_reducible refine gate_dst (N := 7) rfl ?_); (try (refine gate_guard (by rfl) ?_; dsimp only)); refine box_event ?hg (N := 7) ?hd (cs := #[.int .i64 0, .int .i64 0, .int .i64 0, .slice none 0 0]) (t := 38) ?hr ?_; (case hd => rfl); (case hg => rfl); (case hr => first | (go_simp; done) | (go_simp; rfl)); intro gb198 hg w8 hbox hb; have n0_ := Aside0.mk (below_step (by repeat (first | (with_reducible first | exact HB.out | apply below_alloc | apply pw_below_drewN | apply below_drew1) | exact HB.out)) hb); have n1_ := Aside0.mk (hbox); have n2_ := Aside0.mk ((by rw [hg]; exact (below_size (by repeat (first | (with_reducible first | exact HB.out | apply below_alloc | apply pw_below_drewN | apply below_drew1) | exact HB.out))) : w.heap.size ≤ gb198)); have n3_ := Aside0.mk ((by rw [hg]; exact (below_size (by repeat (first | (with_reducible first | exact HB.out | apply below_alloc | apply pw_below_drewN | apply below_drew1) | exact HB.out))) : w.heap.size ≤ gb198)); clear HB; have HB := n0_; have BK198 := n1_; have GW198 := n2_; have GE198 := n3_; clear n0_ n1_ n2_ n3_; clear hb hbox hg; have hcz9_0 : w8.cell? ⟨gb198, 0, none⟩ = some (.int .i64 0) := (blk_cell BK198.out 0).trans rfl; have hcz9_1 : w8.cell? ⟨gb198, 1, none⟩ = some (.int .i64 0) := (blk_cell BK198.out 1).trans rfl; have hcz9_2 : w8.cell? ⟨gb198, 2, none⟩ = some (.int .i64 0) := (blk_cell BK198.out 2).trans rfl; have hcz9_3 : w8.cell? ⟨gb198, 3, none⟩ = some (.slice none 0 0) := (blk_cell BK198.out 3).trans rfl; have hfz9_0 := blk_frozen BK198.out 0; have hfz9_1 := blk_frozen BK198.out 1; have hfz9_2 := blk_frozen BK198.out 2; have hfz9_3 := blk_frozen BK198.out 3))
        (try simp only [Act.put, List.setIfInBounds_toArray, List.set_cons_zero, List.set_cons_succ])
        go_cut [25] (fun v25 wc => ∃ (kq : Nat) (x25_6 : Bool), v25 = .bool x25_6 ∧ Aside0 (estoversref11_event.j0 kq l1 a2 x25_6 ((rd_T38 l1 a2).f0) ((rd_T38 l1 a2).f1) ((rd_T38 l1 a2).f2) ((rd_T38 l1 a2).f3) = some r) ∧ Aside0 (kq ≤ k) ∧ Aside0 (wc.heap[gb198]? = some (.cells #[.int .i64 ((rd_T38 l1 a2).f0), .int .i64 ((rd_T38 l1 a2).f1), .int .i64 ((rd_T38 l1 a2).f2), (.slice A197_3 ((rd_T38 l1 a2).f3).length c197_3)] 38 (0, 0))) ∧ Aside0 (Below w.heap.size w wc))
        case first =>
          have H := HC7.out
          clear HC7
          by_cases c10 : ((rd_T38 l1 a2).f2) < 0
          · rw [if_pos c10] at H
            have c10b0 : decide (((rd_T38 l1 a2).f2) < 0) = true := decide_eq_true c10
            clear c10
            (first | rw [c10b0] | (simp only [i64_w, i32_w]; rw [c10b0]) | skip)
            have H' := Aside0.mk H
            clear H
            have hcz11_0 : w8.cell? ⟨gb198, 0, none⟩ = some (.int .i64 0) := (blk_cell BK198.out 0).trans rfl
            have hcz11_1 : w8.cell? ⟨gb198, 1, none⟩ = some (.int .i64 0) := (blk_cell BK198.out 1).trans rfl
            have hcz11_2 : w8.cell? ⟨gb198, 2, none⟩ = some (.int .i64 0) := (blk_cell BK198.out 2).trans rfl
            have hcz11_3 : w8.cell? ⟨gb198, 3, none⟩ = some (.slice none 0 0) := (blk_cell BK198.out 3).trans rfl
            have hfz11_0 := blk_frozen BK198.out 0
            have hfz11_1 := blk_frozen BK198.out 1
            have hfz11_2 := blk_frozen BK198.out 2
            have hfz11_3 := blk_frozen BK198.out 3
            go_wp2
            go_meet
            case rel => exact ⟨_, (true), (by first | rfl | (simp; done) | (simp [*]; done)), H', ⟨by first | omega | exact Nat.le_refl _⟩, ⟨by (with_reducible repeat (first | refine blk_drewN ?_ _ | refine blk_drew ?_ | refine blk_alloc ?_ _)); refine blk_put (cs := #[.int .i64 ((rd_T38 l1 a2).f0), .int .i64 ((rd_T38 l1 a2).f1), .int .i64 ((rd_T38 l1 a2).f2), .slice none 0 0]) ?_ 3 _ rfl; (with_reducible repeat (first | refine blk_drewN ?_ _ | refine blk_drew ?_ | refine blk_alloc ?_ _)); refine blk_put (cs := #[.int .i64 ((rd_T38 l1 a2).f0), .int .i64 ((rd_T38 l1 a2).f1), .int .i64 0, .slice none 0 0]) ?_ 2 _ rfl; (with_reducible repeat (first | refine blk_drewN ?_ _ | refine blk_drew ?_ | refine blk_alloc ?_ _)); refine blk_put (cs := #[.int .i64 ((rd_T38 l1 a2).f0), .int .i64 0, .int .i64 0, .slice none 0 0]) ?_ 1 _ rfl; (with_reducible repeat (first | refine blk_drewN ?_ _ | refine blk_drew ?_ | refine blk_alloc ?_ _)); refine blk_put (cs := #[.int .i64 0, .int .i64 0, .int .i64 0, .slice none 0 0]) ?_ 0 _ rfl; (with_reducible repeat (first | refine blk_drewN ?_ _ | refine blk_drew ?_ | refine blk_alloc ?_ _)); exact BK198.out⟩, ⟨by repeat (first | (with_reducible first | exact HB.out | apply below_alloc | apply pw_below_drewN | apply below_drew1 | refine below_set ?_ GE198.out) | exact HB.out)⟩⟩
          · rw [if_neg c10] at H
            have c10b0 : decide (((rd_T38 l1 a2).f2) < 0) = false := decide_eq_false c10
            clear c10
            (first | rw [c10b0] | (simp only [i64_w, i32_w]; rw [c10b0]) | skip)
            have H' := Aside0.mk H
            clear H
            have hcz12_0 : w8.cell? ⟨gb198, 0, none⟩ = some (.int .i64 0) := (blk_cell BK198.out 0).trans rfl
            have hcz12_1 : w8.cell? ⟨gb198, 1, none⟩ = some (.int .i64 0) := (blk_cell BK198.out 1).trans rfl
            have hcz12_2 : w8.cell? ⟨gb198, 2, none⟩ = some (.int .i64 0) := (blk_cell BK198.out 2).trans rfl
            have hcz12_3 : w8.cell? ⟨gb198, 3, none⟩ = some (.slice none 0 0) := (blk_cell BK198.out 3).trans rfl
            have hfz12_0 := blk_frozen BK198.out 0
            have hfz12_1 := blk_frozen BK198.out 1
            have hfz12_2 := blk_frozen BK198.out 2
            have hfz12_3 := blk_frozen BK198.out 3
            go_wp2
            go_meet
            case rel => exact ⟨_, (decide (((rd_T38 l1 a2).f2) ≥ (l0.length : Int))), (by first | rfl | (simp; done) | (simp [*]; done)), H', ⟨by first | omega | exact Nat.le_refl _⟩, ⟨by (with_reducible repeat (first | refine blk_drewN ?_ _ | refine blk_drew ?_ | refine blk_alloc ?_ _)); refine blk_put (cs := #[.int .i64 ((rd_T38 l1 a2).f0), .int .i64 ((rd_T38 l1 a2).f1), .int .i64 ((rd_T38 l1 a2).f2), .slice none 0 0]) ?_ 3 _ rfl; (with_reducible repeat (first | refine blk_drewN ?_ _ | refine blk_drew ?_ | refine blk_alloc ?_ _)); refine blk_put (cs := #[.int .i64 ((rd_T38 l1 a2).f0), .int .i64 ((rd_T38 l1 a2).f1), .int .i64 0, .slice none 0 0]) ?_ 2 _ rfl; (with_reducible repeat (first | refine blk_drewN ?_ _ | refine blk_drew ?_ | refine blk_alloc ?_ _)); refine blk_put (cs := #[.int .i64 ((rd_T38 l1 a2).f0), .int .i64 0, .int .i64 0, .slice none 0 0]) ?_ 1 _ rfl; (with_reducible repeat (first | refine blk_drewN ?_ _ | refine blk_drew ?_ | refine blk_alloc ?_ _)); refine blk_put (cs := #[.int .i64 0, .int .i64 0, .int .i64 0, .slice none 0 0]) ?_ 0 _ rfl; (with_reducible repeat (first | refine blk_drewN ?_ _ | refine blk_drew ?_ | refine blk_alloc ?_ _)); exact BK198.out⟩, ⟨by repeat (first | (with_reducible first | exact HB.out | apply below_alloc | apply pw_below_drewN | apply below_drew1 | refine below_set ?_ GE198.out) | exact HB.out)⟩⟩
        case rest =>
          clear HC7
          try clear c1
          try clear p1
          try clear q1
          try clear hx1
          try clear p2
          try clear c3
          try clear c4
          try clear c4b0
          try clear c5
          try clear c5b0
          try clear c6
          try clear c6b0
          try clear c6b1
          try clear c10
          try clear c10b0
          try clear hcz11_0
          try clear hcz11_1
          try clear hcz11_2
          try clear hcz11_3
          try clear hcz12_0
          try clear hcz12_1
          try clear hcz12_2
          try clear hcz12_3
          try clear hcz9_0
          try clear hcz9_1
          try clear hcz9_2
          try clear hcz9_3
          try clear hfz11_0
          try clear hfz11_1
          try clear hfz11_2
          try clear hfz11_3
          try clear hfz12_0
          try clear hfz12_1
          try clear hfz12_2
          try clear hfz12_3
          try clear hfz9_0
          try clear hfz9_1
          try clear hfz9_2
          try clear hfz9_3
          try clear hx197_0
          try clear hx197_1
          try clear hx197_2
          try clear hx197_3
          try clear p197
          try clear q197
          obtain ⟨kq, x25_6, rfl, HA, HJ6, BK198, HB⟩ := hcut
          cases kq with
          | zero => exact absurd HA.out (by simp [estoversref11_event.j0])
          | succ kj6 =>
            have H := HA.out
            clear HA
            simp only [estoversref11_event.j0] at H
            by_cases c13 : x25_6 = true
            · subst c13
              have H1 : (some 2) = some r := by rw [if_pos rfl] at H; exact H
              clear H
              have H := H1
              clear H1
              obtain rfl := Option.some.inj H
              go_wp2
              go_ret
              exact ⟨by first | rfl | (simp [errW_none, errW_some] <;> rfl) | (simp [*, errW_none, errW_some] <;> rfl), by repeat (first | (with_reducible first | exact HB.out | apply below_alloc | apply pw_below_drewN | apply below_drew1 | refine below_set ?_ GE198.out) | exact HB.out)⟩
            · replace c13 := Bool.eq_false_iff.mpr c13
              subst c13
              have H1 : (if (((rd_T38 l1 a2).f3).length : Int) = 32 then ((estoversref11_submitted.f kj6 l1 a2 ((rd_T38 l1 a2).f1)).bind fun t199 => (if t199 ≥ 0 then (some 7) else (some 0))) else (some 3)) = some r := by rw [if_neg (show ¬ (false = true) by decide)] at H; exact H
              clear H
              have H := H1
              clear H1
              by_cases c14 : (((rd_T38 l1 a2).f3).length : Int) = 32
              · rw [if_pos c14] at H
                have c14b0 : ((((rd_T38 l1 a2).f3).length : Int) == 32) = true := beq_iff_eq.mpr c14
                have c14b1 : ((((rd_T38 l1 a2).f3).length : Int) != 32) = false := bne_eq_false_iff_eq.mpr c14
                clear c14
                replace H := Option.bind_eq_some_iff.mp H
                obtain ⟨t199, A150, H⟩ := H
                replace H : (if t199 ≥ 0 then (some 7) else (some 0)) = some r := H
                have A15 := Aside0.mk A150
                clear A150
                by_cases c16 : t199 ≥ 0
                · rw [if_pos c16] at H
                  have c16b0 : decide (0 ≤ t199) = true := decide_eq_true c16
                  clear c16
                  obtain rfl := Option.some.inj H
                  have hcz17_0 : wc.cell? ⟨gb198, 0, none⟩ = some (.int .i64 ((rd_T38 l1 a2).f0)) := (blk_cell BK198.out 0).trans rfl
                  have hcz17_1 : wc.cell? ⟨gb198, 1, none⟩ = some (.int .i64 ((rd_T38 l1 a2).f1)) := (blk_cell BK198.out 1).trans rfl
                  have hcz17_2 : wc.cell? ⟨gb198, 2, none⟩ = some (.int .i64 ((rd_T38 l1 a2).f2)) := (blk_cell BK198.out 2).trans rfl
                  have hcz17_3 : wc.cell? ⟨gb198, 3, none⟩ = some (.slice A197_3 ((rd_T38 l1 a2).f3).length c197_3) := (blk_cell BK198.out 3).trans rfl
                  have hfz17_0 := blk_frozen BK198.out 0
                  have hfz17_1 := blk_frozen BK198.out 1
                  have hfz17_2 := blk_frozen BK198.out 2
                  have hfz17_3 := blk_frozen BK198.out 3
                  go_wp2_with (first | ((with_reducible refine gate_callee (f := 39) rfl ?_); refine goesL_ (some 34) rfl rfl Try.func39 (by kernel_rfl) rfl #[.slice (some ad197) l1.length c1, .int .i64 a2, .int .i64 ((rd_T38 l1 a2).f1)] rfl (by (try simp only [List.map_toArray, List.map_cons, List.map_nil]); first | done | rfl | (simp only [List.length_drop, List.length_take]; rfl)) ?_; (with_reducible refine (estoversref11_submitted.calls kj6 _ _ l1 a2 ((rd_T38 l1 a2).f1) t199 _ ?side1 ?side2 A15.out).mono ?_); (case side1 => repeat (first | exact (Kd.C_below HR1.out HB.out) | (with_reducible refine Kd.C_alloc ?_ _) | (with_reducible refine Kd.C_drewN ?_ _) | (with_reducible refine Kd.C_drew ?_))); (case side2 => exact HC1.out); rintro e w' ⟨rfl, ⟨nd, rfl⟩⟩; refine ⟨_, rfl, ?_⟩))
                  go_ret
                  exact ⟨by first | rfl | (simp [errW_none, errW_some] <;> rfl) | (simp [*, errW_none, errW_some] <;> rfl), by repeat (first | (with_reducible first | exact HB.out | apply below_alloc | apply pw_below_drewN | apply below_drew1 | refine below_set ?_ GE198.out) | exact HB.out)⟩
                · rw [if_neg c16] at H
                  have c16b0 : decide (0 ≤ t199) = false := decide_eq_false c16
                  clear c16
                  obtain rfl := Option.some.inj H
                  have hcz18_0 : wc.cell? ⟨gb198, 0, none⟩ = some (.int .i64 ((rd_T38 l1 a2).f0)) := (blk_cell BK198.out 0).trans rfl
                  have hcz18_1 : wc.cell? ⟨gb198, 1, none⟩ = some (.int .i64 ((rd_T38 l1 a2).f1)) := (blk_cell BK198.out 1).trans rfl
                  have hcz18_2 : wc.cell? ⟨gb198, 2, none⟩ = some (.int .i64 ((rd_T38 l1 a2).f2)) := (blk_cell BK198.out 2).trans rfl
                  have hcz18_3 : wc.cell? ⟨gb198, 3, none⟩ = some (.slice A197_3 ((rd_T38 l1 a2).f3).length c197_3) := (blk_cell BK198.out 3).trans rfl
                  have hfz18_0 := blk_frozen BK198.out 0
                  have hfz18_1 := blk_frozen BK198.out 1
                  have hfz18_2 := blk_frozen BK198.out 2
                  have hfz18_3 := blk_frozen BK198.out 3
                  go_wp2_with (first | ((with_reducible refine gate_callee (f := 39) rfl ?_); refine goesL_ (some 34) rfl rfl Try.func39 (by kernel_rfl) rfl #[.slice (some ad197) l1.length c1, .int .i64 a2, .int .i64 ((rd_T38 l1 a2).f1)] rfl (by (try simp only [List.map_toArray, List.map_cons, List.map_nil]); first | done | rfl | (simp only [List.length_drop, List.length_take]; rfl)) ?_; (with_reducible refine (estoversref11_submitted.calls kj6 _ _ l1 a2 ((rd_T38 l1 a2).f1) t199 _ ?side1 ?side2 A15.out).mono ?_); (case side1 => repeat (first | exact (Kd.C_below HR1.out HB.out) | (with_reducible refine Kd.C_alloc ?_ _) | (with_reducible refine Kd.C_drewN ?_ _) | (with_reducible refine Kd.C_drew ?_))); (case side2 => exact HC1.out); rintro e w' ⟨rfl, ⟨nd, rfl⟩⟩; refine ⟨_, rfl, ?_⟩))
                  go_ret
                  exact ⟨by first | rfl | (simp [errW_none, errW_some] <;> rfl) | (simp [*, errW_none, errW_some] <;> rfl), by repeat (first | (with_reducible first | exact HB.out | apply below_alloc | apply pw_below_drewN | apply below_drew1 | refine below_set ?_ GE198.out) | exact HB.out)⟩
              · rw [if_neg c14] at H
                have c14b0 : ((((rd_T38 l1 a2).f3).length : Int) == 32) = false := beq_eq_false_iff_ne.mpr c14
                have c14b1 : ((((rd_T38 l1 a2).f3).length : Int) != 32) = true := bne_iff_ne.mpr c14
                obtain rfl := Option.some.inj H
                have hcz19_0 : wc.cell? ⟨gb198, 0, none⟩ = some (.int .i64 ((rd_T38 l1 a2).f0)) := (blk_cell BK198.out 0).trans rfl
                have hcz19_1 : wc.cell? ⟨gb198, 1, none⟩ = some (.int .i64 ((rd_T38 l1 a2).f1)) := (blk_cell BK198.out 1).trans rfl
                have hcz19_2 : wc.cell? ⟨gb198, 2, none⟩ = some (.int .i64 ((rd_T38 l1 a2).f2)) := (blk_cell BK198.out 2).trans rfl
                have hcz19_3 : wc.cell? ⟨gb198, 3, none⟩ = some (.slice A197_3 ((rd_T38 l1 a2).f3).length c197_3) := (blk_cell BK198.out 3).trans rfl
                have hfz19_0 := blk_frozen BK198.out 0
                have hfz19_1 := blk_frozen BK198.out 1
                have hfz19_2 := blk_frozen BK198.out 2
                have hfz19_3 := blk_frozen BK198.out 3
                go_wp2
                go_ret
                exact ⟨by first | rfl | (simp [errW_none, errW_some] <;> rfl) | (simp [*, errW_none, errW_some] <;> rfl), by repeat (first | (with_reducible first | exact HB.out | apply below_alloc | apply pw_below_drewN | apply below_drew1 | refine below_set ?_ GE198.out) | exact HB.out)⟩
      · rw [if_neg c6] at H
        have c6b0 : (((rd_T38 l1 a2).f0) == 1) = false := beq_eq_false_iff_ne.mpr c6
        have c6b1 : (((rd_T38 l1 a2).f0) != 1) = true := bne_iff_ne.mpr c6
        by_cases c20 : ((rd_T38 l1 a2).f0) = 2
        · rw [if_pos c20] at H
          have c20b0 : (((rd_T38 l1 a2).f0) == 2) = true := beq_iff_eq.mpr c20
          have c20b1 : (((rd_T38 l1 a2).f0) != 2) = false := bne_eq_false_iff_eq.mpr c20
          clear c20
          have HC21 := Aside0.mk H
          clear H
          have p197 : 0 ≤ (a2 : Int) := of_decide_eq_true (by first | (with_reducible assumption) | assumption)
          have q197 : a2 < (l1.length : Int) := of_decide_eq_true (by first | (with_reducible assumption) | assumption)
          obtain ⟨ad197, A197_3, c197_3, e197, hx197_0, hx197_1, hx197_2, hx197_3, hl197_3, hi197_3⟩ := at_T38 HR1.out a2 p197 q197
          cases e197
          have HR197_3 := Aside0.mk hi197_3
          have HC197_3 := Aside0.mk hl197_3
          clear hi197_3 hl197_3
          replace p197 := eq_true p197
          replace q197 := eq_true q197
          go_enter Try.func33, Try.ntmps33
          go_upto_region 12 with (first | ((with_reducible refine gate_dst (N := 7) rfl ?_); (try (refine gate_guard (by rfl) ?_; dsimp only)); refine box_event ?hg (N := 7) ?hd (cs := #[.int .i64 0, .int .i64 0, .int .i64 0, .slice none 0 0]) (t := 38) ?hr ?_; (case hd => rfl); (case hg => rfl); (case hr => first | (go_simp; done) | (go_simp; rfl)); intro gb198 hg w22 hbox hb; have n0_ := Aside0.mk (below_step (by repeat (first | (with_reducible first | exact HB.out | apply below_alloc | apply pw_below_drewN | apply below_drew1) | exact HB.out)) hb); have n1_ := Aside0.mk (hbox); have n2_ := Aside0.mk ((by rw [hg]; exact (below_size (by repeat (first | (with_reducible first | exact HB.out | apply below_alloc | apply pw_below_drewN | apply below_drew1) | exact HB.out))) : w.heap.size ≤ gb198)); have n3_ := Aside0.mk ((by rw [hg]; exact (below_size (by repeat (first | (with_reducible first | exact HB.out | apply below_alloc | apply pw_below_drewN | apply below_drew1) | exact HB.out))) : w.heap.size ≤ gb198)); clear HB; have HB := n0_; have BK198 := n1_; have GW198 := n2_; have GE198 := n3_; clear n0_ n1_ n2_ n3_; clear hb hbox hg; have hcz23_0 : w22.cell? ⟨gb198, 0, none⟩ = some (.int .i64 0) := (blk_cell BK198.out 0).trans rfl; have hcz23_1 : w22.cell? ⟨gb198, 1, none⟩ = some (.int .i64 0) := (blk_cell BK198.out 1).trans rfl; have hcz23_2 : w22.cell? ⟨gb198, 2, none⟩ = some (.int .i64 0) := (blk_cell BK198.out 2).trans rfl; have hcz23_3 : w22.cell? ⟨gb198, 3, none⟩ = some (.slice none 0 0) := (blk_cell BK198.out 3).trans rfl; have hfz23_0 := blk_frozen BK198.out 0; have hfz23_1 := blk_frozen BK198.out 1; have hfz23_2 := blk_frozen BK198.out 2; have hfz23_3 := blk_frozen BK198.out 3))
          (try simp only [Act.put, List.setIfInBounds_toArray, List.set_cons_zero, List.set_cons_succ])
          go_cut [46] (fun v46 wc => ∃ (kq : Nat) (x46_20 : Bool), v46 = .bool x46_20 ∧ Aside0 (estoversref11_event.j1 kq l1 a2 x46_20 ((rd_T38 l1 a2).f0) ((rd_T38 l1 a2).f1) ((rd_T38 l1 a2).f2) ((rd_T38 l1 a2).f3) = some r) ∧ Aside0 (kq ≤ k) ∧ Aside0 (wc.heap[gb198]? = some (.cells #[.int .i64 ((rd_T38 l1 a2).f0), .int .i64 ((rd_T38 l1 a2).f1), .int .i64 ((rd_T38 l1 a2).f2), (.slice A197_3 ((rd_T38 l1 a2).f3).length c197_3)] 38 (0, 0))) ∧ Aside0 (Below w.heap.size w wc))
          case first =>
            have H := HC21.out
            clear HC21
            by_cases c24 : ((rd_T38 l1 a2).f2) = 0
            · rw [if_pos c24] at H
              have c24b0 : (((rd_T38 l1 a2).f2) == 0) = true := beq_iff_eq.mpr c24
              have c24b1 : (((rd_T38 l1 a2).f2) != 0) = false := bne_eq_false_iff_eq.mpr c24
              clear c24
              (first | rw [c24b0] | (simp only [i64_w, i32_w]; rw [c24b0]) | skip)
              have H' := Aside0.mk H
              clear H
              have hcz25_0 : w22.cell? ⟨gb198, 0, none⟩ = some (.int .i64 0) := (blk_cell BK198.out 0).trans rfl
              have hcz25_1 : w22.cell? ⟨gb198, 1, none⟩ = some (.int .i64 0) := (blk_cell BK198.out 1).trans rfl
              have hcz25_2 : w22.cell? ⟨gb198, 2, none⟩ = some (.int .i64 0) := (blk_cell BK198.out 2).trans rfl
              have hcz25_3 : w22.cell? ⟨gb198, 3, none⟩ = some (.slice none 0 0) := (blk_cell BK198.out 3).trans rfl
              have hfz25_0 := blk_frozen BK198.out 0
              have hfz25_1 := blk_frozen BK198.out 1
              have hfz25_2 := blk_frozen BK198.out 2
              have hfz25_3 := blk_frozen BK198.out 3
              go_wp2
              go_meet
              case rel => exact ⟨_, (decide ((((rd_T38 l1 a2).f3).length : Int) > 0)), (by first | rfl | (simp; done) | (simp [*]; done)), H', ⟨by first | omega | exact Nat.le_refl _⟩, ⟨by (with_reducible repeat (first | refine blk_drewN ?_ _ | refine blk_drew ?_ | refine blk_alloc ?_ _)); refine blk_put (cs := #[.int .i64 ((rd_T38 l1 a2).f0), .int .i64 ((rd_T38 l1 a2).f1), .int .i64 ((rd_T38 l1 a2).f2), .slice none 0 0]) ?_ 3 _ rfl; (with_reducible repeat (first | refine blk_drewN ?_ _ | refine blk_drew ?_ | refine blk_alloc ?_ _)); refine blk_put (cs := #[.int .i64 ((rd_T38 l1 a2).f0), .int .i64 ((rd_T38 l1 a2).f1), .int .i64 0, .slice none 0 0]) ?_ 2 _ rfl; (with_reducible repeat (first | refine blk_drewN ?_ _ | refine blk_drew ?_ | refine blk_alloc ?_ _)); refine blk_put (cs := #[.int .i64 ((rd_T38 l1 a2).f0), .int .i64 0, .int .i64 0, .slice none 0 0]) ?_ 1 _ rfl; (with_reducible repeat (first | refine blk_drewN ?_ _ | refine blk_drew ?_ | refine blk_alloc ?_ _)); refine blk_put (cs := #[.int .i64 0, .int .i64 0, .int .i64 0, .slice none 0 0]) ?_ 0 _ rfl; (with_reducible repeat (first | refine blk_drewN ?_ _ | refine blk_drew ?_ | refine blk_alloc ?_ _)); exact BK198.out⟩, ⟨by repeat (first | (with_reducible first | exact HB.out | apply below_alloc | apply pw_below_drewN | apply below_drew1 | refine below_set ?_ GE198.out) | exact HB.out)⟩⟩
            · rw [if_neg c24] at H
              have c24b0 : (((rd_T38 l1 a2).f2) == 0) = false := beq_eq_false_iff_ne.mpr c24
              have c24b1 : (((rd_T38 l1 a2).f2) != 0) = true := bne_iff_ne.mpr c24
              (first | rw [c24b0] | (simp only [i64_w, i32_w]; rw [c24b0]) | skip)
              have H' := Aside0.mk H
              clear H
              have hcz26_0 : w22.cell? ⟨gb198, 0, none⟩ = some (.int .i64 0) := (blk_cell BK198.out 0).trans rfl
              have hcz26_1 : w22.cell? ⟨gb198, 1, none⟩ = some (.int .i64 0) := (blk_cell BK198.out 1).trans rfl
              have hcz26_2 : w22.cell? ⟨gb198, 2, none⟩ = some (.int .i64 0) := (blk_cell BK198.out 2).trans rfl
              have hcz26_3 : w22.cell? ⟨gb198, 3, none⟩ = some (.slice none 0 0) := (blk_cell BK198.out 3).trans rfl
              have hfz26_0 := blk_frozen BK198.out 0
              have hfz26_1 := blk_frozen BK198.out 1
              have hfz26_2 := blk_frozen BK198.out 2
              have hfz26_3 := blk_frozen BK198.out 3
              go_wp2
              go_meet
              case rel => exact ⟨_, (true), (by first | rfl | (simp; done) | (simp [*]; done)), H', ⟨by first | omega | exact Nat.le_refl _⟩, ⟨by (with_reducible repeat (first | refine blk_drewN ?_ _ | refine blk_drew ?_ | refine blk_alloc ?_ _)); refine blk_put (cs := #[.int .i64 ((rd_T38 l1 a2).f0), .int .i64 ((rd_T38 l1 a2).f1), .int .i64 ((rd_T38 l1 a2).f2), .slice none 0 0]) ?_ 3 _ rfl; (with_reducible repeat (first | refine blk_drewN ?_ _ | refine blk_drew ?_ | refine blk_alloc ?_ _)); refine blk_put (cs := #[.int .i64 ((rd_T38 l1 a2).f0), .int .i64 ((rd_T38 l1 a2).f1), .int .i64 0, .slice none 0 0]) ?_ 2 _ rfl; (with_reducible repeat (first | refine blk_drewN ?_ _ | refine blk_drew ?_ | refine blk_alloc ?_ _)); refine blk_put (cs := #[.int .i64 ((rd_T38 l1 a2).f0), .int .i64 0, .int .i64 0, .slice none 0 0]) ?_ 1 _ rfl; (with_reducible repeat (first | refine blk_drewN ?_ _ | refine blk_drew ?_ | refine blk_alloc ?_ _)); refine blk_put (cs := #[.int .i64 0, .int .i64 0, .int .i64 0, .slice none 0 0]) ?_ 0 _ rfl; (with_reducible repeat (first | refine blk_drewN ?_ _ | refine blk_drew ?_ | refine blk_alloc ?_ _)); exact BK198.out⟩, ⟨by repeat (first | (with_reducible first | exact HB.out | apply below_alloc | apply pw_below_drewN | apply below_drew1 | refine below_set ?_ GE198.out) | exact HB.out)⟩⟩
          case rest =>
            clear HC21
            try clear c1
            try clear p1
            try clear q1
            try clear hx1
            try clear c2
            try clear p2
            try clear c3
            try clear c4
            try clear c4b0
            try clear c5
            try clear c5b0
            try clear c6
            try clear c6b0
            try clear c6b1
            try clear c10
            try clear c10b0
            try clear c13
            try clear c14
            try clear c14b0
            try clear c14b1
            try clear c16
            try clear c16b0
            try clear c19
            try clear p19
            try clear q19
            try clear hx19
            try clear c20
            try clear c20b0
            try clear c20b1
            try clear c24
            try clear c24b0
            try clear c24b1
            try clear hcz11_0
            try clear hcz11_1
            try clear hcz11_2
            try clear hcz11_3
            try clear hcz12_0
            try clear hcz12_1
            try clear hcz12_2
            try clear hcz12_3
            try clear hcz17_0
            try clear hcz17_1
            try clear hcz17_2
            try clear hcz17_3
            try clear hcz18_0
            try clear hcz18_1
            try clear hcz18_2
            try clear hcz18_3
            try clear hcz19_0
            try clear hcz19_1
            try clear hcz19_2
            try clear hcz19_3
            try clear hcz23_0
            try clear hcz23_1
            try clear hcz23_2
            try clear hcz23_3
            try clear hcz25_0
            try clear hcz25_1
            try clear hcz25_2
            try clear hcz25_3
            try clear hcz26_0
            try clear hcz26_1
            try clear hcz26_2
            try clear hcz26_3
            try clear hcz9_0
            try clear hcz9_1
            try clear hcz9_2
            try clear hcz9_3
            try clear hfz11_0
            try clear hfz11_1
            try clear hfz11_2
            try clear hfz11_3
            try clear hfz12_0
            try clear hfz12_1
            try clear hfz12_2
            try clear hfz12_3
            try clear hfz17_0
            try clear hfz17_1
            try clear hfz17_2
            try clear hfz17_3
            try clear hfz18_0
            try clear hfz18_1
            try clear hfz18_2
            try clear hfz18_3
            try clear hfz19_0
            try clear hfz19_1
            try clear hfz19_2
            try clear hfz19_3
            try clear hfz23_0
            try clear hfz23_1
            try clear hfz23_2
            try clear hfz23_3
            try clear hfz25_0
            try clear hfz25_1
            try clear hfz25_2
            try clear hfz25_3
            try clear hfz26_0
            try clear hfz26_1
            try clear hfz26_2
            try clear hfz26_3
            try clear hfz9_0
            try clear hfz9_1
            try clear hfz9_2
            try clear hfz9_3
            try clear hx197_0
            try clear hx197_1
            try clear hx197_2
            try clear hx197_3
            try clear p1
            try clear p197
            try clear p2
            try clear q1
            try clear q197
            obtain ⟨kq, x46_20, rfl, HA, HJ20, BK198, HB⟩ := hcut
            cases kq with
            | zero => exact absurd HA.out (by simp [estoversref11_event.j1])
            | succ kj20 =>
              have H := HA.out
              clear HA
              simp only [estoversref11_event.j1] at H
              by_cases c27 : x46_20 = true
              · subst c27
                have H1 : (some 1) = some r := by rw [if_pos rfl] at H; exact H
                clear H
                have H := H1
                clear H1
                obtain rfl := Option.some.inj H
                go_wp2
                go_ret
                exact ⟨by first | rfl | (simp [errW_none, errW_some] <;> rfl) | (simp [*, errW_none, errW_some] <;> rfl), by repeat (first | (with_reducible first | exact HB.out | apply below_alloc | apply pw_below_drewN | apply below_drew1 | refine below_set ?_ GE198.out) | exact HB.out)⟩
              · replace c27 := Bool.eq_false_iff.mpr c27
                subst c27
                have H1 : ((estoversref11_submitted.f kj20 l1 a2 ((rd_T38 l1 a2).f1)).bind fun t200 => (if t200 < 0 then (some 6) else ((estoversref11_completed.f kj20 l1 a2 ((rd_T38 l1 a2).f1)).bind fun t201 => (if t201 ≥ 0 then (some 6) else (some 0))))) = some r := by rw [if_neg (show ¬ (false = true) by decide)] at H; exact H
                clear H
                have H := H1
                clear H1
                replace H := Option.bind_eq_some_iff.mp H
                obtain ⟨t200, A280, H⟩ := H
                replace H : (if t200 < 0 then (some 6) else ((estoversref11_completed.f kj20 l1 a2 ((rd_T38 l1 a2).f1)).bind fun t201 => (if t201 ≥ 0 then (some 6) else (some 0)))) = some r := H
                have A28 := Aside0.mk A280
                clear A280
                by_cases c29 : t200 < 0
                · rw [if_pos c29] at H
                  have c29b0 : decide (t200 < 0) = true := decide_eq_true c29
                  clear c29
                  obtain rfl := Option.some.inj H
                  have hcz30_0 : wc.cell? ⟨gb198, 0, none⟩ = some (.int .i64 ((rd_T38 l1 a2).f0)) := (blk_cell BK198.out 0).trans rfl
                  have hcz30_1 : wc.cell? ⟨gb198, 1, none⟩ = some (.int .i64 ((rd_T38 l1 a2).f1)) := (blk_cell BK198.out 1).trans rfl
                  have hcz30_2 : wc.cell? ⟨gb198, 2, none⟩ = some (.int .i64 ((rd_T38 l1 a2).f2)) := (blk_cell BK198.out 2).trans rfl
                  have hcz30_3 : wc.cell? ⟨gb198, 3, none⟩ = some (.slice A197_3 ((rd_T38 l1 a2).f3).length c197_3) := (blk_cell BK198.out 3).trans rfl
                  have hfz30_0 := blk_frozen BK198.out 0
                  have hfz30_1 := blk_frozen BK198.out 1
                  have hfz30_2 := blk_frozen BK198.out 2
                  have hfz30_3 := blk_frozen BK198.out 3
                  go_wp2_with (first | ((with_reducible refine gate_callee (f := 39) rfl ?_); refine goesL_ (some 51) rfl rfl Try.func39 (by kernel_rfl) rfl #[.slice (some ad197) l1.length c1, .int .i64 a2, .int .i64 ((rd_T38 l1 a2).f1)] rfl (by (try simp only [List.map_toArray, List.map_cons, List.map_nil]); first | done | rfl | (simp only [List.length_drop, List.length_take]; rfl)) ?_; (with_reducible refine (estoversref11_submitted.calls kj20 _ _ l1 a2 ((rd_T38 l1 a2).f1) t200 _ ?side1 ?side2 A28.out).mono ?_); (case side1 => repeat (first | exact (Kd.C_below HR1.out HB.out) | (with_reducible refine Kd.C_alloc ?_ _) | (with_reducible refine Kd.C_drewN ?_ _) | (with_reducible refine Kd.C_drew ?_))); (case side2 => exact HC1.out); rintro e w' ⟨rfl, ⟨nd, rfl⟩⟩; refine ⟨_, rfl, ?_⟩))
                  go_ret
                  exact ⟨by first | rfl | (simp [errW_none, errW_some] <;> rfl) | (simp [*, errW_none, errW_some] <;> rfl), by repeat (first | (with_reducible first | exact HB.out | apply below_alloc | apply pw_below_drewN | apply below_drew1 | refine below_set ?_ GE198.out) | exact HB.out)⟩
                · rw [if_neg c29] at H
                  have c29b0 : decide (t200 < 0) = false := decide_eq_false c29
                  clear c29
                  replace H := Option.bind_eq_some_iff.mp H
                  obtain ⟨t201, A310, H⟩ := H
                  replace H : (if t201 ≥ 0 then (some 6) else (some 0)) = some r := H
                  have A31 := Aside0.mk A310
                  clear A310
                  by_cases c32 : t201 ≥ 0
                  · rw [if_pos c32] at H
                    have c32b0 : decide (0 ≤ t201) = true := decide_eq_true c32
                    clear c32
                    obtain rfl := Option.some.inj H
                    have hcz33_0 : wc.cell? ⟨gb198, 0, none⟩ = some (.int .i64 ((rd_T38 l1 a2).f0)) := (blk_cell BK198.out 0).trans rfl
                    have hcz33_1 : wc.cell? ⟨gb198, 1, none⟩ = some (.int .i64 ((rd_T38 l1 a2).f1)) := (blk_cell BK198.out 1).trans rfl
                    have hcz33_2 : wc.cell? ⟨gb198, 2, none⟩ = some (.int .i64 ((rd_T38 l1 a2).f2)) := (blk_cell BK198.out 2).trans rfl
                    have hcz33_3 : wc.cell? ⟨gb198, 3, none⟩ = some (.slice A197_3 ((rd_T38 l1 a2).f3).length c197_3) := (blk_cell BK198.out 3).trans rfl
                    have hfz33_0 := blk_frozen BK198.out 0
                    have hfz33_1 := blk_frozen BK198.out 1
                    have hfz33_2 := blk_frozen BK198.out 2
                    have hfz33_3 := blk_frozen BK198.out 3
                    go_wp2_with (first | ((with_reducible refine gate_callee (f := 39) rfl ?_); refine goesL_ (some 51) rfl rfl Try.func39 (by kernel_rfl) rfl #[.slice (some ad197) l1.length c1, .int .i64 a2, .int .i64 ((rd_T38 l1 a2).f1)] rfl (by (try simp only [List.map_toArray, List.map_cons, List.map_nil]); first | done | rfl | (simp only [List.length_drop, List.length_take]; rfl)) ?_; (with_reducible refine (estoversref11_submitted.calls kj20 _ _ l1 a2 ((rd_T38 l1 a2).f1) t200 _ ?side1 ?side2 A28.out).mono ?_); (case side1 => repeat (first | exact (Kd.C_below HR1.out HB.out) | (with_reducible refine Kd.C_alloc ?_ _) | (with_reducible refine Kd.C_drewN ?_ _) | (with_reducible refine Kd.C_drew ?_))); (case side2 => exact HC1.out); rintro e w' ⟨rfl, ⟨nd, rfl⟩⟩; refine ⟨_, rfl, ?_⟩) | (go_at_call 40; (with_reducible refine (estoversref11_completed.calls kj20 _ _ l1 a2 ((rd_T38 l1 a2).f1) t201 _ ?side1 ?side2 A31.out).mono ?_); (case side1 => repeat (first | exact (Kd.C_below HR1.out (by repeat (first | (with_reducible first | exact HB.out | apply below_alloc | apply pw_below_drewN | apply below_drew1 | refine below_set ?_ GE198.out) | exact HB.out))) | (with_reducible refine Kd.C_alloc ?_ _) | (with_reducible refine Kd.C_drewN ?_ _) | (with_reducible refine Kd.C_drew ?_))); (case side2 => exact HC1.out); rintro e w' ⟨rfl, ⟨nd, rfl⟩⟩))
                    go_ret
                    exact ⟨by first | rfl | (simp [errW_none, errW_some] <;> rfl) | (simp [*, errW_none, errW_some] <;> rfl), by repeat (first | (with_reducible first | exact HB.out | apply below_alloc | apply pw_below_drewN | apply below_drew1 | refine below_set ?_ GE198.out) | exact HB.out)⟩
                  · rw [if_neg c32] at H
                    have c32b0 : decide (0 ≤ t201) = false := decide_eq_false c32
                    clear c32
                    obtain rfl := Option.some.inj H
                    have hcz34_0 : wc.cell? ⟨gb198, 0, none⟩ = some (.int .i64 ((rd_T38 l1 a2).f0)) := (blk_cell BK198.out 0).trans rfl
                    have hcz34_1 : wc.cell? ⟨gb198, 1, none⟩ = some (.int .i64 ((rd_T38 l1 a2).f1)) := (blk_cell BK198.out 1).trans rfl
                    have hcz34_2 : wc.cell? ⟨gb198, 2, none⟩ = some (.int .i64 ((rd_T38 l1 a2).f2)) := (blk_cell BK198.out 2).trans rfl
                    have hcz34_3 : wc.cell? ⟨gb198, 3, none⟩ = some (.slice A197_3 ((rd_T38 l1 a2).f3).length c197_3) := (blk_cell BK198.out 3).trans rfl
                    have hfz34_0 := blk_frozen BK198.out 0
                    have hfz34_1 := blk_frozen BK198.out 1
                    have hfz34_2 := blk_frozen BK198.out 2
                    have hfz34_3 := blk_frozen BK198.out 3
                    go_wp2_with (first | ((with_reducible refine gate_callee (f := 39) rfl ?_); refine goesL_ (some 51) rfl rfl Try.func39 (by kernel_rfl) rfl #[.slice (some ad197) l1.length c1, .int .i64 a2, .int .i64 ((rd_T38 l1 a2).f1)] rfl (by (try simp only [List.map_toArray, List.map_cons, List.map_nil]); first | done | rfl | (simp only [List.length_drop, List.length_take]; rfl)) ?_; (with_reducible refine (estoversref11_submitted.calls kj20 _ _ l1 a2 ((rd_T38 l1 a2).f1) t200 _ ?side1 ?side2 A28.out).mono ?_); (case side1 => repeat (first | exact (Kd.C_below HR1.out HB.out) | (with_reducible refine Kd.C_alloc ?_ _) | (with_reducible refine Kd.C_drewN ?_ _) | (with_reducible refine Kd.C_drew ?_))); (case side2 => exact HC1.out); rintro e w' ⟨rfl, ⟨nd, rfl⟩⟩; refine ⟨_, rfl, ?_⟩) | (go_at_call 40; (with_reducible refine (estoversref11_completed.calls kj20 _ _ l1 a2 ((rd_T38 l1 a2).f1) t201 _ ?side1 ?side2 A31.out).mono ?_); (case side1 => repeat (first | exact (Kd.C_below HR1.out (by repeat (first | (with_reducible first | exact HB.out | apply below_alloc | apply pw_below_drewN | apply below_drew1 | refine below_set ?_ GE198.out) | exact HB.out))) | (with_reducible refine Kd.C_alloc ?_ _) | (with_reducible refine Kd.C_drewN ?_ _) | (with_reducible refine Kd.C_drew ?_))); (case side2 => exact HC1.out); rintro e w' ⟨rfl, ⟨nd, rfl⟩⟩))
                    go_ret
                    exact ⟨by first | rfl | (simp [errW_none, errW_some] <;> rfl) | (simp [*, errW_none, errW_some] <;> rfl), by repeat (first | (with_reducible first | exact HB.out | apply below_alloc | apply pw_below_drewN | apply below_drew1 | refine below_set ?_ GE198.out) | exact HB.out)⟩
        · rw [if_neg c20] at H
          have c20b0 : (((rd_T38 l1 a2).f0) == 2) = false := beq_eq_false_iff_ne.mpr c20
          have c20b1 : (((rd_T38 l1 a2).f0) != 2) = true := bne_iff_ne.mpr c20
          by_cases c35 : ((rd_T38 l1 a2).f0) = 3
          · rw [if_pos c35] at H
            have c35b0 : (((rd_T38 l1 a2).f0) == 3) = true := beq_iff_eq.mpr c35
            have c35b1 : (((rd_T38 l1 a2).f0) != 3) = false := bne_eq_false_iff_eq.mpr c35
            clear c35
            by_cases c36 : ((rd_T38 l1 a2).f1) = 0
            · rw [if_pos c36] at H
              have c36b0 : (((rd_T38 l1 a2).f1) == 0) = true := beq_iff_eq.mpr c36
              have c36b1 : (((rd_T38 l1 a2).f1) != 0) = false := bne_eq_false_iff_eq.mpr c36
              clear c36
              by_cases c37 : ((rd_T38 l1 a2).f2) = 0
              · rw [if_pos c37] at H
                have c37b0 : (((rd_T38 l1 a2).f2) == 0) = true := beq_iff_eq.mpr c37
                have c37b1 : (((rd_T38 l1 a2).f2) != 0) = false := bne_eq_false_iff_eq.mpr c37
                clear c37
                by_cases c38 : (((rd_T38 l1 a2).f3).length : Int) > 0
                · rw [if_pos c38] at H
                  have c38b0 : decide (0 < (((rd_T38 l1 a2).f3).length : Int)) = true := decide_eq_true c38
                  have c38b1 : decide (0 < ((rd_T38 l1 a2).f3).length) = true := decide_eq_true (by omega)
                  clear c38
                  obtain rfl := Option.some.inj H
                  have p197 : 0 ≤ (a2 : Int) := of_decide_eq_true (by first | (with_reducible assumption) | assumption)
                  have q197 : a2 < (l1.length : Int) := of_decide_eq_true (by first | (with_reducible assumption) | assumption)
                  obtain ⟨ad197, A197_3, c197_3, e197, hx197_0, hx197_1, hx197_2, hx197_3, hl197_3, hi197_3⟩ := at_T38 HR1.out a2 p197 q197
                  cases e197
                  have HR197_3 := Aside0.mk hi197_3
                  have HC197_3 := Aside0.mk hl197_3
                  clear hi197_3 hl197_3
                  replace p197 := eq_true p197
                  replace q197 := eq_true q197
                  go_enter Try.func33, Try.ntmps33
                  go_wp2_with (first | ((with_reducible refine gate_dst (N := 7) rfl ?_); (try (refine gate_guard (by rfl) ?_; dsimp only)); refine box_event ?hg (N := 7) ?hd (cs := #[.int .i64 0, .int .i64 0, .int .i64 0, .slice none 0 0]) (t := 38) ?hr ?_; (case hd => rfl); (case hg => rfl); (case hr => first | (go_simp; done) | (go_simp; rfl)); intro gb198 hg w39 hbox hb; have n0_ := Aside0.mk (below_step (by repeat (first | (with_reducible first | exact HB.out | apply below_alloc | apply pw_below_drewN | apply below_drew1) | exact HB.out)) hb); have n1_ := Aside0.mk (hbox); have n2_ := Aside0.mk ((by rw [hg]; exact (below_size (by repeat (first | (with_reducible first | exact HB.out | apply below_alloc | apply pw_below_drewN | apply below_drew1) | exact HB.out))) : w.heap.size ≤ gb198)); have n3_ := Aside0.mk ((by rw [hg]; exact (below_size (by repeat (first | (with_reducible first | exact HB.out | apply below_alloc | apply pw_below_drewN | apply below_drew1) | exact HB.out))) : w.heap.size ≤ gb198)); clear HB; have HB := n0_; have BK198 := n1_; have GW198 := n2_; have GE198 := n3_; clear n0_ n1_ n2_ n3_; clear hb hbox hg; have hcz40_0 : w39.cell? ⟨gb198, 0, none⟩ = some (.int .i64 0) := (blk_cell BK198.out 0).trans rfl; have hcz40_1 : w39.cell? ⟨gb198, 1, none⟩ = some (.int .i64 0) := (blk_cell BK198.out 1).trans rfl; have hcz40_2 : w39.cell? ⟨gb198, 2, none⟩ = some (.int .i64 0) := (blk_cell BK198.out 2).trans rfl; have hcz40_3 : w39.cell? ⟨gb198, 3, none⟩ = some (.slice none 0 0) := (blk_cell BK198.out 3).trans rfl; have hfz40_0 := blk_frozen BK198.out 0; have hfz40_1 := blk_frozen BK198.out 1; have hfz40_2 := blk_frozen BK198.out 2; have hfz40_3 := blk_frozen BK198.out 3))
                  go_ret
                  exact ⟨by first | rfl | (simp [errW_none, errW_some] <;> rfl) | (simp [*, errW_none, errW_some] <;> rfl), by repeat (first | (with_reducible first | exact HB.out | apply below_alloc | apply pw_below_drewN | apply below_drew1 | refine below_set ?_ GE198.out) | exact HB.out)⟩
                · rw [if_neg c38] at H
                  have c38b0 : decide (0 < (((rd_T38 l1 a2).f3).length : Int)) = false := decide_eq_false c38
                  have c38b1 : decide (0 < ((rd_T38 l1 a2).f3).length) = false := decide_eq_false (by omega)
                  clear c38
                  obtain rfl := Option.some.inj H
                  have p197 : 0 ≤ (a2 : Int) := of_decide_eq_true (by first | (with_reducible assumption) | assumption)
                  have q197 : a2 < (l1.length : Int) := of_decide_eq_true (by first | (with_reducible assumption) | assumption)
                  obtain ⟨ad197, A197_3, c197_3, e197, hx197_0, hx197_1, hx197_2, hx197_3, hl197_3, hi197_3⟩ := at_T38 HR1.out a2 p197 q197
                  cases e197
                  have HR197_3 := Aside0.mk hi197_3
                  have HC197_3 := Aside0.mk hl197_3
                  clear hi197_3 hl197_3
                  replace p197 := eq_true p197
                  replace q197 := eq_true q197
                  go_enter Try.func33, Try.ntmps33
                  go_wp2_with (first | ((with_reducible refine gate_dst (N := 7) rfl ?_); (try (refine gate_guard (by rfl) ?_; dsimp only)); refine box_event ?hg (N := 7) ?hd (cs := #[.int .i64 0, .int .i64 0, .int .i64 0, .slice none 0 0]) (t := 38) ?hr ?_; (case hd => rfl); (case hg => rfl); (case hr => first | (go_simp; done) | (go_simp; rfl)); intro gb198 hg w41 hbox hb; have n0_ := Aside0.mk (below_step (by repeat (first | (with_reducible first | exact HB.out | apply below_alloc | apply pw_below_drewN | apply below_drew1) | exact HB.out)) hb); have n1_ := Aside0.mk (hbox); have n2_ := Aside0.mk ((by rw [hg]; exact (below_size (by repeat (first | (with_reducible first | exact HB.out | apply below_alloc | apply pw_below_drewN | apply below_drew1) | exact HB.out))) : w.heap.size ≤ gb198)); have n3_ := Aside0.mk ((by rw [hg]; exact (below_size (by repeat (first | (with_reducible first | exact HB.out | apply below_alloc | apply pw_below_drewN | apply below_drew1) | exact HB.out))) : w.heap.size ≤ gb198)); clear HB; have HB := n0_; have BK198 := n1_; have GW198 := n2_; have GE198 := n3_; clear n0_ n1_ n2_ n3_; clear hb hbox hg; have hcz42_0 : w41.cell? ⟨gb198, 0, none⟩ = some (.int .i64 0) := (blk_cell BK198.out 0).trans rfl; have hcz42_1 : w41.cell? ⟨gb198, 1, none⟩ = some (.int .i64 0) := (blk_cell BK198.out 1).trans rfl; have hcz42_2 : w41.cell? ⟨gb198, 2, none⟩ = some (.int .i64 0) := (blk_cell BK198.out 2).trans rfl; have hcz42_3 : w41.cell? ⟨gb198, 3, none⟩ = some (.slice none 0 0) := (blk_cell BK198.out 3).trans rfl; have hfz42_0 := blk_frozen BK198.out 0; have hfz42_1 := blk_frozen BK198.out 1; have hfz42_2 := blk_frozen BK198.out 2; have hfz42_3 := blk_frozen BK198.out 3))
                  go_ret
                  exact ⟨by first | rfl | (simp [errW_none, errW_some] <;> rfl) | (simp [*, errW_none, errW_some] <;> rfl), by repeat (first | (with_reducible first | exact HB.out | apply below_alloc | apply pw_below_drewN | apply below_drew1 | refine below_set ?_ GE198.out) | exact HB.out)⟩
              · rw [if_neg c37] at H
                have c37b0 : (((rd_T38 l1 a2).f2) == 0) = false := beq_eq_false_iff_ne.mpr c37
                have c37b1 : (((rd_T38 l1 a2).f2) != 0) = true := bne_iff_ne.mpr c37
                obtain rfl := Option.some.inj H
                have p197 : 0 ≤ (a2 : Int) := of_decide_eq_true (by first | (with_reducible assumption) | assumption)
                have q197 : a2 < (l1.length : Int) := of_decide_eq_true (by first | (with_reducible assumption) | assumption)
                obtain ⟨ad197, A197_3, c197_3, e197, hx197_0, hx197_1, hx197_2, hx197_3, hl197_3, hi197_3⟩ := at_T38 HR1.out a2 p197 q197
                cases e197
                have HR197_3 := Aside0.mk hi197_3
                have HC197_3 := Aside0.mk hl197_3
                clear hi197_3 hl197_3
                replace p197 := eq_true p197
                replace q197 := eq_true q197
                go_enter Try.func33, Try.ntmps33
                go_wp2_with (first | ((with_reducible refine gate_dst (N := 7) rfl ?_); (try (refine gate_guard (by rfl) ?_; dsimp only)); refine box_event ?hg (N := 7) ?hd (cs := #[.int .i64 0, .int .i64 0, .int .i64 0, .slice none 0 0]) (t := 38) ?hr ?_; (case hd => rfl); (case hg => rfl); (case hr => first | (go_simp; done) | (go_simp; rfl)); intro gb198 hg w43 hbox hb; have n0_ := Aside0.mk (below_step (by repeat (first | (with_reducible first | exact HB.out | apply below_alloc | apply pw_below_drewN | apply below_drew1) | exact HB.out)) hb); have n1_ := Aside0.mk (hbox); have n2_ := Aside0.mk ((by rw [hg]; exact (below_size (by repeat (first | (with_reducible first | exact HB.out | apply below_alloc | apply pw_below_drewN | apply below_drew1) | exact HB.out))) : w.heap.size ≤ gb198)); have n3_ := Aside0.mk ((by rw [hg]; exact (below_size (by repeat (first | (with_reducible first | exact HB.out | apply below_alloc | apply pw_below_drewN | apply below_drew1) | exact HB.out))) : w.heap.size ≤ gb198)); clear HB; have HB := n0_; have BK198 := n1_; have GW198 := n2_; have GE198 := n3_; clear n0_ n1_ n2_ n3_; clear hb hbox hg; have hcz44_0 : w43.cell? ⟨gb198, 0, none⟩ = some (.int .i64 0) := (blk_cell BK198.out 0).trans rfl; have hcz44_1 : w43.cell? ⟨gb198, 1, none⟩ = some (.int .i64 0) := (blk_cell BK198.out 1).trans rfl; have hcz44_2 : w43.cell? ⟨gb198, 2, none⟩ = some (.int .i64 0) := (blk_cell BK198.out 2).trans rfl; have hcz44_3 : w43.cell? ⟨gb198, 3, none⟩ = some (.slice none 0 0) := (blk_cell BK198.out 3).trans rfl; have hfz44_0 := blk_frozen BK198.out 0; have hfz44_1 := blk_frozen BK198.out 1; have hfz44_2 := blk_frozen BK198.out 2; have hfz44_3 := blk_frozen BK198.out 3))
                go_ret
                exact ⟨by first | rfl | (simp [errW_none, errW_some] <;> rfl) | (simp [*, errW_none, errW_some] <;> rfl), by repeat (first | (with_reducible first | exact HB.out | apply below_alloc | apply pw_below_drewN | apply below_drew1 | refine below_set ?_ GE198.out) | exact HB.out)⟩
            · rw [if_neg c36] at H
              have c36b0 : (((rd_T38 l1 a2).f1) == 0) = false := beq_eq_false_iff_ne.mpr c36
              have c36b1 : (((rd_T38 l1 a2).f1) != 0) = true := bne_iff_ne.mpr c36
              obtain rfl := Option.some.inj H
              have p197 : 0 ≤ (a2 : Int) := of_decide_eq_true (by first | (with_reducible assumption) | assumption)
              have q197 : a2 < (l1.length : Int) := of_decide_eq_true (by first | (with_reducible assumption) | assumption)
              obtain ⟨ad197, A197_3, c197_3, e197, hx197_0, hx197_1, hx197_2, hx197_3, hl197_3, hi197_3⟩ := at_T38 HR1.out a2 p197 q197
              cases e197
              have HR197_3 := Aside0.mk hi197_3
              have HC197_3 := Aside0.mk hl197_3
              clear hi197_3 hl197_3
              replace p197 := eq_true p197
              replace q197 := eq_true q197
              go_enter Try.func33, Try.ntmps33
              go_wp2_with (first | ((with_reducible refine gate_dst (N := 7) rfl ?_); (try (refine gate_guard (by rfl) ?_; dsimp only)); refine box_event ?hg (N := 7) ?hd (cs := #[.int .i64 0, .int .i64 0, .int .i64 0, .slice none 0 0]) (t := 38) ?hr ?_; (case hd => rfl); (case hg => rfl); (case hr => first | (go_simp; done) | (go_simp; rfl)); intro gb198 hg w45 hbox hb; have n0_ := Aside0.mk (below_step (by repeat (first | (with_reducible first | exact HB.out | apply below_alloc | apply pw_below_drewN | apply below_drew1) | exact HB.out)) hb); have n1_ := Aside0.mk (hbox); have n2_ := Aside0.mk ((by rw [hg]; exact (below_size (by repeat (first | (with_reducible first | exact HB.out | apply below_alloc | apply pw_below_drewN | apply below_drew1) | exact HB.out))) : w.heap.size ≤ gb198)); have n3_ := Aside0.mk ((by rw [hg]; exact (below_size (by repeat (first | (with_reducible first | exact HB.out | apply below_alloc | apply pw_below_drewN | apply below_drew1) | exact HB.out))) : w.heap.size ≤ gb198)); clear HB; have HB := n0_; have BK198 := n1_; have GW198 := n2_; have GE198 := n3_; clear n0_ n1_ n2_ n3_; clear hb hbox hg; have hcz46_0 : w45.cell? ⟨gb198, 0, none⟩ = some (.int .i64 0) := (blk_cell BK198.out 0).trans rfl; have hcz46_1 : w45.cell? ⟨gb198, 1, none⟩ = some (.int .i64 0) := (blk_cell BK198.out 1).trans rfl; have hcz46_2 : w45.cell? ⟨gb198, 2, none⟩ = some (.int .i64 0) := (blk_cell BK198.out 2).trans rfl; have hcz46_3 : w45.cell? ⟨gb198, 3, none⟩ = some (.slice none 0 0) := (blk_cell BK198.out 3).trans rfl; have hfz46_0 := blk_frozen BK198.out 0; have hfz46_1 := blk_frozen BK198.out 1; have hfz46_2 := blk_frozen BK198.out 2; have hfz46_3 := blk_frozen BK198.out 3))
              go_ret
              exact ⟨by first | rfl | (simp [errW_none, errW_some] <;> rfl) | (simp [*, errW_none, errW_some] <;> rfl), by repeat (first | (with_reducible first | exact HB.out | apply below_alloc | apply pw_below_drewN | apply below_drew1 | refine below_set ?_ GE198.out) | exact HB.out)⟩
          · rw [if_neg c35] at H
            have c35b0 : (((rd_T38 l1 a2).f0) == 3) = false := beq_eq_false_iff_ne.mpr c35
            have c35b1 : (((rd_T38 l1 a2).f0) != 3) = true := bne_iff_ne.mpr c35
            obtain rfl := Option.some.inj H
            have p197 : 0 ≤ (a2 : Int) := of_decide_eq_true (by first | (with_reducible assumption) | assumption)
            have q197 : a2 < (l1.length : Int) := of_decide_eq_true (by first | (with_reducible assumption) | assumption)
            obtain ⟨ad197, A197_3, c197_3, e197, hx197_0, hx197_1, hx197_2, hx197_3, hl197_3, hi197_3⟩ := at_T38 HR1.out a2 p197 q197
            cases e197
            have HR197_3 := Aside0.mk hi197_3
            have HC197_3 := Aside0.mk hl197_3
            clear hi197_3 hl197_3
            replace p197 := eq_true p197
            replace q197 := eq_true q197
            go_enter Try.func33, Try.ntmps33
            go_wp2_with (first | ((with_reducible refine gate_dst (N := 7) rfl ?_); (try (refine gate_guard (by rfl) ?_; dsimp only)); refine box_event ?hg (N := 7) ?hd (cs := #[.int .i64 0, .int .i64 0, .int .i64 0, .slice none 0 0]) (t := 38) ?hr ?_; (case hd => rfl); (case hg => rfl); (case hr => first | (go_simp; done) | (go_simp; rfl)); intro gb198 hg w47 hbox hb; have n0_ := Aside0.mk (below_step (by repeat (first | (with_reducible first | exact HB.out | apply below_alloc | apply pw_below_drewN | apply below_drew1) | exact HB.out)) hb); have n1_ := Aside0.mk (hbox); have n2_ := Aside0.mk ((by rw [hg]; exact (below_size (by repeat (first | (with_reducible first | exact HB.out | apply below_alloc | apply pw_below_drewN | apply below_drew1) | exact HB.out))) : w.heap.size ≤ gb198)); have n3_ := Aside0.mk ((by rw [hg]; exact (below_size (by repeat (first | (with_reducible first | exact HB.out | apply below_alloc | apply pw_below_drewN | apply below_drew1) | exact HB.out))) : w.heap.size ≤ gb198)); clear HB; have HB := n0_; have BK198 := n1_; have GW198 := n2_; have GE198 := n3_; clear n0_ n1_ n2_ n3_; clear hb hbox hg; have hcz48_0 : w47.cell? ⟨gb198, 0, none⟩ = some (.int .i64 0) := (blk_cell BK198.out 0).trans rfl; have hcz48_1 : w47.cell? ⟨gb198, 1, none⟩ = some (.int .i64 0) := (blk_cell BK198.out 1).trans rfl; have hcz48_2 : w47.cell? ⟨gb198, 2, none⟩ = some (.int .i64 0) := (blk_cell BK198.out 2).trans rfl; have hcz48_3 : w47.cell? ⟨gb198, 3, none⟩ = some (.slice none 0 0) := (blk_cell BK198.out 3).trans rfl; have hfz48_0 := blk_frozen BK198.out 0; have hfz48_1 := blk_frozen BK198.out 1; have hfz48_2 := blk_frozen BK198.out 2; have hfz48_3 := blk_frozen BK198.out 3))
            go_ret
            exact ⟨by first | rfl | (simp [errW_none, errW_some] <;> rfl) | (simp [*, errW_none, errW_some] <;> rfl), by repeat (first | (with_reducible first | exact HB.out | apply below_alloc | apply pw_below_drewN | apply below_drew1 | refine below_set ?_ GE198.out) | exact HB.out)⟩
    · rw [if_neg c5] at H
      exact absurd H (by simp)
  · rw [if_neg c4] at H
    exact absurd H (by simp)

end Go.Proofs.Ytghmkmpgfpkfmaa.X
