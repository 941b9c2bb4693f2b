-- Written for this claim by a program of this session (wip/px.py) with the kit's print; the contracts of GIVEN functions are proved by hand.
import Derived.Test.YtollapjmibkpfaaX0
namespace Go.Proofs.Ytollapjmibkpfaa.X
open Go.RowKit Go.Proofs.YtollapjmibkpfaaW.PrintWords Go.Proofs.YtollapjmibkpfaaW.PrintLast Go.Proofs.YtollapjmibkpfaaW.PrintMore
attribute [local go_sem] max2_int min2_int max_two min_two max_three min_three max_four min_four   -- for this text's walks alone
set_option linter.unusedVariables false
set_option linter.unusedSimpArgs false

/-! ### estoverslaw40_kinds: function 31 -/
def estoverslaw40_kinds.l0 : Nat → List Int → Int → Int → Int → Int → Int → Option (Int × Int × Int × Bool)
  | 0, _, _, _, _, _, _ => none
  | k + 1, x7, x8, x9, x141000, x141001, x141002 => if x9 < x8 then (if 0 ≤ x9 then (if x9 < (x7.length : Int) then (if (rd x7 x9) = 0 then (estoverslaw40_kinds.l0 k x7 x8 (wrap64 (x9 + 1)) (wrap64 (x141000 + 1)) x141001 x141002) else (if (rd x7 x9) = 1 then (estoverslaw40_kinds.l0 k x7 x8 (wrap64 (x9 + 1)) x141000 (wrap64 (x141001 + 1)) x141002) else (if (rd x7 x9) = 2 then (estoverslaw40_kinds.l0 k x7 x8 (wrap64 (x9 + 1)) x141000 x141001 (wrap64 (x141002 + 1))) else (some (x141000, x141001, x141002, false))))) else (none)) else (none)) else (some (x141000, x141001, x141002, true))
def estoverslaw40_kinds.f (k : Nat) (l0 : List Int) : Option (Int × Int × Int × Bool) := estoverslaw40_kinds.l0 k l0 (l0.length : Int) 0 0 0 0
theorem estoverslaw40_kinds.mono_l : ∀ k, (∀ y0 y1 y2 y3 y4 y5, LeO (estoverslaw40_kinds.l0 k y0 y1 y2 y3 y4 y5) (estoverslaw40_kinds.l0 (k + 1) y0 y1 y2 y3 y4 y5))
  | 0 => fun _ _ _ _ _ _ r h => by simp [estoverslaw40_kinds.l0] at h
  | k + 1 => by
    have ih0 := estoverslaw40_kinds.mono_l k
    · intro y0 y1 y2 y3 y4 y5
      unfold estoverslaw40_kinds.l0
      repeat' first
      | (with_reducible exact ih0 _ _ _ _ _ _)
      | (with_reducible exact LeO.refl _)
      | (with_reducible exact LeO.none _)
      | (with_reducible refine LeO.ite ?_ ?_)
      | (with_reducible refine LeO.bind ?_ (fun _ => ?_))
      | exact ih0 _ _ _ _ _ _
      | exact LeO.none _
      | refine LeO.ite ?_ ?_
      | refine LeO.bind ?_ (fun _ => ?_)
theorem estoverslaw40_kinds.mono : ∀ a0 k, LeO (estoverslaw40_kinds.f k a0) (estoverslaw40_kinds.f (k + 1) a0) := by
  intro a0 k
  have ih0 := estoverslaw40_kinds.mono_l k
  unfold estoverslaw40_kinds.f
  repeat' first
      | (with_reducible exact ih0 _ _ _ _ _ _)
      | (with_reducible exact LeO.refl _)
      | (with_reducible exact LeO.none _)
      | (with_reducible refine LeO.ite ?_ ?_)
      | (with_reducible refine LeO.bind ?_ (fun _ => ?_))
      | exact ih0 _ _ _ _ _ _
      | exact LeO.none _
      | refine LeO.ite ?_ ?_
      | refine LeO.bind ?_ (fun _ => ?_)
set_option maxHeartbeats 8000000 in
set_option maxRecDepth 100000 in
theorem estoverslaw40_kinds.calls (k : Nat) (A0 : Option Addr) (c0 : Nat) (l0 : List Int) (r1 : Int) (r2 : Int) (r3 : Int) (r4 : Bool) (w : World) (hr0 : Kd.C (Kd.int .i64) w A0 l0.length l0) (hc0 : l0.length ≤ c0) (h : estoverslaw40_kinds.f k l0 = some (r1, r2, r3, r4)) :
    Calls Try.prog 31 #[.slice A0 l0.length c0] w fun e w' => e = .returned (.tuple #[.agg #[.int .i64 r1, .int .i64 r2, .int .i64 r3], .bool r4]) ∧ Below w.heap.size w w' := by
  have hu44 := Try.underlying44
  have HR0 := Aside0.mk hr0
  have HC0 := Aside0.mk hc0
  clear hr0 hc0
  have HB := Aside0.mk (Below.refl w.heap.size w)
  have H : (estoverslaw40_kinds.l0 k l0 (l0.length : Int) 0 0 0 0) = some (r1, r2, r3, r4) := h
  clear h
  have H' := Aside0.mk H
  clear H
  go_enter Try.func31, Try.ntmps31
  go_wp2_with (first | ((with_reducible refine gate_dst (N := 2) rfl ?_); refine box_event ?hg (N := 2) ?hd (cs := #[.int .i64 0, .int .i64 0, .int .i64 0]) (t := 44) ?hr ?_; (case hd => rfl); (case hg => rfl); (case hr => first | (go_simp; done) | (go_simp; rfl)); intro gb139 hg w2 hbox hb; have n0_ := Aside0.mk (below_step (by repeat (first | (with_reducible first | exact HB.out | apply below_alloc | apply pw_below_drewN | apply below_drew1) | exact HB.out)) hb); have n1_ := Aside0.mk (hbox); have n2_ := Aside0.mk ((by rw [hg]; exact (below_size (by repeat (first | (with_reducible first | exact HB.out | apply below_alloc | apply pw_below_drewN | apply below_drew1) | exact HB.out))) : w.heap.size ≤ gb139)); have n3_ := Aside0.mk ((by rw [hg]; exact (below_size (by repeat (first | (with_reducible first | exact HB.out | apply below_alloc | apply pw_below_drewN | apply below_drew1) | exact HB.out))) : w.heap.size ≤ gb139)); clear HB; have HB := n0_; have BK139 := n1_; have GW139 := n2_; have GE139 := n3_; clear n0_ n1_ n2_ n3_; clear hb hbox hg) | ((with_reducible refine gate_dst (N := 4) rfl ?_); refine box_event ?hg (N := 4) ?hd (cs := #[.int .i64 0, .int .i64 0, .int .i64 0]) (t := 44) ?hr ?_; (case hd => rfl); (case hg => rfl); (case hr => first | (go_simp; done) | (go_simp; rfl)); intro gb140 hg w3 hbox hb; have n0_ := Aside0.mk (blk_below (g := gb139) (o := .cells #[.int .i64 0, .int .i64 0, .int .i64 0] 44 (0, 0)) (by (with_reducible repeat (first | refine blk_drewN ?_ _ | refine blk_drew ?_ | refine blk_alloc ?_ _)); exact BK139.out) hb); have n1_ := Aside0.mk (below_step (by repeat (first | (with_reducible first | exact HB.out | apply below_alloc | apply pw_below_drewN | apply below_drew1 | refine below_set ?_ GE139.out) | exact HB.out)) hb); have n2_ := Aside0.mk (hbox); have n3_ := Aside0.mk ((by rw [hg]; exact (below_size (by repeat (first | (with_reducible first | exact HB.out | apply below_alloc | apply pw_below_drewN | apply below_drew1 | refine below_set ?_ GE139.out) | exact HB.out))) : w.heap.size ≤ gb140)); have n4_ := Aside0.mk ((by rw [hg]; exact (below_size (by repeat (first | (with_reducible first | exact HB.out | apply below_alloc | apply pw_below_drewN | apply below_drew1 | refine below_set ?_ GE139.out) | exact HB.out))) : w.heap.size ≤ gb140)); have n5_ := Aside0.mk ((by rw [hg]; exact Nat.ne_of_lt (blk_lt (g := gb139) (o := .cells #[.int .i64 0, .int .i64 0, .int .i64 0] 44 (0, 0)) (by (with_reducible repeat (first | refine blk_drewN ?_ _ | refine blk_drew ?_ | refine blk_alloc ?_ _)); exact BK139.out)) : gb139 ≠ gb140)); have n6_ := Aside0.mk ((by rw [hg]; exact Nat.ne_of_gt (blk_lt (g := gb139) (o := .cells #[.int .i64 0, .int .i64 0, .int .i64 0] 44 (0, 0)) (by (with_reducible repeat (first | refine blk_drewN ?_ _ | refine blk_drew ?_ | refine blk_alloc ?_ _)); exact BK139.out)) : gb140 ≠ gb139)); clear BK139; clear HB; have BK139 := n0_; have HB := n1_; have BK140 := n2_; have GW140 := n3_; have GE140 := n4_; have NB139_140 := n5_; have NB140_139 := n6_; clear n0_ n1_ n2_ n3_ n4_ n5_ n6_; clear hb hbox hg))
  go_loopg [9] k (fun kq v9 w' => ∃ (x9_1 : Int) (x140000_1 : Int) (x140001_1 : Int) (x140002_1 : Int) (x141000_1 : Int) (x141001_1 : Int) (x141002_1 : Int), v9 = .int .i64 x9_1 ∧ Aside0 (estoverslaw40_kinds.l0 kq l0 (l0.length : Int) x9_1 x141000_1 x141001_1 x141002_1 = some (r1, r2, r3, r4)) ∧ Aside0 (kq ≤ k) ∧ Aside0 (w'.heap[gb139]? = some (.cells #[.int .i64 x140000_1, .int .i64 x140001_1, .int .i64 x140002_1] 44 (0, 0))) ∧ Aside0 (w'.heap[gb140]? = some (.cells #[.int .i64 x141000_1, .int .i64 x141001_1, .int .i64 x141002_1] 44 (0, 0))) ∧ Aside0 (Below w.heap.size w w'))
  case atStart => exact ⟨(0), (0), (0), (0), (0), (0), (0), (by first | rfl | (simp; done) | (simp [*]; done)), H', ⟨Nat.le_refl _⟩, ⟨by (with_reducible repeat (first | refine blk_drewN ?_ _ | refine blk_drew ?_ | refine blk_alloc ?_ _)); exact BK139.out⟩, ⟨by (with_reducible repeat (first | refine blk_drewN ?_ _ | refine blk_drew ?_ | refine blk_alloc ?_ _)); exact BK140.out⟩, ⟨by repeat (first | (with_reducible first | exact HB.out | apply below_alloc | apply pw_below_drewN | apply below_drew1 | refine below_set ?_ GE139.out | refine below_set ?_ GE140.out) | exact HB.out)⟩⟩
  case round =>
    clear H'
    try clear p2
    try clear c3
    obtain ⟨x9_1, x140000_1, x140001_1, x140002_1, x141000_1, x141001_1, x141002_1, rfl, HA, HK1, BK139, BK140, HB⟩ := hrel
    cases gk with
    | zero => exact absurd HA.out (by simp [estoverslaw40_kinds.l0])
    | succ k1 =>
      have H := HA.out
      clear HA
      simp only [estoverslaw40_kinds.l0] at H
      by_cases c4 : x9_1 < (l0.length : Int)
      · rw [if_pos c4] at H
        have c4b0 : decide (x9_1 < (l0.length : Int)) = true := decide_eq_true c4
        clear c4
        by_cases c5 : 0 ≤ x9_1
        · rw [if_pos c5] at H
          have c5b0 : decide (0 ≤ x9_1) = true := decide_eq_true c5
          clear c5
          by_cases c6 : x9_1 < (l0.length : Int)
          · rw [if_pos c6] at H
            have c6b0 : decide (x9_1 < (l0.length : Int)) = true := decide_eq_true c6
            clear c6
            by_cases c7 : (rd l0 x9_1) = 0
            · rw [if_pos c7] at H
              have c7b0 : ((rd l0 x9_1) == 0) = true := beq_iff_eq.mpr c7
              have c7b1 : ((rd l0 x9_1) != 0) = false := bne_eq_false_iff_eq.mpr c7
              clear c7
              have H' := Aside0.mk H
              clear H
              have p141 : 0 ≤ (x9_1 : Int) := of_decide_eq_true (by first | (with_reducible assumption) | assumption)
              have q141 : x9_1 < (l0.length : Int) := of_decide_eq_true (by first | (with_reducible assumption) | assumption)
              obtain ⟨ad141, e141, hx141_0⟩ := Kd.at_int HR0.out x9_1 p141 q141
              cases e141
              replace hx141_0 := (HB.out.cell (World.block_lt_of_cell? w _ hx141_0)).trans hx141_0
              replace p141 := eq_true p141
              replace q141 := eq_true q141
              have hnb8 := NB140_139.out
              have hnc8 := NB139_140.out
              have hcz9_0 : wr.cell? ⟨gb140, 0, none⟩ = some (.int .i64 x141000_1) := (blk_cell BK140.out 0).trans rfl
              have hcz9_1 : wr.cell? ⟨gb140, 1, none⟩ = some (.int .i64 x141001_1) := (blk_cell BK140.out 1).trans rfl
              have hcz9_2 : wr.cell? ⟨gb140, 2, none⟩ = some (.int .i64 x141002_1) := (blk_cell BK140.out 2).trans rfl
              have hfz9_0 := blk_frozen BK140.out 0
              have hfz9_1 := blk_frozen BK140.out 1
              have hfz9_2 := blk_frozen BK140.out 2
              go_wp2
              go_roundg k1
              case measure => have := HK1.out; omega
              case rel => exact ⟨(wrap64 (x9_1 + 1)), (x140000_1), (x140001_1), (x140002_1), (wrap64 (x141000_1 + 1)), (x141001_1), (x141002_1), (by first | rfl | (simp; done) | (simp [*]; done)), H', ⟨by have := HK1.out; omega⟩, ⟨by (with_reducible repeat (first | refine blk_drewN ?_ _ | refine blk_drew ?_ | refine blk_alloc ?_ _)); refine blk_far ?_ NB139_140.out _; (with_reducible repeat (first | refine blk_drewN ?_ _ | refine blk_drew ?_ | refine blk_alloc ?_ _)); exact BK139.out⟩, ⟨by (with_reducible repeat (first | refine blk_drewN ?_ _ | refine blk_drew ?_ | refine blk_alloc ?_ _)); refine blk_put (cs := #[.int .i64 x141000_1, .int .i64 x141001_1, .int .i64 x141002_1]) ?_ 0 _ rfl; (with_reducible repeat (first | refine blk_drewN ?_ _ | refine blk_drew ?_ | refine blk_alloc ?_ _)); exact BK140.out⟩, ⟨by repeat (first | (with_reducible first | exact HB.out | apply below_alloc | apply pw_below_drewN | apply below_drew1 | refine below_set ?_ GE139.out | refine below_set ?_ GE140.out) | exact HB.out)⟩⟩
            · rw [if_neg c7] at H
              have c7b0 : ((rd l0 x9_1) == 0) = false := beq_eq_false_iff_ne.mpr c7
              have c7b1 : ((rd l0 x9_1) != 0) = true := bne_iff_ne.mpr c7
              by_cases c10 : (rd l0 x9_1) = 1
              · rw [if_pos c10] at H
                have c10b0 : ((rd l0 x9_1) == 1) = true := beq_iff_eq.mpr c10
                have c10b1 : ((rd l0 x9_1) != 1) = false := bne_eq_false_iff_eq.mpr c10
                clear c10
                have H' := Aside0.mk H
                clear H
                have p141 : 0 ≤ (x9_1 : Int) := of_decide_eq_true (by first | (with_reducible assumption) | assumption)
                have q141 : x9_1 < (l0.length : Int) := of_decide_eq_true (by first | (with_reducible assumption) | assumption)
                obtain ⟨ad141, e141, hx141_0⟩ := Kd.at_int HR0.out x9_1 p141 q141
                cases e141
                replace hx141_0 := (HB.out.cell (World.block_lt_of_cell? w _ hx141_0)).trans hx141_0
                replace p141 := eq_true p141
                replace q141 := eq_true q141
                have hnb11 := NB140_139.out
                have hnc11 := NB139_140.out
                have hcz12_0 : wr.cell? ⟨gb140, 0, none⟩ = some (.int .i64 x141000_1) := (blk_cell BK140.out 0).trans rfl
                have hcz12_1 : wr.cell? ⟨gb140, 1, none⟩ = some (.int .i64 x141001_1) := (blk_cell BK140.out 1).trans rfl
                have hcz12_2 : wr.cell? ⟨gb140, 2, none⟩ = some (.int .i64 x141002_1) := (blk_cell BK140.out 2).trans rfl
                have hfz12_0 := blk_frozen BK140.out 0
                have hfz12_1 := blk_frozen BK140.out 1
                have hfz12_2 := blk_frozen BK140.out 2
                go_wp2
                go_roundg k1
                case measure => have := HK1.out; omega
                case rel => exact ⟨(wrap64 (x9_1 + 1)), (x140000_1), (x140001_1), (x140002_1), (x141000_1), (wrap64 (x141001_1 + 1)), (x141002_1), (by first | rfl | (simp; done) | (simp [*]; done)), H', ⟨by have := HK1.out; omega⟩, ⟨by (with_reducible repeat (first | refine blk_drewN ?_ _ | refine blk_drew ?_ | refine blk_alloc ?_ _)); refine blk_far ?_ NB139_140.out _; (with_reducible repeat (first | refine blk_drewN ?_ _ | refine blk_drew ?_ | refine blk_alloc ?_ _)); exact BK139.out⟩, ⟨by (with_reducible repeat (first | refine blk_drewN ?_ _ | refine blk_drew ?_ | refine blk_alloc ?_ _)); refine blk_put (cs := #[.int .i64 x141000_1, .int .i64 x141001_1, .int .i64 x141002_1]) ?_ 1 _ rfl; (with_reducible repeat (first | refine blk_drewN ?_ _ | refine blk_drew ?_ | refine blk_alloc ?_ _)); exact BK140.out⟩, ⟨by repeat (first | (with_reducible first | exact HB.out | apply below_alloc | apply pw_below_drewN | apply below_drew1 | refine below_set ?_ GE139.out | refine below_set ?_ GE140.out) | exact HB.out)⟩⟩
              · rw [if_neg c10] at H
                have c10b0 : ((rd l0 x9_1) == 1) = false := beq_eq_false_iff_ne.mpr c10
                have c10b1 : ((rd l0 x9_1) != 1) = true := bne_iff_ne.mpr c10
                by_cases c13 : (rd l0 x9_1) = 2
                · rw [if_pos c13] at H
                  have c13b0 : ((rd l0 x9_1) == 2) = true := beq_iff_eq.mpr c13
                  have c13b1 : ((rd l0 x9_1) != 2) = false := bne_eq_false_iff_eq.mpr c13
                  clear c13
                  have H' := Aside0.mk H
                  clear H
                  have p141 : 0 ≤ (x9_1 : Int) := of_decide_eq_true (by first | (with_reducible assumption) | assumption)
                  have q141 : x9_1 < (l0.length : Int) := of_decide_eq_true (by first | (with_reducible assumption) | assumption)
                  obtain ⟨ad141, e141, hx141_0⟩ := Kd.at_int HR0.out x9_1 p141 q141
                  cases e141
                  replace hx141_0 := (HB.out.cell (World.block_lt_of_cell? w _ hx141_0)).trans hx141_0
                  replace p141 := eq_true p141
                  replace q141 := eq_true q141
                  have hnb14 := NB140_139.out
                  have hnc14 := NB139_140.out
                  have hcz15_0 : wr.cell? ⟨gb140, 0, none⟩ = some (.int .i64 x141000_1) := (blk_cell BK140.out 0).trans rfl
                  have hcz15_1 : wr.cell? ⟨gb140, 1, none⟩ = some (.int .i64 x141001_1) := (blk_cell BK140.out 1).trans rfl
                  have hcz15_2 : wr.cell? ⟨gb140, 2, none⟩ = some (.int .i64 x141002_1) := (blk_cell BK140.out 2).trans rfl
                  have hfz15_0 := blk_frozen BK140.out 0
                  have hfz15_1 := blk_frozen BK140.out 1
                  have hfz15_2 := blk_frozen BK140.out 2
                  go_wp2
                  go_roundg k1
                  case measure => have := HK1.out; omega
                  case rel => exact ⟨(wrap64 (x9_1 + 1)), (x140000_1), (x140001_1), (x140002_1), (x141000_1), (x141001_1), (wrap64 (x141002_1 + 1)), (by first | rfl | (simp; done) | (simp [*]; done)), H', ⟨by have := HK1.out; omega⟩, ⟨by (with_reducible repeat (first | refine blk_drewN ?_ _ | refine blk_drew ?_ | refine blk_alloc ?_ _)); refine blk_far ?_ NB139_140.out _; (with_reducible repeat (first | refine blk_drewN ?_ _ | refine blk_drew ?_ | refine blk_alloc ?_ _)); exact BK139.out⟩, ⟨by (with_reducible repeat (first | refine blk_drewN ?_ _ | refine blk_drew ?_ | refine blk_alloc ?_ _)); refine blk_put (cs := #[.int .i64 x141000_1, .int .i64 x141001_1, .int .i64 x141002_1]) ?_ 2 _ rfl; (with_reducible repeat (first | refine blk_drewN ?_ _ | refine blk_drew ?_ | refine blk_alloc ?_ _)); exact BK140.out⟩, ⟨by repeat (first | (with_reducible first | exact HB.out | apply below_alloc | apply pw_below_drewN | apply below_drew1 | refine below_set ?_ GE139.out | refine below_set ?_ GE140.out) | exact HB.out)⟩⟩
                · rw [if_neg c13] at H
                  have c13b0 : ((rd l0 x9_1) == 2) = false := beq_eq_false_iff_ne.mpr c13
                  have c13b1 : ((rd l0 x9_1) != 2) = true := bne_iff_ne.mpr c13
                  simp only [Option.some.injEq, Prod.mk.injEq] at H
                  obtain ⟨rfl, rfl, rfl, rfl⟩ := H
                  have p141 : 0 ≤ (x9_1 : Int) := of_decide_eq_true (by first | (with_reducible assumption) | assumption)
                  have q141 : x9_1 < (l0.length : Int) := of_decide_eq_true (by first | (with_reducible assumption) | assumption)
                  obtain ⟨ad141, e141, hx141_0⟩ := Kd.at_int HR0.out x9_1 p141 q141
                  cases e141
                  replace hx141_0 := (HB.out.cell (World.block_lt_of_cell? w _ hx141_0)).trans hx141_0
                  replace p141 := eq_true p141
                  replace q141 := eq_true q141
                  have hnb16 := NB140_139.out
                  have hnc16 := NB139_140.out
                  have hcz17_0 : wr.cell? ⟨gb140, 0, none⟩ = some (.int .i64 x141000_1) := (blk_cell BK140.out 0).trans rfl
                  have hcz17_1 : wr.cell? ⟨gb140, 1, none⟩ = some (.int .i64 x141001_1) := (blk_cell BK140.out 1).trans rfl
                  have hcz17_2 : wr.cell? ⟨gb140, 2, none⟩ = some (.int .i64 x141002_1) := (blk_cell BK140.out 2).trans rfl
                  have hfz17_0 := blk_frozen BK140.out 0
                  have hfz17_1 := blk_frozen BK140.out 1
                  have hfz17_2 := blk_frozen BK140.out 2
                  have hcz18_0 : wr.cell? ⟨gb139, 0, none⟩ = some (.int .i64 x140000_1) := (blk_cell BK139.out 0).trans rfl
                  have hcz18_1 : wr.cell? ⟨gb139, 1, none⟩ = some (.int .i64 x140001_1) := (blk_cell BK139.out 1).trans rfl
                  have hcz18_2 : wr.cell? ⟨gb139, 2, none⟩ = some (.int .i64 x140002_1) := (blk_cell BK139.out 2).trans rfl
                  have hfz18_0 := blk_frozen BK139.out 0
                  have hfz18_1 := blk_frozen BK139.out 1
                  have hfz18_2 := blk_frozen BK139.out 2
                  go_wp2
                  refine bodyPost_ret (results_ct rfl _ _ gb139 44 #[.int .i64 x141000_1, .int .i64 x141001_1, .int .i64 x141002_1] (0, 0) _ rfl (by (with_reducible repeat (first | refine blk_drewN ?_ _ | refine blk_drew ?_ | refine blk_alloc ?_ _)); refine blk_put (cs := #[.int .i64 x141000_1, .int .i64 x141001_1, .int .i64 x140002_1]) ?_ 2 _ rfl; (with_reducible repeat (first | refine blk_drewN ?_ _ | refine blk_drew ?_ | refine blk_alloc ?_ _)); refine blk_put (cs := #[.int .i64 x141000_1, .int .i64 x140001_1, .int .i64 x140002_1]) ?_ 1 _ rfl; (with_reducible repeat (first | refine blk_drewN ?_ _ | refine blk_drew ?_ | refine blk_alloc ?_ _)); refine blk_put (cs := #[.int .i64 x140000_1, .int .i64 x140001_1, .int .i64 x140002_1]) ?_ 0 _ rfl; (with_reducible repeat (first | refine blk_drewN ?_ _ | refine blk_drew ?_ | refine blk_alloc ?_ _)); exact BK139.out) Try.underlying44 rfl (by kernel_rfl)) rfl ?_
                  exact ⟨by first | rfl | (simp [errW_none, errW_some] <;> rfl) | (simp [*, errW_none, errW_some] <;> rfl), by repeat (first | (with_reducible first | exact HB.out | apply below_alloc | apply pw_below_drewN | apply below_drew1 | refine below_set ?_ GE139.out | refine below_set ?_ GE140.out) | exact HB.out)⟩
          · rw [if_neg c6] at H
            exact absurd H (by simp)
        · rw [if_neg c5] at H
          exact absurd H (by simp)
      · rw [if_neg c4] at H
        have c4b0 : decide (x9_1 < (l0.length : Int)) = false := decide_eq_false c4
        clear c4
        simp only [Option.some.injEq, Prod.mk.injEq] at H
        obtain ⟨rfl, rfl, rfl, rfl⟩ := H
        have hnb19 := NB140_139.out
        have hnc19 := NB139_140.out
        have hcz20_0 : wr.cell? ⟨gb140, 0, none⟩ = some (.int .i64 x141000_1) := (blk_cell BK140.out 0).trans rfl
        have hcz20_1 : wr.cell? ⟨gb140, 1, none⟩ = some (.int .i64 x141001_1) := (blk_cell BK140.out 1).trans rfl
        have hcz20_2 : wr.cell? ⟨gb140, 2, none⟩ = some (.int .i64 x141002_1) := (blk_cell BK140.out 2).trans rfl
        have hfz20_0 := blk_frozen BK140.out 0
        have hfz20_1 := blk_frozen BK140.out 1
        have hfz20_2 := blk_frozen BK140.out 2
        have hcz21_0 : wr.cell? ⟨gb139, 0, none⟩ = some (.int .i64 x140000_1) := (blk_cell BK139.out 0).trans rfl
        have hcz21_1 : wr.cell? ⟨gb139, 1, none⟩ = some (.int .i64 x140001_1) := (blk_cell BK139.out 1).trans rfl
        have hcz21_2 : wr.cell? ⟨gb139, 2, none⟩ = some (.int .i64 x140002_1) := (blk_cell BK139.out 2).trans rfl
        have hfz21_0 := blk_frozen BK139.out 0
        have hfz21_1 := blk_frozen BK139.out 1
        have hfz21_2 := blk_frozen BK139.out 2
        go_wp2
        refine bodyPost_ret (results_ct rfl _ _ gb139 44 #[.int .i64 x141000_1, .int .i64 x141001_1, .int .i64 x141002_1] (0, 0) _ rfl (by (with_reducible repeat (first | refine blk_drewN ?_ _ | refine blk_drew ?_ | refine blk_alloc ?_ _)); refine blk_put (cs := #[.int .i64 x141000_1, .int .i64 x141001_1, .int .i64 x140002_1]) ?_ 2 _ rfl; (with_reducible repeat (first | refine blk_drewN ?_ _ | refine blk_drew ?_ | refine blk_alloc ?_ _)); refine blk_put (cs := #[.int .i64 x141000_1, .int .i64 x140001_1, .int .i64 x140002_1]) ?_ 1 _ rfl; (with_reducible repeat (first | refine blk_drewN ?_ _ | refine blk_drew ?_ | refine blk_alloc ?_ _)); refine blk_put (cs := #[.int .i64 x140000_1, .int .i64 x140001_1, .int .i64 x140002_1]) ?_ 0 _ rfl; (with_reducible repeat (first | refine blk_drewN ?_ _ | refine blk_drew ?_ | refine blk_alloc ?_ _)); exact BK139.out) Try.underlying44 rfl (by kernel_rfl)) rfl ?_
        exact ⟨by first | rfl | (simp [errW_none, errW_some] <;> rfl) | (simp [*, errW_none, errW_some] <;> rfl), by repeat (first | (with_reducible first | exact HB.out | apply below_alloc | apply pw_below_drewN | apply below_drew1 | refine below_set ?_ GE139.out | refine below_set ?_ GE140.out) | exact HB.out)⟩

end Go.Proofs.Ytollapjmibkpfaa.X
