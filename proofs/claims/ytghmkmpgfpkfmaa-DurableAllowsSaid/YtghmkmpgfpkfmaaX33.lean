-- Written for this claim by a program of this session (wip/px.py) with the kit's print; the contracts of GIVEN functions are proved by hand.
import Derived.Test.YtghmkmpgfpkfmaaX0
import Derived.Test.YtghmkmpgfpkfmaaX24
namespace Go.Proofs.Ytghmkmpgfpkfmaa.X
open Go.RowKit Go.Proofs.YtghmkmpgfpkfmaaW.PrintWords Go.Proofs.YtghmkmpgfpkfmaaW.PrintLast Go.Proofs.YtghmkmpgfpkfmaaW.PrintMore
attribute [local go_sem] max2_int min2_int max_two min_two max_three min_three max_four min_four   -- for this text's walks alone
set_option linter.unusedVariables false
set_option linter.unusedSimpArgs false

/-! ### estoversref11_last: function 58 -/
def estoversref11_last.l0 : Nat → List (S38) → Int → Int → Option (List Int × Bool)
  | 0, _, _, _ => none
  | k + 1, x0, x2, x8 => if x8 ≥ 0 then (if 0 ≤ x8 then (if x8 < (x0.length : Int) then (if ((rd_T38 x0 x8).f0) = 2 then ((estoversref11_submitted.f k x0 x8 ((rd_T38 x0 x8).f1)).bind fun t224 => (if 0 ≤ t224 then (if t224 < (x0.length : Int) then (if ((rd_T38 x0 t224).f2) = x2 then (some ((rd_T38 x0 t224).f3, true)) else (estoversref11_last.l0 k x0 x2 (wrap64 (x8 - 1)))) else (none)) else (none))) else (estoversref11_last.l0 k x0 x2 (wrap64 (x8 - 1)))) else (none)) else (none)) else (some (([] : List Int), false))
def estoversref11_last.f (k : Nat) (l0 : List (S38)) (a1 : Int) (a2 : Int) : Option (List Int × Bool) := estoversref11_last.l0 k l0 a2 (wrap64 (a1 - 1))
theorem estoversref11_last.mono_l : ∀ k, (∀ y0 y1 y2, LeO (estoversref11_last.l0 k y0 y1 y2) (estoversref11_last.l0 (k + 1) y0 y1 y2))
  | 0 => fun _ _ _ r h => by simp [estoversref11_last.l0] at h
  | k + 1 => by
    have ih0 := estoversref11_last.mono_l k
    · intro y0 y1 y2
      unfold estoversref11_last.l0
      repeat' first
      | (with_reducible exact ih0 _ _ _)
      | (with_reducible exact estoversref11_submitted.mono _ _ _ _)
      | (with_reducible exact LeO.refl _)
      | (with_reducible exact LeO.none _)
      | (with_reducible refine LeO.ite ?_ ?_)
      | (with_reducible refine LeO.bind ?_ (fun _ => ?_))
      | exact ih0 _ _ _
      | exact estoversref11_submitted.mono _ _ _ _
      | exact LeO.none _
      | refine LeO.ite ?_ ?_
      | refine LeO.bind ?_ (fun _ => ?_)
theorem estoversref11_last.mono : ∀ a0 a1 a2 k, LeO (estoversref11_last.f k a0 a1 a2) (estoversref11_last.f (k + 1) a0 a1 a2) := by
  intro a0 a1 a2 k
  have ih0 := estoversref11_last.mono_l k
  unfold estoversref11_last.f
  repeat' first
      | (with_reducible exact ih0 _ _ _)
      | (with_reducible exact estoversref11_submitted.mono _ _ _ _)
      | (with_reducible exact LeO.refl _)
      | (with_reducible exact LeO.none _)
      | (with_reducible refine LeO.ite ?_ ?_)
      | (with_reducible refine LeO.bind ?_ (fun _ => ?_))
      | exact ih0 _ _ _
      | exact estoversref11_submitted.mono _ _ _ _
      | exact LeO.none _
      | refine LeO.ite ?_ ?_
      | refine LeO.bind ?_ (fun _ => ?_)
set_option maxHeartbeats 8000000 in
set_option maxRecDepth 100000 in
theorem estoversref11_last.calls (k : Nat) (P0_ : Nat → Prop) (A0 : Option Addr) (c0 : Nat) (l0 : List (S38)) (a1 : Int) (a2 : Int) (r1 : List Int) (r2 : Bool) (w : World) (hs0 : Kd.V k38 38 w w.heap.size (fun k_ => P0_ k_) (.slice A0 l0.length c0) l0) (h : estoversref11_last.f k l0 a1 a2 = some (r1, r2)) :
    Calls Try.prog 58 #[.slice A0 l0.length c0, .int .i64 a1, .int .i64 a2] w fun e w' => ∃ v0_ : Value, e = .returned (.tuple #[v0_, .bool r2]) ∧ Kd.V (Kd.int .u8) 5 w' w.heap.size (fun k_ => (P0_ k_ ∨ w.heap.size ≤ k_)) v0_ r1 ∧ Below w.heap.size w w' := by
  have hu38 := Try.underlying38
  have HO0 := Aside0.mk (show Kd.V k38 38 w w.heap.size (fun k_ => (P0_ k_ ∨ w.heap.size ≤ k_)) (.slice A0 l0.length c0) l0 from Kd.V_mono hs0 (fun k_ hk => .inl hk))
  have HB := Aside0.mk (Below.refl w.heap.size w)
  have H : (estoversref11_last.l0 k l0 a2 (wrap64 (a1 - 1))) = some (r1, r2) := h
  clear h
  have H' := Aside0.mk H
  clear H
  go_enter Try.func58, Try.ntmps58
  go_wp2
  go_loopg [8] k (fun kq v8 w' => ∃ (x8_1 : Int), v8 = .int .i64 x8_1 ∧ Aside0 (estoversref11_last.l0 kq l0 a2 x8_1 = some (r1, r2)) ∧ Aside0 (kq ≤ k) ∧ Aside0 (Kd.V k38 38 w' w.heap.size (fun k_ => (P0_ k_ ∨ w.heap.size ≤ k_)) (.slice A0 l0.length c0) l0) ∧ Aside0 (Below w.heap.size w w'))
  case atStart => exact ⟨(wrap64 (a1 - 1)), (by first | rfl | (simp; done) | (simp [*]; done)), H', ⟨Nat.le_refl _⟩, ⟨by (with_reducible repeat (first | apply Kd.V_alloc | apply Kd.V_drewN | apply Kd.V_drew)); exact HO0.out⟩, ⟨by repeat (first | (with_reducible first | exact HB.out | apply below_alloc | apply pw_below_drewN | apply below_drew1) | exact HB.out)⟩⟩
  case round =>
    clear H'
    try clear p2
    obtain ⟨x8_1, rfl, HA, HK1, HO_0, HB⟩ := hrel
    cases gk with
    | zero => exact absurd HA.out (by simp [estoversref11_last.l0])
    | succ k1 =>
      have H := HA.out
      clear HA
      simp only [estoversref11_last.l0] at H
      by_cases c4 : x8_1 ≥ 0
      · rw [if_pos c4] at H
        have c4b0 : decide (0 ≤ x8_1) = true := decide_eq_true c4
        clear c4
        by_cases c5 : 0 ≤ x8_1
        · rw [if_pos c5] at H
          have c5b0 : decide (0 ≤ x8_1) = true := decide_eq_true c5
          clear c5
          by_cases c6 : x8_1 < (l0.length : Int)
          · rw [if_pos c6] at H
            have c6b0 : decide (x8_1 < (l0.length : Int)) = true := decide_eq_true c6
            clear c6
            by_cases c7 : ((rd_T38 l0 x8_1).f0) = 2
            · rw [if_pos c7] at H
              have c7b0 : (((rd_T38 l0 x8_1).f0) == 2) = true := beq_iff_eq.mpr c7
              have c7b1 : (((rd_T38 l0 x8_1).f0) != 2) = false := bne_eq_false_iff_eq.mpr c7
              clear c7
              replace H := Option.bind_eq_some_iff.mp H
              obtain ⟨t224, A80, H⟩ := H
              replace H : (if 0 ≤ t224 then (if t224 < (l0.length : Int) then (if ((rd_T38 l0 t224).f2) = a2 then (some ((rd_T38 l0 t224).f3, true)) else (estoversref11_last.l0 k1 l0 a2 (wrap64 (x8_1 - 1)))) else (none)) else (none)) = some (r1, r2) := H
              have A8 := Aside0.mk A80
              clear A80
              by_cases c9 : 0 ≤ t224
              · rw [if_pos c9] at H
                have c9b0 : decide (0 ≤ t224) = true := decide_eq_true c9
                clear c9
                by_cases c10 : t224 < (l0.length : Int)
                · rw [if_pos c10] at H
                  have c10b0 : decide (t224 < (l0.length : Int)) = true := decide_eq_true c10
                  clear c10
                  by_cases c11 : ((rd_T38 l0 t224).f2) = a2
                  · rw [if_pos c11] at H
                    have c11b0 : (((rd_T38 l0 t224).f2) == a2) = true := beq_iff_eq.mpr c11
                    have c11b1 : (((rd_T38 l0 t224).f2) != a2) = false := bne_eq_false_iff_eq.mpr c11
                    clear c11
                    simp only [Option.some.injEq, Prod.mk.injEq] at H
                    obtain ⟨rfl, rfl⟩ := H
                    have p222 : 0 ≤ (x8_1 : Int) := of_decide_eq_true (by first | (with_reducible assumption) | assumption)
                    have q222 : x8_1 < (l0.length : Int) := of_decide_eq_true (by first | (with_reducible assumption) | assumption)
                    obtain ⟨ad222, A222_3, c222_3, e222, hx222_0, hx222_1, hx222_2, hx222_3, hl222_3, hi222_3⟩ := at_T38 (Kd.V_reads' HO_0.out).2.2 x8_1 p222 q222
                    cases e222
                    obtain ⟨ce222, hce222, hMe222, hcc222⟩ := Kd.V_get HO_0.out z38 x8_1 p222 (by first | exact q222 | exact of_decide_eq_true (by first | (with_reducible assumption) | assumption) | (have e_ := (Kd.V_reads' HO_0.out).1; omega))
                    obtain ⟨ua222_3, uc222_3, rfl, ul222_3, ge222_3⟩ := k38_openF hMe222
                    have hv222_3 := hcc222 3 _ rfl
                    rw [add_field _ _ 3 (by omega)] at hv222_3
                    replace hv222_3 := Option.some.inj (hv222_3.symm.trans hx222_3)
                    injection hv222_3 with hva_ hvn_ hvc_
                    rw [hva_] at ge222_3
                    rw [hvc_] at ul222_3
                    have HL222_3 := Aside0.mk (show Kd.V (Kd.int .u8) 5 _ w.heap.size _ _ ((rd_T38 l0 x8_1).f3) from Kd.V_mk ul222_3 ge222_3)
                    clear hva_ hvn_ hvc_ ge222_3 ul222_3
                    clear hcc222 hce222
                    have HR222_3 := Aside0.mk hi222_3
                    have HC222_3 := Aside0.mk hl222_3
                    clear hi222_3 hl222_3
                    replace p222 := eq_true p222
                    replace q222 := eq_true q222
                    have p223 : 0 ≤ (x8_1 : Int) := of_decide_eq_true (by first | (with_reducible assumption) | assumption)
                    have q223 : x8_1 < (l0.length : Int) := of_decide_eq_true (by first | (with_reducible assumption) | assumption)
                    obtain ⟨ad223, A223_3, c223_3, e223, hx223_0, hx223_1, hx223_2, hx223_3, hl223_3, hi223_3⟩ := at_T38 (Kd.V_reads' HO_0.out).2.2 x8_1 p223 q223
                    obtain rfl : ad222 = ad223 := (by injection e223)
                    obtain ⟨ce223, hce223, hMe223, hcc223⟩ := Kd.V_get HO_0.out z38 x8_1 p223 (by first | exact q223 | exact of_decide_eq_true (by first | (with_reducible assumption) | assumption) | (have e_ := (Kd.V_reads' HO_0.out).1; omega))
                    obtain ⟨ua223_3, uc223_3, rfl, ul223_3, ge223_3⟩ := k38_openF hMe223
                    have hv223_3 := hcc223 3 _ rfl
                    rw [add_field _ _ 3 (by omega)] at hv223_3
                    replace hv223_3 := Option.some.inj (hv223_3.symm.trans hx223_3)
                    injection hv223_3 with hva_ hvn_ hvc_
                    rw [hva_] at ge223_3
                    rw [hvc_] at ul223_3
                    have HL223_3 := Aside0.mk (show Kd.V (Kd.int .u8) 5 _ w.heap.size _ _ ((rd_T38 l0 x8_1).f3) from Kd.V_mk ul223_3 ge223_3)
                    clear hva_ hvn_ hvc_ ge223_3 ul223_3
                    clear hcc223 hce223
                    have HR223_3 := Aside0.mk hi223_3
                    have HC223_3 := Aside0.mk hl223_3
                    clear hi223_3 hl223_3
                    replace p223 := eq_true p223
                    replace q223 := eq_true q223
                    have ea_ := Option.some.inj (hx222_3.symm.trans hx223_3)
                    injection ea_ with ea_ en_ ec_
                    subst ea_
                    subst ec_
                    clear en_
                    go_wp2_with (first | ((with_reducible refine gate_callee (f := 39) rfl ?_); refine goesL_ (some 30) rfl rfl Try.func39 (by kernel_rfl) rfl #[.slice (some ad222) l0.length c0, .int .i64 x8_1, .int .i64 ((rd_T38 l0 x8_1).f1)] rfl (by (try simp only [List.map_toArray, List.map_cons, List.map_nil]); first | done | rfl | (simp only [List.length_drop, List.length_take]; rfl)) ?_; (with_reducible refine (estoversref11_submitted.calls k1 _ _ l0 x8_1 ((rd_T38 l0 x8_1).f1) t224 _ ?side1 ?side2 A8.out).mono ?_); (case side1 => repeat (first | exact (Kd.V_reads' HO_0.out).2.2 | (with_reducible refine Kd.C_alloc ?_ _) | (with_reducible refine Kd.C_drewN ?_ _) | (with_reducible refine Kd.C_drew ?_))); (case side2 => exact (Kd.V_reads' HO_0.out).2.1); rintro e w' ⟨rfl, ⟨nd, rfl⟩⟩; refine ⟨_, rfl, ?_⟩; (try (rw [drewN_self wr]; generalize hq_ : World.drewN wr _ = wr; have n0_ : Aside0 (Kd.V (Kd.int .u8) 5 wr w.heap.size (fun k_ => (P0_ k_ ∨ w.heap.size ≤ k_)) (.slice A222_3 ((rd_T38 l0 x8_1).f3).length c222_3) ((rd_T38 l0 x8_1).f3)) := ⟨by rw [← hq_]; exact (by (with_reducible repeat (first | apply Kd.V_alloc | apply Kd.V_drewN | apply Kd.V_drew)); exact HL222_3.out)⟩; have n1_ : Aside0 (Kd.V (Kd.int .u8) 5 wr w.heap.size (fun k_ => (P0_ k_ ∨ w.heap.size ≤ k_)) (.slice A222_3 ((rd_T38 l0 x8_1).f3).length c222_3) ((rd_T38 l0 x8_1).f3)) := ⟨by rw [← hq_]; exact (by (with_reducible repeat (first | apply Kd.V_alloc | apply Kd.V_drewN | apply Kd.V_drew)); exact HL223_3.out)⟩; have n2_ : Aside0 (Kd.V k38 38 wr w.heap.size (fun k_ => (P0_ k_ ∨ w.heap.size ≤ k_)) (.slice (some ad222) l0.length c0) l0) := ⟨by rw [← hq_]; exact (by (with_reducible repeat (first | apply Kd.V_alloc | apply Kd.V_drewN | apply Kd.V_drew)); exact HO_0.out)⟩; have n3_ : Aside0 (Below w.heap.size w wr) := ⟨by rw [← hq_]; exact (by repeat (first | (with_reducible first | exact HB.out | apply below_alloc | apply pw_below_drewN | apply below_drew1) | exact HB.out))⟩; have n4_ : Aside0 (Kd.C (Kd.int .u8) wr A222_3 ((rd_T38 l0 x8_1).f3).length ((rd_T38 l0 x8_1).f3)) := ⟨by rw [← hq_]; exact (by repeat (first | (with_reducible exact HR222_3.out) | (with_reducible refine Kd.C_alloc ?_ _) | (with_reducible refine Kd.C_drewN ?_ _) | (with_reducible refine Kd.C_drew ?_) | exact HR222_3.out))⟩; have n5_ : Aside0 (Kd.C (Kd.int .u8) wr A222_3 ((rd_T38 l0 x8_1).f3).length ((rd_T38 l0 x8_1).f3)) := ⟨by rw [← hq_]; exact (by repeat (first | (with_reducible exact HR223_3.out) | (with_reducible refine Kd.C_alloc ?_ _) | (with_reducible refine Kd.C_drewN ?_ _) | (with_reducible refine Kd.C_drew ?_) | exact HR223_3.out))⟩; clear HL222_3 HL223_3 HO_0 HB HR222_3 HR223_3 hq_; have HL222_3 := n0_; have HL223_3 := n1_; have HO_0 := n2_; have HB := n3_; have HR222_3 := n4_; have HR223_3 := n5_; clear n0_ n1_ n2_ n3_ n4_ n5_)); have p225 : 0 ≤ (t224 : Int) := of_decide_eq_true (by first | (with_reducible assumption) | assumption); have q225 : t224 < (l0.length : Int) := of_decide_eq_true (by first | (with_reducible assumption) | assumption); obtain ⟨ad225, A225_3, c225_3, e225, hx225_0, hx225_1, hx225_2, hx225_3, hl225_3, hi225_3⟩ := at_T38 (Kd.V_reads' HO_0.out).2.2 t224 p225 q225; obtain rfl : ad222 = ad225 := (by injection e225); obtain ⟨ce225, hce225, hMe225, hcc225⟩ := Kd.V_get HO_0.out z38 t224 p225 (by first | exact q225 | exact of_decide_eq_true (by first | (with_reducible assumption) | assumption) | (have e_ := (Kd.V_reads' HO_0.out).1; omega)); obtain ⟨ua225_3, uc225_3, rfl, ul225_3, ge225_3⟩ := k38_openF hMe225; have hv225_3 := hcc225 3 _ rfl; rw [add_field _ _ 3 (by omega)] at hv225_3; replace hv225_3 := Option.some.inj (hv225_3.symm.trans hx225_3); injection hv225_3 with hva_ hvn_ hvc_; rw [hva_] at ge225_3; rw [hvc_] at ul225_3; have HL225_3 := Aside0.mk (show Kd.V (Kd.int .u8) 5 _ w.heap.size _ _ ((rd_T38 l0 t224).f3) from Kd.V_mk ul225_3 ge225_3); clear hva_ hvn_ hvc_ ge225_3 ul225_3; clear hcc225 hce225; have HR225_3 := Aside0.mk hi225_3; have HC225_3 := Aside0.mk hl225_3; clear hi225_3 hl225_3; replace p225 := eq_true p225; replace q225 := eq_true q225) | ((with_reducible refine gate_dst (N := 9) rfl ?_); refine box_event ?hg (N := 9) ?hd (cs := #[.int .i64 0, .int .i64 0, .int .i64 0, .slice none 0 0]) (t := 38) ?hr ?_; (case hd => rfl); (case hg => rfl); (case hr => first | (go_simp; done) | (go_simp; rfl)); intro gb226 hg w12 hbox hb; have n0_ := Aside0.mk (Kd.V_below (Kd.V_elderB (by (with_reducible repeat (first | apply Kd.V_alloc | apply Kd.V_drewN | apply Kd.V_drew)); exact HO_0.out) gb226 (Nat.le_of_eq hg.symm)) hb); have n1_ := Aside0.mk (Kd.V_below (Kd.V_elderB (by (with_reducible repeat (first | apply Kd.V_alloc | apply Kd.V_drewN | apply Kd.V_drew)); exact HL222_3.out) gb226 (Nat.le_of_eq hg.symm)) hb); have n2_ := Aside0.mk (Kd.V_below (Kd.V_elderB (by (with_reducible repeat (first | apply Kd.V_alloc | apply Kd.V_drewN | apply Kd.V_drew)); exact HL223_3.out) gb226 (Nat.le_of_eq hg.symm)) hb); have n3_ := Aside0.mk (Kd.V_below (Kd.V_elderB (by (with_reducible repeat (first | apply Kd.V_alloc | apply Kd.V_drewN | apply Kd.V_drew)); exact HL225_3.out) gb226 (Nat.le_of_eq hg.symm)) hb); have n4_ := Aside0.mk (Kd.C_below (by repeat (first | (with_reducible exact HR222_3.out) | (with_reducible refine Kd.C_alloc ?_ _) | (with_reducible refine Kd.C_drewN ?_ _) | (with_reducible refine Kd.C_drew ?_) | exact HR222_3.out)) hb); have n5_ := Aside0.mk (Kd.C_below (by repeat (first | (with_reducible exact HR223_3.out) | (with_reducible refine Kd.C_alloc ?_ _) | (with_reducible refine Kd.C_drewN ?_ _) | (with_reducible refine Kd.C_drew ?_) | exact HR223_3.out)) hb); have n6_ := Aside0.mk (Kd.C_below (by repeat (first | (with_reducible exact HR225_3.out) | (with_reducible refine Kd.C_alloc ?_ _) | (with_reducible refine Kd.C_drewN ?_ _) | (with_reducible refine Kd.C_drew ?_) | exact HR225_3.out)) hb); have n7_ := Aside0.mk (below_step (by repeat (first | (with_reducible first | exact HB.out | apply below_alloc | apply pw_below_drewN | apply below_drew1) | exact HB.out)) hb); have n8_ := Aside0.mk (hbox); have n9_ := Aside0.mk ((by rw [hg]; exact (below_size (by repeat (first | (with_reducible first | exact HB.out | apply below_alloc | apply pw_below_drewN | apply below_drew1) | exact HB.out))) : w.heap.size ≤ gb226)); have n10_ := Aside0.mk ((by rw [hg]; exact (below_size (by repeat (first | (with_reducible first | exact HB.out | apply below_alloc | apply pw_below_drewN | apply below_drew1) | exact HB.out))) : w.heap.size ≤ gb226)); clear HO_0; clear HL222_3; clear HL223_3; clear HL225_3; clear HR222_3; clear HR223_3; clear HR225_3; clear HB; have HO_0 := n0_; have HL222_3 := n1_; have HL223_3 := n2_; have HL225_3 := n3_; have HR222_3 := n4_; have HR223_3 := n5_; have HR225_3 := n6_; have HB := n7_; have BK226 := n8_; have GW226 := n9_; have GE226 := n10_; clear n0_ n1_ n2_ n3_ n4_ n5_ n6_ n7_ n8_ n9_ n10_; clear hb hbox hg; have hcz13_0 : w12.cell? ⟨gb226, 0, none⟩ = some (.int .i64 0) := (blk_cell BK226.out 0).trans rfl; have hcz13_1 : w12.cell? ⟨gb226, 1, none⟩ = some (.int .i64 0) := (blk_cell BK226.out 1).trans rfl; have hcz13_2 : w12.cell? ⟨gb226, 2, none⟩ = some (.int .i64 0) := (blk_cell BK226.out 2).trans rfl; have hcz13_3 : w12.cell? ⟨gb226, 3, none⟩ = some (.slice none 0 0) := (blk_cell BK226.out 3).trans rfl; have hfz13_0 := blk_frozen BK226.out 0; have hfz13_1 := blk_frozen BK226.out 1; have hfz13_2 := blk_frozen BK226.out 2; have hfz13_3 := blk_frozen BK226.out 3))
                    go_ret2
                    exact ⟨_, by first | rfl | (simp [errW_none, errW_some] <;> rfl) | (simp [*, errW_none, errW_some] <;> rfl), by (with_reducible repeat (first | apply Kd.V_alloc | apply Kd.V_drewN | apply Kd.V_drew)); exact Kd.V_mono (Kd.V_far (p := ⟨gb226, 3, none⟩) (Kd.V_far (p := ⟨gb226, 2, none⟩) (Kd.V_far (p := ⟨gb226, 1, none⟩) (Kd.V_far (p := ⟨gb226, 0, none⟩) (Kd.V_mono HL225_3.out (fun k_ hk => (⟨hk, hk.2⟩ : _ ∧ k_ ≠ gb226))) (fun _ hk => hk.2) (.int .i64 ((rd_T38 l0 t224).f0))) (fun _ hk => hk.2) (.int .i64 ((rd_T38 l0 t224).f1))) (fun _ hk => hk.2) (.int .i64 ((rd_T38 l0 t224).f2))) (fun _ hk => hk.2) (.slice A225_3 ((rd_T38 l0 t224).f3).length c225_3)) (fun _ hk => hk.1.1), by repeat (first | (with_reducible first | exact HB.out | apply below_alloc | apply pw_below_drewN | apply below_drew1 | refine below_set ?_ GE226.out) | exact HB.out)⟩
                  · rw [if_neg c11] at H
                    have c11b0 : (((rd_T38 l0 t224).f2) == a2) = false := beq_eq_false_iff_ne.mpr c11
                    have c11b1 : (((rd_T38 l0 t224).f2) != a2) = true := bne_iff_ne.mpr c11
                    have H' := Aside0.mk H
                    clear H
                    have p222 : 0 ≤ (x8_1 : Int) := of_decide_eq_true (by first | (with_reducible assumption) | assumption)
                    have q222 : x8_1 < (l0.length : Int) := of_decide_eq_true (by first | (with_reducible assumption) | assumption)
                    obtain ⟨ad222, A222_3, c222_3, e222, hx222_0, hx222_1, hx222_2, hx222_3, hl222_3, hi222_3⟩ := at_T38 (Kd.V_reads' HO_0.out).2.2 x8_1 p222 q222
                    cases e222
                    obtain ⟨ce222, hce222, hMe222, hcc222⟩ := Kd.V_get HO_0.out z38 x8_1 p222 (by first | exact q222 | exact of_decide_eq_true (by first | (with_reducible assumption) | assumption) | (have e_ := (Kd.V_reads' HO_0.out).1; omega))
                    obtain ⟨ua222_3, uc222_3, rfl, ul222_3, ge222_3⟩ := k38_openF hMe222
                    have hv222_3 := hcc222 3 _ rfl
                    rw [add_field _ _ 3 (by omega)] at hv222_3
                    replace hv222_3 := Option.some.inj (hv222_3.symm.trans hx222_3)
                    injection hv222_3 with hva_ hvn_ hvc_
                    rw [hva_] at ge222_3
                    rw [hvc_] at ul222_3
                    have HL222_3 := Aside0.mk (show Kd.V (Kd.int .u8) 5 _ w.heap.size _ _ ((rd_T38 l0 x8_1).f3) from Kd.V_mk ul222_3 ge222_3)
                    clear hva_ hvn_ hvc_ ge222_3 ul222_3
                    clear hcc222 hce222
                    have HR222_3 := Aside0.mk hi222_3
                    have HC222_3 := Aside0.mk hl222_3
                    clear hi222_3 hl222_3
                    replace p222 := eq_true p222
                    replace q222 := eq_true q222
                    have p223 : 0 ≤ (x8_1 : Int) := of_decide_eq_true (by first | (with_reducible assumption) | assumption)
                    have q223 : x8_1 < (l0.length : Int) := of_decide_eq_true (by first | (with_reducible assumption) | assumption)
                    obtain ⟨ad223, A223_3, c223_3, e223, hx223_0, hx223_1, hx223_2, hx223_3, hl223_3, hi223_3⟩ := at_T38 (Kd.V_reads' HO_0.out).2.2 x8_1 p223 q223
                    obtain rfl : ad222 = ad223 := (by injection e223)
                    obtain ⟨ce223, hce223, hMe223, hcc223⟩ := Kd.V_get HO_0.out z38 x8_1 p223 (by first | exact q223 | exact of_decide_eq_true (by first | (with_reducible assumption) | assumption) | (have e_ := (Kd.V_reads' HO_0.out).1; omega))
                    obtain ⟨ua223_3, uc223_3, rfl, ul223_3, ge223_3⟩ := k38_openF hMe223
                    have hv223_3 := hcc223 3 _ rfl
                    rw [add_field _ _ 3 (by omega)] at hv223_3
                    replace hv223_3 := Option.some.inj (hv223_3.symm.trans hx223_3)
                    injection hv223_3 with hva_ hvn_ hvc_
                    rw [hva_] at ge223_3
                    rw [hvc_] at ul223_3
                    have HL223_3 := Aside0.mk (show Kd.V (Kd.int .u8) 5 _ w.heap.size _ _ ((rd_T38 l0 x8_1).f3) from Kd.V_mk ul223_3 ge223_3)
                    clear hva_ hvn_ hvc_ ge223_3 ul223_3
                    clear hcc223 hce223
                    have HR223_3 := Aside0.mk hi223_3
                    have HC223_3 := Aside0.mk hl223_3
                    clear hi223_3 hl223_3
                    replace p223 := eq_true p223
                    replace q223 := eq_true q223
                    have ea_ := Option.some.inj (hx222_3.symm.trans hx223_3)
                    injection ea_ with ea_ en_ ec_
                    subst ea_
                    subst ec_
                    clear en_
                    go_wp2_with (first | ((with_reducible refine gate_callee (f := 39) rfl ?_); refine goesL_ (some 30) rfl rfl Try.func39 (by kernel_rfl) rfl #[.slice (some ad222) l0.length c0, .int .i64 x8_1, .int .i64 ((rd_T38 l0 x8_1).f1)] rfl (by (try simp only [List.map_toArray, List.map_cons, List.map_nil]); first | done | rfl | (simp only [List.length_drop, List.length_take]; rfl)) ?_; (with_reducible refine (estoversref11_submitted.calls k1 _ _ l0 x8_1 ((rd_T38 l0 x8_1).f1) t224 _ ?side1 ?side2 A8.out).mono ?_); (case side1 => repeat (first | exact (Kd.V_reads' HO_0.out).2.2 | (with_reducible refine Kd.C_alloc ?_ _) | (with_reducible refine Kd.C_drewN ?_ _) | (with_reducible refine Kd.C_drew ?_))); (case side2 => exact (Kd.V_reads' HO_0.out).2.1); rintro e w' ⟨rfl, ⟨nd, rfl⟩⟩; refine ⟨_, rfl, ?_⟩; (try (rw [drewN_self wr]; generalize hq_ : World.drewN wr _ = wr; have n0_ : Aside0 (Kd.V (Kd.int .u8) 5 wr w.heap.size (fun k_ => (P0_ k_ ∨ w.heap.size ≤ k_)) (.slice A222_3 ((rd_T38 l0 x8_1).f3).length c222_3) ((rd_T38 l0 x8_1).f3)) := ⟨by rw [← hq_]; exact (by (with_reducible repeat (first | apply Kd.V_alloc | apply Kd.V_drewN | apply Kd.V_drew)); exact HL222_3.out)⟩; have n1_ : Aside0 (Kd.V (Kd.int .u8) 5 wr w.heap.size (fun k_ => (P0_ k_ ∨ w.heap.size ≤ k_)) (.slice A222_3 ((rd_T38 l0 x8_1).f3).length c222_3) ((rd_T38 l0 x8_1).f3)) := ⟨by rw [← hq_]; exact (by (with_reducible repeat (first | apply Kd.V_alloc | apply Kd.V_drewN | apply Kd.V_drew)); exact HL223_3.out)⟩; have n2_ : Aside0 (Kd.V k38 38 wr w.heap.size (fun k_ => (P0_ k_ ∨ w.heap.size ≤ k_)) (.slice (some ad222) l0.length c0) l0) := ⟨by rw [← hq_]; exact (by (with_reducible repeat (first | apply Kd.V_alloc | apply Kd.V_drewN | apply Kd.V_drew)); exact HO_0.out)⟩; have n3_ : Aside0 (Below w.heap.size w wr) := ⟨by rw [← hq_]; exact (by repeat (first | (with_reducible first | exact HB.out | apply below_alloc | apply pw_below_drewN | apply below_drew1) | exact HB.out))⟩; have n4_ : Aside0 (Kd.C (Kd.int .u8) wr A222_3 ((rd_T38 l0 x8_1).f3).length ((rd_T38 l0 x8_1).f3)) := ⟨by rw [← hq_]; exact (by repeat (first | (with_reducible exact HR222_3.out) | (with_reducible refine Kd.C_alloc ?_ _) | (with_reducible refine Kd.C_drewN ?_ _) | (with_reducible refine Kd.C_drew ?_) | exact HR222_3.out))⟩; have n5_ : Aside0 (Kd.C (Kd.int .u8) wr A222_3 ((rd_T38 l0 x8_1).f3).length ((rd_T38 l0 x8_1).f3)) := ⟨by rw [← hq_]; exact (by repeat (first | (with_reducible exact HR223_3.out) | (with_reducible refine Kd.C_alloc ?_ _) | (with_reducible refine Kd.C_drewN ?_ _) | (with_reducible refine Kd.C_drew ?_) | exact HR223_3.out))⟩; clear HL222_3 HL223_3 HO_0 HB HR222_3 HR223_3 hq_; have HL222_3 := n0_; have HL223_3 := n1_; have HO_0 := n2_; have HB := n3_; have HR222_3 := n4_; have HR223_3 := n5_; clear n0_ n1_ n2_ n3_ n4_ n5_)); have p225 : 0 ≤ (t224 : Int) := of_decide_eq_true (by first | (with_reducible assumption) | assumption); have q225 : t224 < (l0.length : Int) := of_decide_eq_true (by first | (with_reducible assumption) | assumption); obtain ⟨ad225, A225_3, c225_3, e225, hx225_0, hx225_1, hx225_2, hx225_3, hl225_3, hi225_3⟩ := at_T38 (Kd.V_reads' HO_0.out).2.2 t224 p225 q225; obtain rfl : ad222 = ad225 := (by injection e225); obtain ⟨ce225, hce225, hMe225, hcc225⟩ := Kd.V_get HO_0.out z38 t224 p225 (by first | exact q225 | exact of_decide_eq_true (by first | (with_reducible assumption) | assumption) | (have e_ := (Kd.V_reads' HO_0.out).1; omega)); obtain ⟨ua225_3, uc225_3, rfl, ul225_3, ge225_3⟩ := k38_openF hMe225; have hv225_3 := hcc225 3 _ rfl; rw [add_field _ _ 3 (by omega)] at hv225_3; replace hv225_3 := Option.some.inj (hv225_3.symm.trans hx225_3); injection hv225_3 with hva_ hvn_ hvc_; rw [hva_] at ge225_3; rw [hvc_] at ul225_3; have HL225_3 := Aside0.mk (show Kd.V (Kd.int .u8) 5 _ w.heap.size _ _ ((rd_T38 l0 t224).f3) from Kd.V_mk ul225_3 ge225_3); clear hva_ hvn_ hvc_ ge225_3 ul225_3; clear hcc225 hce225; have HR225_3 := Aside0.mk hi225_3; have HC225_3 := Aside0.mk hl225_3; clear hi225_3 hl225_3; replace p225 := eq_true p225; replace q225 := eq_true q225) | ((with_reducible refine gate_dst (N := 9) rfl ?_); refine box_event ?hg (N := 9) ?hd (cs := #[.int .i64 0, .int .i64 0, .int .i64 0, .slice none 0 0]) (t := 38) ?hr ?_; (case hd => rfl); (case hg => rfl); (case hr => first | (go_simp; done) | (go_simp; rfl)); intro gb226 hg w14 hbox hb; have n0_ := Aside0.mk (Kd.V_below (Kd.V_elderB (by (with_reducible repeat (first | apply Kd.V_alloc | apply Kd.V_drewN | apply Kd.V_drew)); exact HO_0.out) gb226 (Nat.le_of_eq hg.symm)) hb); have n1_ := Aside0.mk (Kd.V_below (Kd.V_elderB (by (with_reducible repeat (first | apply Kd.V_alloc | apply Kd.V_drewN | apply Kd.V_drew)); exact HL222_3.out) gb226 (Nat.le_of_eq hg.symm)) hb); have n2_ := Aside0.mk (Kd.V_below (Kd.V_elderB (by (with_reducible repeat (first | apply Kd.V_alloc | apply Kd.V_drewN | apply Kd.V_drew)); exact HL223_3.out) gb226 (Nat.le_of_eq hg.symm)) hb); have n3_ := Aside0.mk (Kd.V_below (Kd.V_elderB (by (with_reducible repeat (first | apply Kd.V_alloc | apply Kd.V_drewN | apply Kd.V_drew)); exact HL225_3.out) gb226 (Nat.le_of_eq hg.symm)) hb); have n4_ := Aside0.mk (Kd.C_below (by repeat (first | (with_reducible exact HR222_3.out) | (with_reducible refine Kd.C_alloc ?_ _) | (with_reducible refine Kd.C_drewN ?_ _) | (with_reducible refine Kd.C_drew ?_) | exact HR222_3.out)) hb); have n5_ := Aside0.mk (Kd.C_below (by repeat (first | (with_reducible exact HR223_3.out) | (with_reducible refine Kd.C_alloc ?_ _) | (with_reducible refine Kd.C_drewN ?_ _) | (with_reducible refine Kd.C_drew ?_) | exact HR223_3.out)) hb); have n6_ := Aside0.mk (Kd.C_below (by repeat (first | (with_reducible exact HR225_3.out) | (with_reducible refine Kd.C_alloc ?_ _) | (with_reducible refine Kd.C_drewN ?_ _) | (with_reducible refine Kd.C_drew ?_) | exact HR225_3.out)) hb); have n7_ := Aside0.mk (below_step (by repeat (first | (with_reducible first | exact HB.out | apply below_alloc | apply pw_below_drewN | apply below_drew1) | exact HB.out)) hb); have n8_ := Aside0.mk (hbox); have n9_ := Aside0.mk ((by rw [hg]; exact (below_size (by repeat (first | (with_reducible first | exact HB.out | apply below_alloc | apply pw_below_drewN | apply below_drew1) | exact HB.out))) : w.heap.size ≤ gb226)); have n10_ := Aside0.mk ((by rw [hg]; exact (below_size (by repeat (first | (with_reducible first | exact HB.out | apply below_alloc | apply pw_below_drewN | apply below_drew1) | exact HB.out))) : w.heap.size ≤ gb226)); clear HO_0; clear HL222_3; clear HL223_3; clear HL225_3; clear HR222_3; clear HR223_3; clear HR225_3; clear HB; have HO_0 := n0_; have HL222_3 := n1_; have HL223_3 := n2_; have HL225_3 := n3_; have HR222_3 := n4_; have HR223_3 := n5_; have HR225_3 := n6_; have HB := n7_; have BK226 := n8_; have GW226 := n9_; have GE226 := n10_; clear n0_ n1_ n2_ n3_ n4_ n5_ n6_ n7_ n8_ n9_ n10_; clear hb hbox hg; have hcz15_0 : w14.cell? ⟨gb226, 0, none⟩ = some (.int .i64 0) := (blk_cell BK226.out 0).trans rfl; have hcz15_1 : w14.cell? ⟨gb226, 1, none⟩ = some (.int .i64 0) := (blk_cell BK226.out 1).trans rfl; have hcz15_2 : w14.cell? ⟨gb226, 2, none⟩ = some (.int .i64 0) := (blk_cell BK226.out 2).trans rfl; have hcz15_3 : w14.cell? ⟨gb226, 3, none⟩ = some (.slice none 0 0) := (blk_cell BK226.out 3).trans rfl; have hfz15_0 := blk_frozen BK226.out 0; have hfz15_1 := blk_frozen BK226.out 1; have hfz15_2 := blk_frozen BK226.out 2; have hfz15_3 := blk_frozen BK226.out 3))
                    go_roundg k1
                    case measure => have := HK1.out; omega
                    case rel => exact ⟨(wrap64 (x8_1 - 1)), (by first | rfl | (simp; done) | (simp [*]; done)), H', ⟨by have := HK1.out; omega⟩, ⟨by (with_reducible repeat (first | apply Kd.V_alloc | apply Kd.V_drewN | apply Kd.V_drew)); exact Kd.V_mono (Kd.V_far (p := ⟨gb226, 3, none⟩) (Kd.V_far (p := ⟨gb226, 2, none⟩) (Kd.V_far (p := ⟨gb226, 1, none⟩) (Kd.V_far (p := ⟨gb226, 0, none⟩) (Kd.V_mono HO_0.out (fun k_ hk => (⟨hk, hk.2⟩ : _ ∧ k_ ≠ gb226))) (fun _ hk => hk.2) (.int .i64 ((rd_T38 l0 t224).f0))) (fun _ hk => hk.2) (.int .i64 ((rd_T38 l0 t224).f1))) (fun _ hk => hk.2) (.int .i64 ((rd_T38 l0 t224).f2))) (fun _ hk => hk.2) (.slice A225_3 ((rd_T38 l0 t224).f3).length c225_3)) (fun _ hk => hk.1.1)⟩, ⟨by repeat (first | (with_reducible first | exact HB.out | apply below_alloc | apply pw_below_drewN | apply below_drew1 | refine below_set ?_ GE226.out) | exact HB.out)⟩⟩
                · rw [if_neg c10] at H
                  exact absurd H (by simp)
              · rw [if_neg c9] at H
                exact absurd H (by simp)
            · rw [if_neg c7] at H
              have c7b0 : (((rd_T38 l0 x8_1).f0) == 2) = false := beq_eq_false_iff_ne.mpr c7
              have c7b1 : (((rd_T38 l0 x8_1).f0) != 2) = true := bne_iff_ne.mpr c7
              have H' := Aside0.mk H
              clear H
              have p222 : 0 ≤ (x8_1 : Int) := of_decide_eq_true (by first | (with_reducible assumption) | assumption)
              have q222 : x8_1 < (l0.length : Int) := of_decide_eq_true (by first | (with_reducible assumption) | assumption)
              obtain ⟨ad222, A222_3, c222_3, e222, hx222_0, hx222_1, hx222_2, hx222_3, hl222_3, hi222_3⟩ := at_T38 (Kd.V_reads' HO_0.out).2.2 x8_1 p222 q222
              cases e222
              obtain ⟨ce222, hce222, hMe222, hcc222⟩ := Kd.V_get HO_0.out z38 x8_1 p222 (by first | exact q222 | exact of_decide_eq_true (by first | (with_reducible assumption) | assumption) | (have e_ := (Kd.V_reads' HO_0.out).1; omega))
              obtain ⟨ua222_3, uc222_3, rfl, ul222_3, ge222_3⟩ := k38_openF hMe222
              have hv222_3 := hcc222 3 _ rfl
              rw [add_field _ _ 3 (by omega)] at hv222_3
              replace hv222_3 := Option.some.inj (hv222_3.symm.trans hx222_3)
              injection hv222_3 with hva_ hvn_ hvc_
              rw [hva_] at ge222_3
              rw [hvc_] at ul222_3
              have HL222_3 := Aside0.mk (show Kd.V (Kd.int .u8) 5 _ w.heap.size _ _ ((rd_T38 l0 x8_1).f3) from Kd.V_mk ul222_3 ge222_3)
              clear hva_ hvn_ hvc_ ge222_3 ul222_3
              clear hcc222 hce222
              have HR222_3 := Aside0.mk hi222_3
              have HC222_3 := Aside0.mk hl222_3
              clear hi222_3 hl222_3
              replace p222 := eq_true p222
              replace q222 := eq_true q222
              go_wp2
              go_roundg k1
              case measure => have := HK1.out; omega
              case rel => exact ⟨(wrap64 (x8_1 - 1)), (by first | rfl | (simp; done) | (simp [*]; done)), H', ⟨by have := HK1.out; omega⟩, ⟨by (with_reducible repeat (first | apply Kd.V_alloc | apply Kd.V_drewN | apply Kd.V_drew)); exact HO_0.out⟩, ⟨by repeat (first | (with_reducible first | exact HB.out | apply below_alloc | apply pw_below_drewN | apply below_drew1) | exact HB.out)⟩⟩
          · rw [if_neg c6] at H
            exact absurd H (by simp)
        · rw [if_neg c5] at H
          exact absurd H (by simp)
      · rw [if_neg c4] at H
        have c4b0 : decide (0 ≤ x8_1) = false := decide_eq_false c4
        clear c4
        simp only [Option.some.injEq, Prod.mk.injEq] at H
        obtain ⟨rfl, rfl⟩ := H
        go_wp2
        go_ret2
        exact ⟨_, by first | rfl | (simp [errW_none, errW_some] <;> rfl) | (simp [*, errW_none, errW_some] <;> rfl), Kd.V_nil _ _ _ _ _, by repeat (first | (with_reducible first | exact HB.out | apply below_alloc | apply pw_below_drewN | apply below_drew1) | exact HB.out)⟩

end Go.Proofs.Ytghmkmpgfpkfmaa.X
