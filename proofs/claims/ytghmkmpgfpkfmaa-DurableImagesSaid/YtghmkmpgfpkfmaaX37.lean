-- Written for this claim by a program of this session (wip/px.py) with the kit's print; the contracts of GIVEN functions are proved by hand.
import Derived.Test.YtghmkmpgfpkfmaaX0
import Derived.Test.YtghmkmpgfpkfmaaX2
import Derived.Test.YtghmkmpgfpkfmaaX16
import Derived.Test.YtghmkmpgfpkfmaaX23
import Derived.Test.YtghmkmpgfpkfmaaX36
import Derived.Test.YtghmkmpgfpkfmaaD2
namespace Go.Proofs.Ytghmkmpgfpkfmaa.X
open Go.RowKit Go.Proofs.YtghmkmpgfpkfmaaW.PrintWords Go.Proofs.YtghmkmpgfpkfmaaW.PrintLast Go.Proofs.YtghmkmpgfpkfmaaW.PrintMore
attribute [local go_sem] max2_int min2_int max_two min_two max_three min_three max_four min_four   -- for this text's walks alone
set_option linter.unusedVariables false
set_option linter.unusedSimpArgs false

/-! ### estoverslaw11_DurableImages: function 4 -/
mutual
def estoverslaw11_DurableImages.j0 : Nat → List (List (List Int)) → List (List (List Int)) → Bool → Option (Bool)
  | 0, _, _, _ => none
  | k + 1, x3, x5, x37 => if x37 = true then (some false) else (estoverslaw11_DurableImages.l0 k x3 x5 0)
def estoverslaw11_DurableImages.l0 : Nat → List (List (List Int)) → List (List (List Int)) → Int → Option (Bool)
  | 0, _, _, _ => none
  | k + 1, x3, x5, x7 => if x7 < (x3.length : Int) then (if 0 ≤ x7 then (if x7 < (x5.length : Int) then ((estoversref11_Same.f k (rd_L4 x3 x7) (rd_L4 x5 x7)).bind fun t280 => (if t280 = true then (estoverslaw11_DurableImages.l0 k x3 x5 (wrap64 (x7 + 1))) else (some false))) else (none)) else (none)) else ((estoverslaw11_awake.f k).bind fun t281 => (some t281))
end
def estoverslaw11_DurableImages.f (k : Nat) (l0_0 : List (List Int)) (l0_1 : List (S38)) : Option (Bool) := (estoverslaw11_few.f k l0_0 l0_1).bind fun t268 => (if t268 = true then ((durable_Images.f l0_0 l0_1).bind fun bt270 => ((estoversref11_Images.f k l0_0 l0_1).bind fun bt274 => (if bt270.2 = bt274.2 then (estoverslaw11_DurableImages.j0 k bt270.1 bt274.1 ((bt270.1.length : Int) != (bt274.1.length : Int))) else (estoverslaw11_DurableImages.j0 k bt270.1 bt274.1 true)))) else ((estoverslaw11_awake.f k).bind fun t269 => (some t269)))
theorem estoverslaw11_DurableImages.mono_l : ∀ k, (∀ y0 y1 y2, LeO (estoverslaw11_DurableImages.j0 k y0 y1 y2) (estoverslaw11_DurableImages.j0 (k + 1) y0 y1 y2)) ∧ (∀ y0 y1 y2, LeO (estoverslaw11_DurableImages.l0 k y0 y1 y2) (estoverslaw11_DurableImages.l0 (k + 1) y0 y1 y2))
  | 0 => ⟨fun _ _ _ r h => by simp [estoverslaw11_DurableImages.j0] at h, fun _ _ _ r h => by simp [estoverslaw11_DurableImages.l0] at h⟩
  | k + 1 => by
    obtain ⟨ih0, ih1⟩ := estoverslaw11_DurableImages.mono_l k
    refine ⟨?_, ?_⟩
    · intro y0 y1 y2
      unfold estoverslaw11_DurableImages.j0
      repeat' first
      | (with_reducible exact ih0 _ _ _)
      | (with_reducible exact ih1 _ _ _)
      | (with_reducible exact estoverslaw11_awake.mono _)
      | (with_reducible exact estoverslaw11_few.mono _ _ _)
      | (with_reducible exact estoversref11_Images.mono _ _ _)
      | (with_reducible exact estoversref11_Same.mono _ _ _)
      | (with_reducible exact LeO.refl _)
      | (with_reducible exact LeO.none _)
      | (with_reducible refine LeO.ite ?_ ?_)
      | (with_reducible refine LeO.bind ?_ (fun _ => ?_))
      | exact ih0 _ _ _
      | exact ih1 _ _ _
      | exact estoverslaw11_awake.mono _
      | exact estoverslaw11_few.mono _ _ _
      | exact estoversref11_Images.mono _ _ _
      | exact estoversref11_Same.mono _ _ _
      | exact LeO.none _
      | refine LeO.ite ?_ ?_
      | refine LeO.bind ?_ (fun _ => ?_)
    · intro y0 y1 y2
      unfold estoverslaw11_DurableImages.l0
      repeat' first
      | (with_reducible exact ih0 _ _ _)
      | (with_reducible exact ih1 _ _ _)
      | (with_reducible exact estoverslaw11_awake.mono _)
      | (with_reducible exact estoverslaw11_few.mono _ _ _)
      | (with_reducible exact estoversref11_Images.mono _ _ _)
      | (with_reducible exact estoversref11_Same.mono _ _ _)
      | (with_reducible exact LeO.refl _)
      | (with_reducible exact LeO.none _)
      | (with_reducible refine LeO.ite ?_ ?_)
      | (with_reducible refine LeO.bind ?_ (fun _ => ?_))
      | exact ih0 _ _ _
      | exact ih1 _ _ _
      | exact estoverslaw11_awake.mono _
      | exact estoverslaw11_few.mono _ _ _
      | exact estoversref11_Images.mono _ _ _
      | exact estoversref11_Same.mono _ _ _
      | exact LeO.none _
      | refine LeO.ite ?_ ?_
      | refine LeO.bind ?_ (fun _ => ?_)
theorem estoverslaw11_DurableImages.mono : ∀ a0 a1 k, LeO (estoverslaw11_DurableImages.f k a0 a1) (estoverslaw11_DurableImages.f (k + 1) a0 a1) := by
  intro a0 a1 k
  obtain ⟨ih0, ih1⟩ := estoverslaw11_DurableImages.mono_l k
  unfold estoverslaw11_DurableImages.f
  repeat' first
      | (with_reducible exact ih0 _ _ _)
      | (with_reducible exact ih1 _ _ _)
      | (with_reducible exact estoverslaw11_awake.mono _)
      | (with_reducible exact estoverslaw11_few.mono _ _ _)
      | (with_reducible exact estoversref11_Images.mono _ _ _)
      | (with_reducible exact estoversref11_Same.mono _ _ _)
      | (with_reducible exact LeO.refl _)
      | (with_reducible exact LeO.none _)
      | (with_reducible refine LeO.ite ?_ ?_)
      | (with_reducible refine LeO.bind ?_ (fun _ => ?_))
      | exact ih0 _ _ _
      | exact ih1 _ _ _
      | exact estoverslaw11_awake.mono _
      | exact estoverslaw11_few.mono _ _ _
      | exact estoversref11_Images.mono _ _ _
      | exact estoversref11_Same.mono _ _ _
      | exact LeO.none _
      | refine LeO.ite ?_ ?_
      | refine LeO.bind ?_ (fun _ => ?_)
set_option maxHeartbeats 8000000 in
set_option maxRecDepth 100000 in
theorem estoverslaw11_DurableImages.calls (k : Nat) (A0_0 : Option Addr) (c0_0 : Nat) (l0_0 : List (List Int)) (A0_1 : Option Addr) (c0_1 : Nat) (l0_1 : List (S38)) (r : Bool) (w : World) (hr0_0 : Kd.C (Kd.slice 5 (Kd.int .u8)) w A0_0 l0_0.length l0_0) (hc0_0 : l0_0.length ≤ c0_0) (hr0_1 : Kd.C k38 w A0_1 l0_1.length l0_1) (hc0_1 : l0_1.length ≤ c0_1) (h : estoverslaw11_DurableImages.f k l0_0 l0_1 = some r) :
    Calls Try.prog 4 #[.agg #[.slice A0_0 l0_0.length c0_0, .slice A0_1 l0_1.length c0_1]] w fun e w' => e = .returned (.bool r) ∧ Below w.heap.size w w' := by
  have hu25 := Try.underlying25
  have HR0_0 := Aside0.mk hr0_0
  have HC0_0 := Aside0.mk hc0_0
  clear hr0_0 hc0_0
  have HR0_1 := Aside0.mk hr0_1
  have HC0_1 := Aside0.mk hc0_1
  clear hr0_1 hc0_1
  have HB := Aside0.mk (Below.refl w.heap.size w)
  have H : ((estoverslaw11_few.f k l0_0 l0_1).bind fun t268 => (if t268 = true then ((durable_Images.f l0_0 l0_1).bind fun bt270 => ((estoversref11_Images.f k l0_0 l0_1).bind fun bt274 => (if bt270.2 = bt274.2 then (estoverslaw11_DurableImages.j0 k bt270.1 bt274.1 ((bt270.1.length : Int) != (bt274.1.length : Int))) else (estoverslaw11_DurableImages.j0 k bt270.1 bt274.1 true)))) else ((estoverslaw11_awake.f k).bind fun t269 => (some t269)))) = some r := h
  clear h
  replace H := Option.bind_eq_some_iff.mp H
  obtain ⟨t268, A20, H⟩ := H
  replace H : (if t268 = true then ((durable_Images.f l0_0 l0_1).bind fun bt270 => ((estoversref11_Images.f k l0_0 l0_1).bind fun bt274 => (if bt270.2 = bt274.2 then (estoverslaw11_DurableImages.j0 k bt270.1 bt274.1 ((bt270.1.length : Int) != (bt274.1.length : Int))) else (estoverslaw11_DurableImages.j0 k bt270.1 bt274.1 true)))) else ((estoverslaw11_awake.f k).bind fun t269 => (some t269))) = some r := H
  have A2 := Aside0.mk A20
  clear A20
  by_cases c3 : t268 = true
  · subst c3
    have H1 : ((durable_Images.f l0_0 l0_1).bind fun bt270 => ((estoversref11_Images.f k l0_0 l0_1).bind fun bt274 => (if bt270.2 = bt274.2 then (estoverslaw11_DurableImages.j0 k bt270.1 bt274.1 ((bt270.1.length : Int) != (bt274.1.length : Int))) else (estoverslaw11_DurableImages.j0 k bt270.1 bt274.1 true)))) = some r := by rw [if_pos rfl] at H; exact H
    clear H
    have H := H1
    clear H1
    replace H := Option.bind_eq_some_iff.mp H
    obtain ⟨⟨t270, t271⟩, A40, H⟩ := H
    replace H : ((estoversref11_Images.f k l0_0 l0_1).bind fun bt274 => (if t271 = bt274.2 then (estoverslaw11_DurableImages.j0 k t270 bt274.1 ((t270.length : Int) != (bt274.1.length : Int))) else (estoverslaw11_DurableImages.j0 k t270 bt274.1 true))) = some r := H
    have A4 := Aside0.mk A40
    clear A40
    replace H := Option.bind_eq_some_iff.mp H
    obtain ⟨⟨t274, t277⟩, A50, H⟩ := H
    replace H : (if t271 = t277 then (estoverslaw11_DurableImages.j0 k t270 t274 ((t270.length : Int) != (t274.length : Int))) else (estoverslaw11_DurableImages.j0 k t270 t274 true)) = some r := H
    have A5 := Aside0.mk A50
    clear A50
    have HC6 := Aside0.mk H
    clear H
    go_enter Try.func4, Try.ntmps4
    go_upto_region 5 with (first | ((with_reducible refine gate_dst (N := 1) rfl ?_); (try (refine gate_guard (by rfl) ?_; dsimp only)); refine box_event ?hg (N := 1) ?hd (cs := #[.slice A0_0 l0_0.length c0_0, .slice A0_1 l0_1.length c0_1]) (t := 25) ?hr ?_; (case hd => rfl); (case hg => rfl); (case hr => first | (go_simp; done) | (go_simp; rfl)); intro gb267 hg w7 hbox hb; have n0_ := Aside0.mk (below_step (by repeat (first | (with_reducible first | exact HB.out | apply below_alloc | apply pw_below_drewN | apply below_drew1) | exact HB.out)) hb); have n1_ := Aside0.mk (hbox); have n2_ := Aside0.mk ((by rw [hg]; exact (below_size (by repeat (first | (with_reducible first | exact HB.out | apply below_alloc | apply pw_below_drewN | apply below_drew1) | exact HB.out))) : w.heap.size ≤ gb267)); have n3_ := Aside0.mk ((by rw [hg]; exact (below_size (by repeat (first | (with_reducible first | exact HB.out | apply below_alloc | apply pw_below_drewN | apply below_drew1) | exact HB.out))) : w.heap.size ≤ gb267)); clear HB; have HB := n0_; have BK267 := n1_; have GW267 := n2_; have GE267 := n3_; clear n0_ n1_ n2_ n3_; clear hb hbox hg; have hcz8_0 : w7.cell? ⟨gb267, 0, none⟩ = some (.slice A0_0 l0_0.length c0_0) := (blk_cell BK267.out 0).trans rfl; have hcz8_1 : w7.cell? ⟨gb267, 1, none⟩ = some (.slice A0_1 l0_1.length c0_1) := (blk_cell BK267.out 1).trans rfl; have hfz8_0 := blk_frozen BK267.out 0; have hfz8_1 := blk_frozen BK267.out 1) | (go_at_call 12; (with_reducible refine (estoverslaw11_few.calls k _ _ l0_0 _ _ l0_1 true _ ?side1 ?side2 ?side3 ?side4 A2.out).mono ?_); (case side1 => repeat (first | exact (Kd.C_below HR0_0.out HB.out) | (with_reducible refine Kd.C_alloc ?_ _) | (with_reducible refine Kd.C_drewN ?_ _) | (with_reducible refine Kd.C_drew ?_))); (case side2 => exact HC0_0.out); (case side3 => repeat (first | exact (Kd.C_below HR0_1.out HB.out) | (with_reducible refine Kd.C_alloc ?_ _) | (with_reducible refine Kd.C_drewN ?_ _) | (with_reducible refine Kd.C_drew ?_))); (case side4 => exact HC0_1.out); rintro e w9 ⟨rfl, hb⟩; have n0_ := Aside0.mk (blk_below (g := gb267) (o := .cells #[.slice A0_0 l0_0.length c0_0, .slice A0_1 l0_1.length c0_1] 25 (0, 0)) (by (with_reducible repeat (first | refine blk_drewN ?_ _ | refine blk_drew ?_ | refine blk_alloc ?_ _)); exact BK267.out) hb); have n1_ := Aside0.mk (below_step (by repeat (first | (with_reducible first | exact HB.out | apply below_alloc | apply pw_below_drewN | apply below_drew1 | refine below_set ?_ GE267.out) | exact HB.out)) hb); clear BK267; clear HB; have BK267 := n0_; have HB := n1_; clear n0_ n1_; (try clear hb); (try clear hb2); (try clear hk); (try clear hi); have hcz10_0 : w9.cell? ⟨gb267, 0, none⟩ = some (.slice A0_0 l0_0.length c0_0) := (blk_cell BK267.out 0).trans rfl; have hcz10_1 : w9.cell? ⟨gb267, 1, none⟩ = some (.slice A0_1 l0_1.length c0_1) := (blk_cell BK267.out 1).trans rfl; have hfz10_0 := blk_frozen BK267.out 0; have hfz10_1 := blk_frozen BK267.out 1) | (go_at_call 16; (with_reducible refine (durable_Images.calls _ _ l0_0 _ _ l0_1 t270 t271 _ ?side1 ?side2 ?side3 ?side4 A4.out).mono ?_); (case side1 => repeat (first | exact (Kd.C_below HR0_0.out HB.out) | (with_reducible refine Kd.C_alloc ?_ _) | (with_reducible refine Kd.C_drewN ?_ _) | (with_reducible refine Kd.C_drew ?_))); (case side2 => exact HC0_0.out); (case side3 => repeat (first | exact (Kd.C_below HR0_1.out HB.out) | (with_reducible refine Kd.C_alloc ?_ _) | (with_reducible refine Kd.C_drewN ?_ _) | (with_reducible refine Kd.C_drew ?_))); (case side4 => exact HC0_1.out); rintro e w11 ⟨v272, rfl, ho0, hb⟩; have n0_ := Aside0.mk (Kd.N_lower (Kd.N_mono (ok' := fun k_ => k_ ≠ gb267) (Kd.R_N (Kd.R_bound ho0)) (fun k_ hk_ => (Kd.freshB (g := gb267) (o := .cells #[.slice A0_0 l0_0.length c0_0, .slice A0_1 l0_1.length c0_1] 25 (0, 0)) (by (with_reducible repeat (first | refine blk_drewN ?_ _ | refine blk_drew ?_ | refine blk_alloc ?_ _)); exact BK267.out) k_ hk_.2.1))) (below_size (by repeat (first | (with_reducible first | exact HB.out | apply below_alloc | apply pw_below_drewN | apply below_drew1 | refine below_set ?_ GE267.out) | exact HB.out)))); have n1_ := Aside0.mk (blk_below (g := gb267) (o := .cells #[.slice A0_0 l0_0.length c0_0, .slice A0_1 l0_1.length c0_1] 25 (0, 0)) (by (with_reducible repeat (first | refine blk_drewN ?_ _ | refine blk_drew ?_ | refine blk_alloc ?_ _)); exact BK267.out) hb); have n2_ := Aside0.mk (below_step (by repeat (first | (with_reducible first | exact HB.out | apply below_alloc | apply pw_below_drewN | apply below_drew1 | refine below_set ?_ GE267.out) | exact HB.out)) hb); clear BK267; clear HB; have HO273 := n0_; have BK267 := n1_; have HB := n2_; clear n0_ n1_ n2_; (try clear hb); (try clear hb2); (try clear hk); (try clear hi); (try clear ho0); have hcz12_0 : w11.cell? ⟨gb267, 0, none⟩ = some (.slice A0_0 l0_0.length c0_0) := (blk_cell BK267.out 0).trans rfl; have hcz12_1 : w11.cell? ⟨gb267, 1, none⟩ = some (.slice A0_1 l0_1.length c0_1) := (blk_cell BK267.out 1).trans rfl; have hfz12_0 := blk_frozen BK267.out 0; have hfz12_1 := blk_frozen BK267.out 1) | (go_at_call 17; (with_reducible refine (estoversref11_Images.calls k _ _ l0_0 _ _ l0_1 t274 t277 _ ?side1 ?side2 ?side3 ?side4 A5.out).mono ?_); (case side1 => repeat (first | exact (Kd.C_below HR0_0.out HB.out) | (with_reducible refine Kd.C_alloc ?_ _) | (with_reducible refine Kd.C_drewN ?_ _) | (with_reducible refine Kd.C_drew ?_))); (case side2 => exact HC0_0.out); (case side3 => repeat (first | exact (Kd.C_below HR0_1.out HB.out) | (with_reducible refine Kd.C_alloc ?_ _) | (with_reducible refine Kd.C_drewN ?_ _) | (with_reducible refine Kd.C_drew ?_))); (case side4 => exact HC0_1.out); rintro e w13 ⟨v275, rfl, ho0, hb⟩; have n0_ := Aside0.mk (Kd.N_elder' (by (with_reducible repeat (first | apply Kd.N_alloc | apply Kd.N_drewN | apply Kd.N_drew)); exact HO273.out) (by first | exact Kd.N_base ho0 | exact Kd.S_base ho0 | exact Kd.R_base ho0) hb); have n1_ := Aside0.mk (Kd.N_lower (Kd.N_mono (ok' := fun k_ => some k_ ≠ (v272 : Value).ownBlock ∧ k_ ≠ gb267) ho0 (fun k_ hk_ => ⟨(Kd.fresh' (Kd.N_lt (by (with_reducible repeat (first | apply Kd.N_alloc | apply Kd.N_drewN | apply Kd.N_drew)); exact HO273.out)) k_ hk_), (Kd.freshB (g := gb267) (o := .cells #[.slice A0_0 l0_0.length c0_0, .slice A0_1 l0_1.length c0_1] 25 (0, 0)) (by (with_reducible repeat (first | refine blk_drewN ?_ _ | refine blk_drew ?_ | refine blk_alloc ?_ _)); exact BK267.out) k_ hk_)⟩)) (below_size (by repeat (first | (with_reducible first | exact HB.out | apply below_alloc | apply pw_below_drewN | apply below_drew1 | refine below_set ?_ GE267.out) | exact HB.out)))); have n2_ := Aside0.mk (blk_below (g := gb267) (o := .cells #[.slice A0_0 l0_0.length c0_0, .slice A0_1 l0_1.length c0_1] 25 (0, 0)) (by (with_reducible repeat (first | refine blk_drewN ?_ _ | refine blk_drew ?_ | refine blk_alloc ?_ _)); exact BK267.out) hb); have n3_ := Aside0.mk (below_step (by repeat (first | (with_reducible first | exact HB.out | apply below_alloc | apply pw_below_drewN | apply below_drew1 | refine below_set ?_ GE267.out) | exact HB.out)) hb); clear HO273; clear BK267; clear HB; have HO273 := n0_; have HO276 := n1_; have BK267 := n2_; have HB := n3_; clear n0_ n1_ n2_ n3_; (try clear hb); (try clear hb2); (try clear hk); (try clear hi); (try clear ho0)))
    repeat (go_quiet (first | ((with_reducible refine gate_dst (N := 1) rfl ?_); (try (refine gate_guard (by rfl) ?_; dsimp only)); refine box_event ?hg (N := 1) ?hd (cs := #[.slice A0_0 l0_0.length c0_0, .slice A0_1 l0_1.length c0_1]) (t := 25) ?hr ?_; (case hd => rfl); (case hg => rfl); (case hr => first | (go_simp; done) | (go_simp; rfl)); intro gb267 hg w7 hbox hb; have n0_ := Aside0.mk (below_step (by repeat (first | (with_reducible first | exact HB.out | apply below_alloc | apply pw_below_drewN | apply below_drew1) | exact HB.out)) hb); have n1_ := Aside0.mk (hbox); have n2_ := Aside0.mk ((by rw [hg]; exact (below_size (by repeat (first | (with_reducible first | exact HB.out | apply below_alloc | apply pw_below_drewN | apply below_drew1) | exact HB.out))) : w.heap.size ≤ gb267)); have n3_ := Aside0.mk ((by rw [hg]; exact (below_size (by repeat (first | (with_reducible first | exact HB.out | apply below_alloc | apply pw_below_drewN | apply below_drew1) | exact HB.out))) : w.heap.size ≤ gb267)); clear HB; have HB := n0_; have BK267 := n1_; have GW267 := n2_; have GE267 := n3_; clear n0_ n1_ n2_ n3_; clear hb hbox hg; have hcz8_0 : w7.cell? ⟨gb267, 0, none⟩ = some (.slice A0_0 l0_0.length c0_0) := (blk_cell BK267.out 0).trans rfl; have hcz8_1 : w7.cell? ⟨gb267, 1, none⟩ = some (.slice A0_1 l0_1.length c0_1) := (blk_cell BK267.out 1).trans rfl; have hfz8_0 := blk_frozen BK267.out 0; have hfz8_1 := blk_frozen BK267.out 1) | (go_at_call 12; (with_reducible refine (estoverslaw11_few.calls k _ _ l0_0 _ _ l0_1 true _ ?side1 ?side2 ?side3 ?side4 A2.out).mono ?_); (case side1 => repeat (first | exact (Kd.C_below HR0_0.out HB.out) | (with_reducible refine Kd.C_alloc ?_ _) | (with_reducible refine Kd.C_drewN ?_ _) | (with_reducible refine Kd.C_drew ?_))); (case side2 => exact HC0_0.out); (case side3 => repeat (first | exact (Kd.C_below HR0_1.out HB.out) | (with_reducible refine Kd.C_alloc ?_ _) | (with_reducible refine Kd.C_drewN ?_ _) | (with_reducible refine Kd.C_drew ?_))); (case side4 => exact HC0_1.out); rintro e w9 ⟨rfl, hb⟩; have n0_ := Aside0.mk (blk_below (g := gb267) (o := .cells #[.slice A0_0 l0_0.length c0_0, .slice A0_1 l0_1.length c0_1] 25 (0, 0)) (by (with_reducible repeat (first | refine blk_drewN ?_ _ | refine blk_drew ?_ | refine blk_alloc ?_ _)); exact BK267.out) hb); have n1_ := Aside0.mk (below_step (by repeat (first | (with_reducible first | exact HB.out | apply below_alloc | apply pw_below_drewN | apply below_drew1 | refine below_set ?_ GE267.out) | exact HB.out)) hb); clear BK267; clear HB; have BK267 := n0_; have HB := n1_; clear n0_ n1_; (try clear hb); (try clear hb2); (try clear hk); (try clear hi); have hcz10_0 : w9.cell? ⟨gb267, 0, none⟩ = some (.slice A0_0 l0_0.length c0_0) := (blk_cell BK267.out 0).trans rfl; have hcz10_1 : w9.cell? ⟨gb267, 1, none⟩ = some (.slice A0_1 l0_1.length c0_1) := (blk_cell BK267.out 1).trans rfl; have hfz10_0 := blk_frozen BK267.out 0; have hfz10_1 := blk_frozen BK267.out 1) | (go_at_call 16; (with_reducible refine (durable_Images.calls _ _ l0_0 _ _ l0_1 t270 t271 _ ?side1 ?side2 ?side3 ?side4 A4.out).mono ?_); (case side1 => repeat (first | exact (Kd.C_below HR0_0.out HB.out) | (with_reducible refine Kd.C_alloc ?_ _) | (with_reducible refine Kd.C_drewN ?_ _) | (with_reducible refine Kd.C_drew ?_))); (case side2 => exact HC0_0.out); (case side3 => repeat (first | exact (Kd.C_below HR0_1.out HB.out) | (with_reducible refine Kd.C_alloc ?_ _) | (with_reducible refine Kd.C_drewN ?_ _) | (with_reducible refine Kd.C_drew ?_))); (case side4 => exact HC0_1.out); rintro e w11 ⟨v272, rfl, ho0, hb⟩; have n0_ := Aside0.mk (Kd.N_lower (Kd.N_mono (ok' := fun k_ => k_ ≠ gb267) (Kd.R_N (Kd.R_bound ho0)) (fun k_ hk_ => (Kd.freshB (g := gb267) (o := .cells #[.slice A0_0 l0_0.length c0_0, .slice A0_1 l0_1.length c0_1] 25 (0, 0)) (by (with_reducible repeat (first | refine blk_drewN ?_ _ | refine blk_drew ?_ | refine blk_alloc ?_ _)); exact BK267.out) k_ hk_.2.1))) (below_size (by repeat (first | (with_reducible first | exact HB.out | apply below_alloc | apply pw_below_drewN | apply below_drew1 | refine below_set ?_ GE267.out) | exact HB.out)))); have n1_ := Aside0.mk (blk_below (g := gb267) (o := .cells #[.slice A0_0 l0_0.length c0_0, .slice A0_1 l0_1.length c0_1] 25 (0, 0)) (by (with_reducible repeat (first | refine blk_drewN ?_ _ | refine blk_drew ?_ | refine blk_alloc ?_ _)); exact BK267.out) hb); have n2_ := Aside0.mk (below_step (by repeat (first | (with_reducible first | exact HB.out | apply below_alloc | apply pw_below_drewN | apply below_drew1 | refine below_set ?_ GE267.out) | exact HB.out)) hb); clear BK267; clear HB; have HO273 := n0_; have BK267 := n1_; have HB := n2_; clear n0_ n1_ n2_; (try clear hb); (try clear hb2); (try clear hk); (try clear hi); (try clear ho0); have hcz12_0 : w11.cell? ⟨gb267, 0, none⟩ = some (.slice A0_0 l0_0.length c0_0) := (blk_cell BK267.out 0).trans rfl; have hcz12_1 : w11.cell? ⟨gb267, 1, none⟩ = some (.slice A0_1 l0_1.length c0_1) := (blk_cell BK267.out 1).trans rfl; have hfz12_0 := blk_frozen BK267.out 0; have hfz12_1 := blk_frozen BK267.out 1) | (go_at_call 17; (with_reducible refine (estoversref11_Images.calls k _ _ l0_0 _ _ l0_1 t274 t277 _ ?side1 ?side2 ?side3 ?side4 A5.out).mono ?_); (case side1 => repeat (first | exact (Kd.C_below HR0_0.out HB.out) | (with_reducible refine Kd.C_alloc ?_ _) | (with_reducible refine Kd.C_drewN ?_ _) | (with_reducible refine Kd.C_drew ?_))); (case side2 => exact HC0_0.out); (case side3 => repeat (first | exact (Kd.C_below HR0_1.out HB.out) | (with_reducible refine Kd.C_alloc ?_ _) | (with_reducible refine Kd.C_drewN ?_ _) | (with_reducible refine Kd.C_drew ?_))); (case side4 => exact HC0_1.out); rintro e w13 ⟨v275, rfl, ho0, hb⟩; have n0_ := Aside0.mk (Kd.N_elder' (by (with_reducible repeat (first | apply Kd.N_alloc | apply Kd.N_drewN | apply Kd.N_drew)); exact HO273.out) (by first | exact Kd.N_base ho0 | exact Kd.S_base ho0 | exact Kd.R_base ho0) hb); have n1_ := Aside0.mk (Kd.N_lower (Kd.N_mono (ok' := fun k_ => some k_ ≠ (v272 : Value).ownBlock ∧ k_ ≠ gb267) ho0 (fun k_ hk_ => ⟨(Kd.fresh' (Kd.N_lt (by (with_reducible repeat (first | apply Kd.N_alloc | apply Kd.N_drewN | apply Kd.N_drew)); exact HO273.out)) k_ hk_), (Kd.freshB (g := gb267) (o := .cells #[.slice A0_0 l0_0.length c0_0, .slice A0_1 l0_1.length c0_1] 25 (0, 0)) (by (with_reducible repeat (first | refine blk_drewN ?_ _ | refine blk_drew ?_ | refine blk_alloc ?_ _)); exact BK267.out) k_ hk_)⟩)) (below_size (by repeat (first | (with_reducible first | exact HB.out | apply below_alloc | apply pw_below_drewN | apply below_drew1 | refine below_set ?_ GE267.out) | exact HB.out)))); have n2_ := Aside0.mk (blk_below (g := gb267) (o := .cells #[.slice A0_0 l0_0.length c0_0, .slice A0_1 l0_1.length c0_1] 25 (0, 0)) (by (with_reducible repeat (first | refine blk_drewN ?_ _ | refine blk_drew ?_ | refine blk_alloc ?_ _)); exact BK267.out) hb); have n3_ := Aside0.mk (below_step (by repeat (first | (with_reducible first | exact HB.out | apply below_alloc | apply pw_below_drewN | apply below_drew1 | refine below_set ?_ GE267.out) | exact HB.out)) hb); clear HO273; clear BK267; clear HB; have HO273 := n0_; have HO276 := n1_; have BK267 := n2_; have HB := n3_; clear n0_ n1_ n2_ n3_; (try clear hb); (try clear hb2); (try clear hk); (try clear hi); (try clear ho0))); go_upto_region 5 with (first | ((with_reducible refine gate_dst (N := 1) rfl ?_); (try (refine gate_guard (by rfl) ?_; dsimp only)); refine box_event ?hg (N := 1) ?hd (cs := #[.slice A0_0 l0_0.length c0_0, .slice A0_1 l0_1.length c0_1]) (t := 25) ?hr ?_; (case hd => rfl); (case hg => rfl); (case hr => first | (go_simp; done) | (go_simp; rfl)); intro gb267 hg w7 hbox hb; have n0_ := Aside0.mk (below_step (by repeat (first | (with_reducible first | exact HB.out | apply below_alloc | apply pw_below_drewN | apply below_drew1) | exact HB.out)) hb); have n1_ := Aside0.mk (hbox); have n2_ := Aside0.mk ((by rw [hg]; exact (below_size (by repeat (first | (with_reducible first | exact HB.out | apply below_alloc | apply pw_below_drewN | apply below_drew1) | exact HB.out))) : w.heap.size ≤ gb267)); have n3_ := Aside0.mk ((by rw [hg]; exact (below_size (by repeat (first | (with_reducible first | exact HB.out | apply below_alloc | apply pw_below_drewN | apply below_drew1) | exact HB.out))) : w.heap.size ≤ gb267)); clear HB; have HB := n0_; have BK267 := n1_; have GW267 := n2_; have GE267 := n3_; clear n0_ n1_ n2_ n3_; clear hb hbox hg; have hcz8_0 : w7.cell? ⟨gb267, 0, none⟩ = some (.slice A0_0 l0_0.length c0_0) := (blk_cell BK267.out 0).trans rfl; have hcz8_1 : w7.cell? ⟨gb267, 1, none⟩ = some (.slice A0_1 l0_1.length c0_1) := (blk_cell BK267.out 1).trans rfl; have hfz8_0 := blk_frozen BK267.out 0; have hfz8_1 := blk_frozen BK267.out 1) | (go_at_call 12; (with_reducible refine (estoverslaw11_few.calls k _ _ l0_0 _ _ l0_1 true _ ?side1 ?side2 ?side3 ?side4 A2.out).mono ?_); (case side1 => repeat (first | exact (Kd.C_below HR0_0.out HB.out) | (with_reducible refine Kd.C_alloc ?_ _) | (with_reducible refine Kd.C_drewN ?_ _) | (with_reducible refine Kd.C_drew ?_))); (case side2 => exact HC0_0.out); (case side3 => repeat (first | exact (Kd.C_below HR0_1.out HB.out) | (with_reducible refine Kd.C_alloc ?_ _) | (with_reducible refine Kd.C_drewN ?_ _) | (with_reducible refine Kd.C_drew ?_))); (case side4 => exact HC0_1.out); rintro e w9 ⟨rfl, hb⟩; have n0_ := Aside0.mk (blk_below (g := gb267) (o := .cells #[.slice A0_0 l0_0.length c0_0, .slice A0_1 l0_1.length c0_1] 25 (0, 0)) (by (with_reducible repeat (first | refine blk_drewN ?_ _ | refine blk_drew ?_ | refine blk_alloc ?_ _)); exact BK267.out) hb); have n1_ := Aside0.mk (below_step (by repeat (first | (with_reducible first | exact HB.out | apply below_alloc | apply pw_below_drewN | apply below_drew1 | refine below_set ?_ GE267.out) | exact HB.out)) hb); clear BK267; clear HB; have BK267 := n0_; have HB := n1_; clear n0_ n1_; (try clear hb); (try clear hb2); (try clear hk); (try clear hi); have hcz10_0 : w9.cell? ⟨gb267, 0, none⟩ = some (.slice A0_0 l0_0.length c0_0) := (blk_cell BK267.out 0).trans rfl; have hcz10_1 : w9.cell? ⟨gb267, 1, none⟩ = some (.slice A0_1 l0_1.length c0_1) := (blk_cell BK267.out 1).trans rfl; have hfz10_0 := blk_frozen BK267.out 0; have hfz10_1 := blk_frozen BK267.out 1) | (go_at_call 16; (with_reducible refine (durable_Images.calls _ _ l0_0 _ _ l0_1 t270 t271 _ ?side1 ?side2 ?side3 ?side4 A4.out).mono ?_); (case side1 => repeat (first | exact (Kd.C_below HR0_0.out HB.out) | (with_reducible refine Kd.C_alloc ?_ _) | (with_reducible refine Kd.C_drewN ?_ _) | (with_reducible refine Kd.C_drew ?_))); (case side2 => exact HC0_0.out); (case side3 => repeat (first | exact (Kd.C_below HR0_1.out HB.out) | (with_reducible refine Kd.C_alloc ?_ _) | (with_reducible refine Kd.C_drewN ?_ _) | (with_reducible refine Kd.C_drew ?_))); (case side4 => exact HC0_1.out); rintro e w11 ⟨v272, rfl, ho0, hb⟩; have n0_ := Aside0.mk (Kd.N_lower (Kd.N_mono (ok' := fun k_ => k_ ≠ gb267) (Kd.R_N (Kd.R_bound ho0)) (fun k_ hk_ => (Kd.freshB (g := gb267) (o := .cells #[.slice A0_0 l0_0.length c0_0, .slice A0_1 l0_1.length c0_1] 25 (0, 0)) (by (with_reducible repeat (first | refine blk_drewN ?_ _ | refine blk_drew ?_ | refine blk_alloc ?_ _)); exact BK267.out) k_ hk_.2.1))) (below_size (by repeat (first | (with_reducible first | exact HB.out | apply below_alloc | apply pw_below_drewN | apply below_drew1 | refine below_set ?_ GE267.out) | exact HB.out)))); have n1_ := Aside0.mk (blk_below (g := gb267) (o := .cells #[.slice A0_0 l0_0.length c0_0, .slice A0_1 l0_1.length c0_1] 25 (0, 0)) (by (with_reducible repeat (first | refine blk_drewN ?_ _ | refine blk_drew ?_ | refine blk_alloc ?_ _)); exact BK267.out) hb); have n2_ := Aside0.mk (below_step (by repeat (first | (with_reducible first | exact HB.out | apply below_alloc | apply pw_below_drewN | apply below_drew1 | refine below_set ?_ GE267.out) | exact HB.out)) hb); clear BK267; clear HB; have HO273 := n0_; have BK267 := n1_; have HB := n2_; clear n0_ n1_ n2_; (try clear hb); (try clear hb2); (try clear hk); (try clear hi); (try clear ho0); have hcz12_0 : w11.cell? ⟨gb267, 0, none⟩ = some (.slice A0_0 l0_0.length c0_0) := (blk_cell BK267.out 0).trans rfl; have hcz12_1 : w11.cell? ⟨gb267, 1, none⟩ = some (.slice A0_1 l0_1.length c0_1) := (blk_cell BK267.out 1).trans rfl; have hfz12_0 := blk_frozen BK267.out 0; have hfz12_1 := blk_frozen BK267.out 1) | (go_at_call 17; (with_reducible refine (estoversref11_Images.calls k _ _ l0_0 _ _ l0_1 t274 t277 _ ?side1 ?side2 ?side3 ?side4 A5.out).mono ?_); (case side1 => repeat (first | exact (Kd.C_below HR0_0.out HB.out) | (with_reducible refine Kd.C_alloc ?_ _) | (with_reducible refine Kd.C_drewN ?_ _) | (with_reducible refine Kd.C_drew ?_))); (case side2 => exact HC0_0.out); (case side3 => repeat (first | exact (Kd.C_below HR0_1.out HB.out) | (with_reducible refine Kd.C_alloc ?_ _) | (with_reducible refine Kd.C_drewN ?_ _) | (with_reducible refine Kd.C_drew ?_))); (case side4 => exact HC0_1.out); rintro e w13 ⟨v275, rfl, ho0, hb⟩; have n0_ := Aside0.mk (Kd.N_elder' (by (with_reducible repeat (first | apply Kd.N_alloc | apply Kd.N_drewN | apply Kd.N_drew)); exact HO273.out) (by first | exact Kd.N_base ho0 | exact Kd.S_base ho0 | exact Kd.R_base ho0) hb); have n1_ := Aside0.mk (Kd.N_lower (Kd.N_mono (ok' := fun k_ => some k_ ≠ (v272 : Value).ownBlock ∧ k_ ≠ gb267) ho0 (fun k_ hk_ => ⟨(Kd.fresh' (Kd.N_lt (by (with_reducible repeat (first | apply Kd.N_alloc | apply Kd.N_drewN | apply Kd.N_drew)); exact HO273.out)) k_ hk_), (Kd.freshB (g := gb267) (o := .cells #[.slice A0_0 l0_0.length c0_0, .slice A0_1 l0_1.length c0_1] 25 (0, 0)) (by (with_reducible repeat (first | refine blk_drewN ?_ _ | refine blk_drew ?_ | refine blk_alloc ?_ _)); exact BK267.out) k_ hk_)⟩)) (below_size (by repeat (first | (with_reducible first | exact HB.out | apply below_alloc | apply pw_below_drewN | apply below_drew1 | refine below_set ?_ GE267.out) | exact HB.out)))); have n2_ := Aside0.mk (blk_below (g := gb267) (o := .cells #[.slice A0_0 l0_0.length c0_0, .slice A0_1 l0_1.length c0_1] 25 (0, 0)) (by (with_reducible repeat (first | refine blk_drewN ?_ _ | refine blk_drew ?_ | refine blk_alloc ?_ _)); exact BK267.out) hb); have n3_ := Aside0.mk (below_step (by repeat (first | (with_reducible first | exact HB.out | apply below_alloc | apply pw_below_drewN | apply below_drew1 | refine below_set ?_ GE267.out) | exact HB.out)) hb); clear HO273; clear BK267; clear HB; have HO273 := n0_; have HO276 := n1_; have BK267 := n2_; have HB := n3_; clear n0_ n1_ n2_ n3_; (try clear hb); (try clear hb2); (try clear hk); (try clear hi); (try clear ho0))))
    (try simp only [Act.put, List.setIfInBounds_toArray, List.set_cons_zero, List.set_cons_succ])
    go_cut [37] (fun v37 wc => ∃ (kq : Nat) (x37_5 : Bool), v37 = .bool x37_5 ∧ Aside0 (estoverslaw11_DurableImages.j0 kq t270 t274 x37_5 = some r) ∧ Aside0 (kq ≤ k) ∧ Aside0 (Kd.N (Kd.slice 36 (Kd.slice 5 (Kd.int .u8))) 22 wc w.heap.size (fun k_ => some k_ ≠ (v275 : Value).ownBlock ∧ k_ ≠ gb267) v272 t270) ∧ Aside0 (Kd.N (Kd.slice 36 (Kd.slice 5 (Kd.int .u8))) 22 wc w.heap.size (fun k_ => some k_ ≠ (v272 : Value).ownBlock ∧ k_ ≠ gb267) v275 t274) ∧ Aside0 (wc.heap[gb267]? = some (.cells #[(.slice A0_0 l0_0.length c0_0), (.slice A0_1 l0_1.length c0_1)] 25 (0, 0))) ∧ Aside0 (Below w.heap.size w wc))
    case first =>
      have H := HC6.out
      clear HC6
      by_cases c14 : t271 = t277
      · rw [if_pos c14] at H
        have c14b0 : (t271 == t277) = true := beq_iff_eq.mpr c14
        have c14b1 : (t271 != t277) = false := bne_eq_false_iff_eq.mpr c14
        clear c14
        (first | rw [c14b0] | (simp only [i64_w, i32_w]; rw [c14b0]) | skip)
        have H' := Aside0.mk H
        clear H
        obtain ⟨Ao15, co15, eo15⟩ := Kd.N_slice HO273.out
        subst eo15
        obtain ⟨Ao16, co16, eo16⟩ := Kd.N_slice HO276.out
        subst eo16
        go_wp2
        repeat (go_quiet (fail); try go_wp2)
        go_meet
        case rel => exact ⟨_, (((t270.length : Int) != (t274.length : Int))), (by first | rfl | (simp; done) | (simp [*]; done)), H', ⟨by first | omega | exact Nat.le_refl _⟩, ⟨by (with_reducible repeat (first | apply Kd.N_alloc | apply Kd.N_drewN | apply Kd.N_drew)); exact Kd.N_mono HO273.out (fun _ hk => ⟨hk.2, hk.1⟩)⟩, ⟨by (with_reducible repeat (first | apply Kd.N_alloc | apply Kd.N_drewN | apply Kd.N_drew)); exact HO276.out⟩, ⟨by (with_reducible repeat (first | refine blk_drewN ?_ _ | refine blk_drew ?_ | refine blk_alloc ?_ _)); exact BK267.out⟩, ⟨by repeat (first | (with_reducible first | exact HB.out | apply below_alloc | apply pw_below_drewN | apply below_drew1 | refine below_set ?_ GE267.out) | exact HB.out)⟩⟩
      · rw [if_neg c14] at H
        have c14b0 : (t271 == t277) = false := beq_eq_false_iff_ne.mpr c14
        have c14b1 : (t271 != t277) = true := bne_iff_ne.mpr c14
        (first | rw [c14b0] | (simp only [i64_w, i32_w]; rw [c14b0]) | skip)
        have H' := Aside0.mk H
        clear H
        go_wp2
        repeat (go_quiet (fail); try go_wp2)
        go_meet
        case rel => exact ⟨_, (true), (by first | rfl | (simp; done) | (simp [*]; done)), H', ⟨by first | omega | exact Nat.le_refl _⟩, ⟨by (with_reducible repeat (first | apply Kd.N_alloc | apply Kd.N_drewN | apply Kd.N_drew)); exact Kd.N_mono HO273.out (fun _ hk => ⟨hk.2, hk.1⟩)⟩, ⟨by (with_reducible repeat (first | apply Kd.N_alloc | apply Kd.N_drewN | apply Kd.N_drew)); exact HO276.out⟩, ⟨by (with_reducible repeat (first | refine blk_drewN ?_ _ | refine blk_drew ?_ | refine blk_alloc ?_ _)); exact BK267.out⟩, ⟨by repeat (first | (with_reducible first | exact HB.out | apply below_alloc | apply pw_below_drewN | apply below_drew1 | refine below_set ?_ GE267.out) | exact HB.out)⟩⟩
    case rest =>
      clear HC6
      try clear c1
      try clear p2
      try clear c3
      try clear c4
      try clear c14
      try clear c14b0
      try clear c14b1
      try clear hcz10_0
      try clear hcz10_1
      try clear hcz12_0
      try clear hcz12_1
      try clear hcz8_0
      try clear hcz8_1
      try clear hfz10_0
      try clear hfz10_1
      try clear hfz12_0
      try clear hfz12_1
      try clear hfz8_0
      try clear hfz8_1
      obtain ⟨kq, x37_5, rfl, HA, HJ5, HO_3, HO_5, BK267, HB⟩ := hcut
      cases kq with
      | zero => exact absurd HA.out (by simp [estoverslaw11_DurableImages.j0])
      | succ kj5 =>
        have H := HA.out
        clear HA
        simp only [estoverslaw11_DurableImages.j0] at H
        by_cases c17 : x37_5 = true
        · subst c17
          have H1 : (some false) = some r := by rw [if_pos rfl] at H; exact H
          clear H
          have H := H1
          clear H1
          obtain rfl := Option.some.inj H
          go_wp2
          repeat (go_quiet (fail); try go_wp2)
          go_ret
          exact ⟨by first | rfl | (simp [errW_none, errW_some] <;> rfl) | (simp [*, errW_none, errW_some] <;> rfl), by repeat (first | (with_reducible first | exact HB.out | apply below_alloc | apply pw_below_drewN | apply below_drew1 | refine below_set ?_ GE267.out) | exact HB.out)⟩
        · replace c17 := Bool.eq_false_iff.mpr c17
          subst c17
          have H1 : (estoverslaw11_DurableImages.l0 kj5 t270 t274 0) = some r := by rw [if_neg (show ¬ (false = true) by decide)] at H; exact H
          clear H
          have H := H1
          clear H1
          have H' := Aside0.mk H
          clear H
          go_wp2
          repeat (go_quiet (fail); try go_wp2)
          go_loopg [7] kj5 (fun kq v7 w' => ∃ (x7_2 : Int), v7 = .int .i64 x7_2 ∧ Aside0 (estoverslaw11_DurableImages.l0 kq t270 t274 x7_2 = some r) ∧ Aside0 (kq ≤ kj5) ∧ Aside0 (Kd.N (Kd.slice 36 (Kd.slice 5 (Kd.int .u8))) 22 w' w.heap.size (fun k_ => some k_ ≠ (v275 : Value).ownBlock ∧ k_ ≠ gb267) v272 t270) ∧ Aside0 (Kd.N (Kd.slice 36 (Kd.slice 5 (Kd.int .u8))) 22 w' w.heap.size (fun k_ => some k_ ≠ (v272 : Value).ownBlock ∧ k_ ≠ gb267) v275 t274) ∧ Aside0 (w'.heap[gb267]? = some (.cells #[(.slice A0_0 l0_0.length c0_0), (.slice A0_1 l0_1.length c0_1)] 25 (0, 0))) ∧ Aside0 (Below w.heap.size w w'))
          case atStart => exact ⟨(0), (by first | rfl | (simp; done) | (simp [*]; done)), H', ⟨Nat.le_refl _⟩, ⟨by (with_reducible repeat (first | apply Kd.N_alloc | apply Kd.N_drewN | apply Kd.N_drew)); exact HO_3.out⟩, ⟨by (with_reducible repeat (first | apply Kd.N_alloc | apply Kd.N_drewN | apply Kd.N_drew)); exact HO_5.out⟩, ⟨by (with_reducible repeat (first | refine blk_drewN ?_ _ | refine blk_drew ?_ | refine blk_alloc ?_ _)); exact BK267.out⟩, ⟨by repeat (first | (with_reducible first | exact HB.out | apply below_alloc | apply pw_below_drewN | apply below_drew1 | refine below_set ?_ GE267.out) | exact HB.out)⟩⟩
          case round =>
            clear H'
            try clear c1
            try clear p2
            try clear c3
            try clear c4
            try clear c14
            try clear c14b0
            try clear c14b1
            try clear c17
            try clear hcz10_0
            try clear hcz10_1
            try clear hcz12_0
            try clear hcz12_1
            try clear hcz8_0
            try clear hcz8_1
            try clear hfz10_0
            try clear hfz10_1
            try clear hfz12_0
            try clear hfz12_1
            try clear hfz8_0
            try clear hfz8_1
            try clear p2
            obtain ⟨x7_2, rfl, HA, HK2, HO_3, HO_5, BK267, HB⟩ := hrel
            cases gk with
            | zero => exact absurd HA.out (by simp [estoverslaw11_DurableImages.l0])
            | succ k2 =>
              have H := HA.out
              clear HA
              simp only [estoverslaw11_DurableImages.l0] at H
              by_cases c18 : x7_2 < (t270.length : Int)
              · rw [if_pos c18] at H
                have c18b0 : decide (x7_2 < (t270.length : Int)) = true := decide_eq_true c18
                clear c18
                by_cases c19 : 0 ≤ x7_2
                · rw [if_pos c19] at H
                  have c19b0 : decide (0 ≤ x7_2) = true := decide_eq_true c19
                  clear c19
                  by_cases c20 : x7_2 < (t274.length : Int)
                  · rw [if_pos c20] at H
                    have c20b0 : decide (x7_2 < (t274.length : Int)) = true := decide_eq_true c20
                    clear c20
                    replace H := Option.bind_eq_some_iff.mp H
                    obtain ⟨t280, A210, H⟩ := H
                    replace H : (if t280 = true then (estoverslaw11_DurableImages.l0 k2 t270 t274 (wrap64 (x7_2 + 1))) else (some false)) = some r := H
                    have A21 := Aside0.mk A210
                    clear A210
                    by_cases c22 : t280 = true
                    · subst c22
                      have H1 : (estoverslaw11_DurableImages.l0 k2 t270 t274 (wrap64 (x7_2 + 1))) = some r := by rw [if_pos rfl] at H; exact H
                      clear H
                      have H := H1
                      clear H1
                      have H' := Aside0.mk H
                      clear H
                      obtain ⟨Ao23, co23, eo23⟩ := Kd.N_slice HO_3.out
                      subst eo23
                      have p278 : 0 ≤ (x7_2 : Int) := of_decide_eq_true (by first | (with_reducible assumption) | assumption)
                      have q278 : x7_2 < (t270.length : Int) := of_decide_eq_true (by first | (with_reducible assumption) | assumption)
                      obtain ⟨ad278, A278_0, c278_0, e278, hx278_0, hl278_0, hi278_0⟩ := at_L4 (Kd.N_reads' HO_3.out).2.2 x7_2 p278 q278
                      cases e278
                      obtain ⟨ce278, hce278, hMe278, hcc278⟩ := Kd.N_get HO_3.out [] x7_2 p278 (by first | exact q278 | exact of_decide_eq_true (by first | (with_reducible assumption) | assumption) | (have e_ := (Kd.N_reads' HO_3.out).1; omega))
                      obtain ⟨ua278_0, uc278_0, rfl, ul278_0, ge278_0⟩ := Kd.FK_slice_open hMe278
                      have hv278_0 := hcc278 0 _ rfl
                      rw [Nat.add_zero, show ((Kd.slice 36 (Kd.slice 5 (Kd.int .u8)))).sz = 1 from rfl, Nat.mul_one] at hv278_0
                      replace hv278_0 := Option.some.inj (hv278_0.symm.trans hx278_0)
                      injection hv278_0 with hva_ hvn_ hvc_
                      rw [hva_] at ge278_0
                      rw [hvc_] at ul278_0
                      have HL278_0 := Aside0.mk (show Kd.V (Kd.slice 5 (Kd.int .u8)) 36 _ w.heap.size _ _ (rd_L4 t270 x7_2) from Kd.V_mk ul278_0 ge278_0)
                      clear hva_ hvn_ hvc_ ge278_0 ul278_0
                      clear hcc278 hce278
                      have HR278_0 := Aside0.mk hi278_0
                      have HC278_0 := Aside0.mk hl278_0
                      clear hi278_0 hl278_0
                      replace p278 := eq_true p278
                      replace q278 := eq_true q278
                      obtain ⟨Ao24, co24, eo24⟩ := Kd.N_slice HO_5.out
                      subst eo24
                      have p279 : 0 ≤ (x7_2 : Int) := of_decide_eq_true (by first | (with_reducible assumption) | assumption)
                      have q279 : x7_2 < (t274.length : Int) := of_decide_eq_true (by first | (with_reducible assumption) | assumption)
                      obtain ⟨ad279, A279_0, c279_0, e279, hx279_0, hl279_0, hi279_0⟩ := at_L4 (Kd.N_reads' HO_5.out).2.2 x7_2 p279 q279
                      cases e279
                      obtain ⟨ce279, hce279, hMe279, hcc279⟩ := Kd.N_get HO_5.out [] x7_2 p279 (by first | exact q279 | exact of_decide_eq_true (by first | (with_reducible assumption) | assumption) | (have e_ := (Kd.N_reads' HO_5.out).1; omega))
                      obtain ⟨ua279_0, uc279_0, rfl, ul279_0, ge279_0⟩ := Kd.FK_slice_open hMe279
                      have hv279_0 := hcc279 0 _ rfl
                      rw [Nat.add_zero, show ((Kd.slice 36 (Kd.slice 5 (Kd.int .u8)))).sz = 1 from rfl, Nat.mul_one] at hv279_0
                      replace hv279_0 := Option.some.inj (hv279_0.symm.trans hx279_0)
                      injection hv279_0 with hva_ hvn_ hvc_
                      rw [hva_] at ge279_0
                      rw [hvc_] at ul279_0
                      have HL279_0 := Aside0.mk (show Kd.V (Kd.slice 5 (Kd.int .u8)) 36 _ w.heap.size _ _ (rd_L4 t274 x7_2) from Kd.V_mk ul279_0 ge279_0)
                      clear hva_ hvn_ hvc_ ge279_0 ul279_0
                      clear hcc279 hce279
                      have HR279_0 := Aside0.mk hi279_0
                      have HC279_0 := Aside0.mk hl279_0
                      clear hi279_0 hl279_0
                      replace p279 := eq_true p279
                      replace q279 := eq_true q279
                      go_wp2_with (first | (go_at_call 18; (with_reducible refine (estoversref11_Same.calls k2 _ _ (rd_L4 t270 x7_2) _ _ (rd_L4 t274 x7_2) true _ ?side1 ?side2 ?side3 ?side4 A21.out).mono ?_); (case side1 => repeat (first | exact (by repeat (first | (with_reducible exact HR278_0.out) | (with_reducible refine Kd.C_alloc ?_ _) | (with_reducible refine Kd.C_drewN ?_ _) | (with_reducible refine Kd.C_drew ?_) | exact HR278_0.out)) | (with_reducible refine Kd.C_alloc ?_ _) | (with_reducible refine Kd.C_drewN ?_ _) | (with_reducible refine Kd.C_drew ?_))); (case side2 => exact HC278_0.out); (case side3 => repeat (first | exact (by repeat (first | (with_reducible exact HR279_0.out) | (with_reducible refine Kd.C_alloc ?_ _) | (with_reducible refine Kd.C_drewN ?_ _) | (with_reducible refine Kd.C_drew ?_) | exact HR279_0.out)) | (with_reducible refine Kd.C_alloc ?_ _) | (with_reducible refine Kd.C_drewN ?_ _) | (with_reducible refine Kd.C_drew ?_))); (case side4 => exact HC279_0.out); rintro e w' ⟨rfl, ⟨nd, rfl⟩⟩; (try first | exact ⟨rfl, _, World.drewN_drewN _ _ _⟩ | exact ⟨rfl, _, Eq.trans (World.drewN_drewN _ _ _) (congrArg (World.drewN _) (Nat.add_assoc _ _ _))⟩)))
                      repeat (go_quiet (first | (go_at_call 18; (with_reducible refine (estoversref11_Same.calls k2 _ _ (rd_L4 t270 x7_2) _ _ (rd_L4 t274 x7_2) true _ ?side1 ?side2 ?side3 ?side4 A21.out).mono ?_); (case side1 => repeat (first | exact (by repeat (first | (with_reducible exact HR278_0.out) | (with_reducible refine Kd.C_alloc ?_ _) | (with_reducible refine Kd.C_drewN ?_ _) | (with_reducible refine Kd.C_drew ?_) | exact HR278_0.out)) | (with_reducible refine Kd.C_alloc ?_ _) | (with_reducible refine Kd.C_drewN ?_ _) | (with_reducible refine Kd.C_drew ?_))); (case side2 => exact HC278_0.out); (case side3 => repeat (first | exact (by repeat (first | (with_reducible exact HR279_0.out) | (with_reducible refine Kd.C_alloc ?_ _) | (with_reducible refine Kd.C_drewN ?_ _) | (with_reducible refine Kd.C_drew ?_) | exact HR279_0.out)) | (with_reducible refine Kd.C_alloc ?_ _) | (with_reducible refine Kd.C_drewN ?_ _) | (with_reducible refine Kd.C_drew ?_))); (case side4 => exact HC279_0.out); rintro e w' ⟨rfl, ⟨nd, rfl⟩⟩; (try first | exact ⟨rfl, _, World.drewN_drewN _ _ _⟩ | exact ⟨rfl, _, Eq.trans (World.drewN_drewN _ _ _) (congrArg (World.drewN _) (Nat.add_assoc _ _ _))⟩))); try go_wp2_with (first | (go_at_call 18; (with_reducible refine (estoversref11_Same.calls k2 _ _ (rd_L4 t270 x7_2) _ _ (rd_L4 t274 x7_2) true _ ?side1 ?side2 ?side3 ?side4 A21.out).mono ?_); (case side1 => repeat (first | exact (by repeat (first | (with_reducible exact HR278_0.out) | (with_reducible refine Kd.C_alloc ?_ _) | (with_reducible refine Kd.C_drewN ?_ _) | (with_reducible refine Kd.C_drew ?_) | exact HR278_0.out)) | (with_reducible refine Kd.C_alloc ?_ _) | (with_reducible refine Kd.C_drewN ?_ _) | (with_reducible refine Kd.C_drew ?_))); (case side2 => exact HC278_0.out); (case side3 => repeat (first | exact (by repeat (first | (with_reducible exact HR279_0.out) | (with_reducible refine Kd.C_alloc ?_ _) | (with_reducible refine Kd.C_drewN ?_ _) | (with_reducible refine Kd.C_drew ?_) | exact HR279_0.out)) | (with_reducible refine Kd.C_alloc ?_ _) | (with_reducible refine Kd.C_drewN ?_ _) | (with_reducible refine Kd.C_drew ?_))); (case side4 => exact HC279_0.out); rintro e w' ⟨rfl, ⟨nd, rfl⟩⟩; (try first | exact ⟨rfl, _, World.drewN_drewN _ _ _⟩ | exact ⟨rfl, _, Eq.trans (World.drewN_drewN _ _ _) (congrArg (World.drewN _) (Nat.add_assoc _ _ _))⟩))))
                      go_roundg k2
                      case measure => have := HJ5.out; have := HK2.out; omega
                      case rel => exact ⟨(wrap64 (x7_2 + 1)), (by first | rfl | (simp; done) | (simp [*]; done)), H', ⟨by have := HJ5.out; have := HK2.out; omega⟩, ⟨by (with_reducible repeat (first | apply Kd.N_alloc | apply Kd.N_drewN | apply Kd.N_drew)); exact HO_3.out⟩, ⟨by (with_reducible repeat (first | apply Kd.N_alloc | apply Kd.N_drewN | apply Kd.N_drew)); exact HO_5.out⟩, ⟨by (with_reducible repeat (first | refine blk_drewN ?_ _ | refine blk_drew ?_ | refine blk_alloc ?_ _)); exact BK267.out⟩, ⟨by repeat (first | (with_reducible first | exact HB.out | apply below_alloc | apply pw_below_drewN | apply below_drew1 | refine below_set ?_ GE267.out) | exact HB.out)⟩⟩
                    · replace c22 := Bool.eq_false_iff.mpr c22
                      subst c22
                      have H1 : (some false) = some r := by rw [if_neg (show ¬ (false = true) by decide)] at H; exact H
                      clear H
                      have H := H1
                      clear H1
                      obtain rfl := Option.some.inj H
                      obtain ⟨Ao25, co25, eo25⟩ := Kd.N_slice HO_3.out
                      subst eo25
                      have p278 : 0 ≤ (x7_2 : Int) := of_decide_eq_true (by first | (with_reducible assumption) | assumption)
                      have q278 : x7_2 < (t270.length : Int) := of_decide_eq_true (by first | (with_reducible assumption) | assumption)
                      obtain ⟨ad278, A278_0, c278_0, e278, hx278_0, hl278_0, hi278_0⟩ := at_L4 (Kd.N_reads' HO_3.out).2.2 x7_2 p278 q278
                      cases e278
                      obtain ⟨ce278, hce278, hMe278, hcc278⟩ := Kd.N_get HO_3.out [] x7_2 p278 (by first | exact q278 | exact of_decide_eq_true (by first | (with_reducible assumption) | assumption) | (have e_ := (Kd.N_reads' HO_3.out).1; omega))
                      obtain ⟨ua278_0, uc278_0, rfl, ul278_0, ge278_0⟩ := Kd.FK_slice_open hMe278
                      have hv278_0 := hcc278 0 _ rfl
                      rw [Nat.add_zero, show ((Kd.slice 36 (Kd.slice 5 (Kd.int .u8)))).sz = 1 from rfl, Nat.mul_one] at hv278_0
                      replace hv278_0 := Option.some.inj (hv278_0.symm.trans hx278_0)
                      injection hv278_0 with hva_ hvn_ hvc_
                      rw [hva_] at ge278_0
                      rw [hvc_] at ul278_0
                      have HL278_0 := Aside0.mk (show Kd.V (Kd.slice 5 (Kd.int .u8)) 36 _ w.heap.size _ _ (rd_L4 t270 x7_2) from Kd.V_mk ul278_0 ge278_0)
                      clear hva_ hvn_ hvc_ ge278_0 ul278_0
                      clear hcc278 hce278
                      have HR278_0 := Aside0.mk hi278_0
                      have HC278_0 := Aside0.mk hl278_0
                      clear hi278_0 hl278_0
                      replace p278 := eq_true p278
                      replace q278 := eq_true q278
                      obtain ⟨Ao26, co26, eo26⟩ := Kd.N_slice HO_5.out
                      subst eo26
                      have p279 : 0 ≤ (x7_2 : Int) := of_decide_eq_true (by first | (with_reducible assumption) | assumption)
                      have q279 : x7_2 < (t274.length : Int) := of_decide_eq_true (by first | (with_reducible assumption) | assumption)
                      obtain ⟨ad279, A279_0, c279_0, e279, hx279_0, hl279_0, hi279_0⟩ := at_L4 (Kd.N_reads' HO_5.out).2.2 x7_2 p279 q279
                      cases e279
                      obtain ⟨ce279, hce279, hMe279, hcc279⟩ := Kd.N_get HO_5.out [] x7_2 p279 (by first | exact q279 | exact of_decide_eq_true (by first | (with_reducible assumption) | assumption) | (have e_ := (Kd.N_reads' HO_5.out).1; omega))
                      obtain ⟨ua279_0, uc279_0, rfl, ul279_0, ge279_0⟩ := Kd.FK_slice_open hMe279
                      have hv279_0 := hcc279 0 _ rfl
                      rw [Nat.add_zero, show ((Kd.slice 36 (Kd.slice 5 (Kd.int .u8)))).sz = 1 from rfl, Nat.mul_one] at hv279_0
                      replace hv279_0 := Option.some.inj (hv279_0.symm.trans hx279_0)
                      injection hv279_0 with hva_ hvn_ hvc_
                      rw [hva_] at ge279_0
                      rw [hvc_] at ul279_0
                      have HL279_0 := Aside0.mk (show Kd.V (Kd.slice 5 (Kd.int .u8)) 36 _ w.heap.size _ _ (rd_L4 t274 x7_2) from Kd.V_mk ul279_0 ge279_0)
                      clear hva_ hvn_ hvc_ ge279_0 ul279_0
                      clear hcc279 hce279
                      have HR279_0 := Aside0.mk hi279_0
                      have HC279_0 := Aside0.mk hl279_0
                      clear hi279_0 hl279_0
                      replace p279 := eq_true p279
                      replace q279 := eq_true q279
                      go_wp2_with (first | (go_at_call 18; (with_reducible refine (estoversref11_Same.calls k2 _ _ (rd_L4 t270 x7_2) _ _ (rd_L4 t274 x7_2) false _ ?side1 ?side2 ?side3 ?side4 A21.out).mono ?_); (case side1 => repeat (first | exact (by repeat (first | (with_reducible exact HR278_0.out) | (with_reducible refine Kd.C_alloc ?_ _) | (with_reducible refine Kd.C_drewN ?_ _) | (with_reducible refine Kd.C_drew ?_) | exact HR278_0.out)) | (with_reducible refine Kd.C_alloc ?_ _) | (with_reducible refine Kd.C_drewN ?_ _) | (with_reducible refine Kd.C_drew ?_))); (case side2 => exact HC278_0.out); (case side3 => repeat (first | exact (by repeat (first | (with_reducible exact HR279_0.out) | (with_reducible refine Kd.C_alloc ?_ _) | (with_reducible refine Kd.C_drewN ?_ _) | (with_reducible refine Kd.C_drew ?_) | exact HR279_0.out)) | (with_reducible refine Kd.C_alloc ?_ _) | (with_reducible refine Kd.C_drewN ?_ _) | (with_reducible refine Kd.C_drew ?_))); (case side4 => exact HC279_0.out); rintro e w' ⟨rfl, ⟨nd, rfl⟩⟩; (try first | exact ⟨rfl, _, World.drewN_drewN _ _ _⟩ | exact ⟨rfl, _, Eq.trans (World.drewN_drewN _ _ _) (congrArg (World.drewN _) (Nat.add_assoc _ _ _))⟩)))
                      repeat (go_quiet (first | (go_at_call 18; (with_reducible refine (estoversref11_Same.calls k2 _ _ (rd_L4 t270 x7_2) _ _ (rd_L4 t274 x7_2) false _ ?side1 ?side2 ?side3 ?side4 A21.out).mono ?_); (case side1 => repeat (first | exact (by repeat (first | (with_reducible exact HR278_0.out) | (with_reducible refine Kd.C_alloc ?_ _) | (with_reducible refine Kd.C_drewN ?_ _) | (with_reducible refine Kd.C_drew ?_) | exact HR278_0.out)) | (with_reducible refine Kd.C_alloc ?_ _) | (with_reducible refine Kd.C_drewN ?_ _) | (with_reducible refine Kd.C_drew ?_))); (case side2 => exact HC278_0.out); (case side3 => repeat (first | exact (by repeat (first | (with_reducible exact HR279_0.out) | (with_reducible refine Kd.C_alloc ?_ _) | (with_reducible refine Kd.C_drewN ?_ _) | (with_reducible refine Kd.C_drew ?_) | exact HR279_0.out)) | (with_reducible refine Kd.C_alloc ?_ _) | (with_reducible refine Kd.C_drewN ?_ _) | (with_reducible refine Kd.C_drew ?_))); (case side4 => exact HC279_0.out); rintro e w' ⟨rfl, ⟨nd, rfl⟩⟩; (try first | exact ⟨rfl, _, World.drewN_drewN _ _ _⟩ | exact ⟨rfl, _, Eq.trans (World.drewN_drewN _ _ _) (congrArg (World.drewN _) (Nat.add_assoc _ _ _))⟩))); try go_wp2_with (first | (go_at_call 18; (with_reducible refine (estoversref11_Same.calls k2 _ _ (rd_L4 t270 x7_2) _ _ (rd_L4 t274 x7_2) false _ ?side1 ?side2 ?side3 ?side4 A21.out).mono ?_); (case side1 => repeat (first | exact (by repeat (first | (with_reducible exact HR278_0.out) | (with_reducible refine Kd.C_alloc ?_ _) | (with_reducible refine Kd.C_drewN ?_ _) | (with_reducible refine Kd.C_drew ?_) | exact HR278_0.out)) | (with_reducible refine Kd.C_alloc ?_ _) | (with_reducible refine Kd.C_drewN ?_ _) | (with_reducible refine Kd.C_drew ?_))); (case side2 => exact HC278_0.out); (case side3 => repeat (first | exact (by repeat (first | (with_reducible exact HR279_0.out) | (with_reducible refine Kd.C_alloc ?_ _) | (with_reducible refine Kd.C_drewN ?_ _) | (with_reducible refine Kd.C_drew ?_) | exact HR279_0.out)) | (with_reducible refine Kd.C_alloc ?_ _) | (with_reducible refine Kd.C_drewN ?_ _) | (with_reducible refine Kd.C_drew ?_))); (case side4 => exact HC279_0.out); rintro e w' ⟨rfl, ⟨nd, rfl⟩⟩; (try first | exact ⟨rfl, _, World.drewN_drewN _ _ _⟩ | exact ⟨rfl, _, Eq.trans (World.drewN_drewN _ _ _) (congrArg (World.drewN _) (Nat.add_assoc _ _ _))⟩))))
                      go_ret
                      exact ⟨by first | rfl | (simp [errW_none, errW_some] <;> rfl) | (simp [*, errW_none, errW_some] <;> rfl), by repeat (first | (with_reducible first | exact HB.out | apply below_alloc | apply pw_below_drewN | apply below_drew1 | refine below_set ?_ GE267.out) | exact HB.out)⟩
                  · rw [if_neg c20] at H
                    exact absurd H (by simp)
                · rw [if_neg c19] at H
                  exact absurd H (by simp)
              · rw [if_neg c18] at H
                have c18b0 : decide (x7_2 < (t270.length : Int)) = false := decide_eq_false c18
                clear c18
                replace H := Option.bind_eq_some_iff.mp H
                obtain ⟨t281, A270, H⟩ := H
                replace H : (some t281) = some r := H
                have A27 := Aside0.mk A270
                clear A270
                obtain rfl := Option.some.inj H
                obtain ⟨Ao28, co28, eo28⟩ := Kd.N_slice HO_3.out
                subst eo28
                go_wp2_with (first | (go_at_call 13; (with_reducible refine (estoverslaw11_awake.calls k2  t281 _ A27.out).mono ?_); rintro e w29 ⟨rfl, hb⟩; have n0_ := Aside0.mk (Kd.N_below (by (with_reducible repeat (first | apply Kd.N_alloc | apply Kd.N_drewN | apply Kd.N_drew)); exact HO_3.out) hb); have n1_ := Aside0.mk (Kd.N_below (by (with_reducible repeat (first | apply Kd.N_alloc | apply Kd.N_drewN | apply Kd.N_drew)); exact HO_5.out) hb); have n2_ := Aside0.mk (blk_below (g := gb267) (o := .cells #[.slice A0_0 l0_0.length c0_0, .slice A0_1 l0_1.length c0_1] 25 (0, 0)) (by (with_reducible repeat (first | refine blk_drewN ?_ _ | refine blk_drew ?_ | refine blk_alloc ?_ _)); exact BK267.out) hb); have n3_ := Aside0.mk (below_step (by repeat (first | (with_reducible first | exact HB.out | apply below_alloc | apply pw_below_drewN | apply below_drew1 | refine below_set ?_ GE267.out) | exact HB.out)) hb); clear HO_3; clear HO_5; clear BK267; clear HB; have HO_3 := n0_; have HO_5 := n1_; have BK267 := n2_; have HB := n3_; clear n0_ n1_ n2_ n3_; (try clear hb); (try clear hb2); (try clear hk); (try clear hi)))
                repeat (go_quiet (first | (go_at_call 13; (with_reducible refine (estoverslaw11_awake.calls k2  t281 _ A27.out).mono ?_); rintro e w29 ⟨rfl, hb⟩; have n0_ := Aside0.mk (Kd.N_below (by (with_reducible repeat (first | apply Kd.N_alloc | apply Kd.N_drewN | apply Kd.N_drew)); exact HO_3.out) hb); have n1_ := Aside0.mk (Kd.N_below (by (with_reducible repeat (first | apply Kd.N_alloc | apply Kd.N_drewN | apply Kd.N_drew)); exact HO_5.out) hb); have n2_ := Aside0.mk (blk_below (g := gb267) (o := .cells #[.slice A0_0 l0_0.length c0_0, .slice A0_1 l0_1.length c0_1] 25 (0, 0)) (by (with_reducible repeat (first | refine blk_drewN ?_ _ | refine blk_drew ?_ | refine blk_alloc ?_ _)); exact BK267.out) hb); have n3_ := Aside0.mk (below_step (by repeat (first | (with_reducible first | exact HB.out | apply below_alloc | apply pw_below_drewN | apply below_drew1 | refine below_set ?_ GE267.out) | exact HB.out)) hb); clear HO_3; clear HO_5; clear BK267; clear HB; have HO_3 := n0_; have HO_5 := n1_; have BK267 := n2_; have HB := n3_; clear n0_ n1_ n2_ n3_; (try clear hb); (try clear hb2); (try clear hk); (try clear hi))); try go_wp2_with (first | (go_at_call 13; (with_reducible refine (estoverslaw11_awake.calls k2  t281 _ A27.out).mono ?_); rintro e w29 ⟨rfl, hb⟩; have n0_ := Aside0.mk (Kd.N_below (by (with_reducible repeat (first | apply Kd.N_alloc | apply Kd.N_drewN | apply Kd.N_drew)); exact HO_3.out) hb); have n1_ := Aside0.mk (Kd.N_below (by (with_reducible repeat (first | apply Kd.N_alloc | apply Kd.N_drewN | apply Kd.N_drew)); exact HO_5.out) hb); have n2_ := Aside0.mk (blk_below (g := gb267) (o := .cells #[.slice A0_0 l0_0.length c0_0, .slice A0_1 l0_1.length c0_1] 25 (0, 0)) (by (with_reducible repeat (first | refine blk_drewN ?_ _ | refine blk_drew ?_ | refine blk_alloc ?_ _)); exact BK267.out) hb); have n3_ := Aside0.mk (below_step (by repeat (first | (with_reducible first | exact HB.out | apply below_alloc | apply pw_below_drewN | apply below_drew1 | refine below_set ?_ GE267.out) | exact HB.out)) hb); clear HO_3; clear HO_5; clear BK267; clear HB; have HO_3 := n0_; have HO_5 := n1_; have BK267 := n2_; have HB := n3_; clear n0_ n1_ n2_ n3_; (try clear hb); (try clear hb2); (try clear hk); (try clear hi))))
                go_ret
                exact ⟨by first | rfl | (simp [errW_none, errW_some] <;> rfl) | (simp [*, errW_none, errW_some] <;> rfl), by repeat (first | (with_reducible first | exact HB.out | apply below_alloc | apply pw_below_drewN | apply below_drew1 | refine below_set ?_ GE267.out) | exact HB.out)⟩
  · replace c3 := Bool.eq_false_iff.mpr c3
    subst c3
    have H1 : ((estoverslaw11_awake.f k).bind fun t269 => (some t269)) = some r := by rw [if_neg (show ¬ (false = true) by decide)] at H; exact H
    clear H
    have H := H1
    clear H1
    replace H := Option.bind_eq_some_iff.mp H
    obtain ⟨t269, A300, H⟩ := H
    replace H : (some t269) = some r := H
    have A30 := Aside0.mk A300
    clear A300
    obtain rfl := Option.some.inj H
    go_enter Try.func4, Try.ntmps4
    go_wp2_with (first | ((with_reducible refine gate_dst (N := 1) rfl ?_); (try (refine gate_guard (by rfl) ?_; dsimp only)); refine box_event ?hg (N := 1) ?hd (cs := #[.slice A0_0 l0_0.length c0_0, .slice A0_1 l0_1.length c0_1]) (t := 25) ?hr ?_; (case hd => rfl); (case hg => rfl); (case hr => first | (go_simp; done) | (go_simp; rfl)); intro gb267 hg w31 hbox hb; have n0_ := Aside0.mk (below_step (by repeat (first | (with_reducible first | exact HB.out | apply below_alloc | apply pw_below_drewN | apply below_drew1) | exact HB.out)) hb); have n1_ := Aside0.mk (hbox); have n2_ := Aside0.mk ((by rw [hg]; exact (below_size (by repeat (first | (with_reducible first | exact HB.out | apply below_alloc | apply pw_below_drewN | apply below_drew1) | exact HB.out))) : w.heap.size ≤ gb267)); have n3_ := Aside0.mk ((by rw [hg]; exact (below_size (by repeat (first | (with_reducible first | exact HB.out | apply below_alloc | apply pw_below_drewN | apply below_drew1) | exact HB.out))) : w.heap.size ≤ gb267)); clear HB; have HB := n0_; have BK267 := n1_; have GW267 := n2_; have GE267 := n3_; clear n0_ n1_ n2_ n3_; clear hb hbox hg; have hcz32_0 : w31.cell? ⟨gb267, 0, none⟩ = some (.slice A0_0 l0_0.length c0_0) := (blk_cell BK267.out 0).trans rfl; have hcz32_1 : w31.cell? ⟨gb267, 1, none⟩ = some (.slice A0_1 l0_1.length c0_1) := (blk_cell BK267.out 1).trans rfl; have hfz32_0 := blk_frozen BK267.out 0; have hfz32_1 := blk_frozen BK267.out 1) | (go_at_call 12; (with_reducible refine (estoverslaw11_few.calls k _ _ l0_0 _ _ l0_1 false _ ?side1 ?side2 ?side3 ?side4 A2.out).mono ?_); (case side1 => repeat (first | exact (Kd.C_below HR0_0.out HB.out) | (with_reducible refine Kd.C_alloc ?_ _) | (with_reducible refine Kd.C_drewN ?_ _) | (with_reducible refine Kd.C_drew ?_))); (case side2 => exact HC0_0.out); (case side3 => repeat (first | exact (Kd.C_below HR0_1.out HB.out) | (with_reducible refine Kd.C_alloc ?_ _) | (with_reducible refine Kd.C_drewN ?_ _) | (with_reducible refine Kd.C_drew ?_))); (case side4 => exact HC0_1.out); rintro e w33 ⟨rfl, hb⟩; have n0_ := Aside0.mk (blk_below (g := gb267) (o := .cells #[.slice A0_0 l0_0.length c0_0, .slice A0_1 l0_1.length c0_1] 25 (0, 0)) (by (with_reducible repeat (first | refine blk_drewN ?_ _ | refine blk_drew ?_ | refine blk_alloc ?_ _)); exact BK267.out) hb); have n1_ := Aside0.mk (below_step (by repeat (first | (with_reducible first | exact HB.out | apply below_alloc | apply pw_below_drewN | apply below_drew1 | refine below_set ?_ GE267.out) | exact HB.out)) hb); clear BK267; clear HB; have BK267 := n0_; have HB := n1_; clear n0_ n1_; (try clear hb); (try clear hb2); (try clear hk); (try clear hi)) | (go_at_call 13; (with_reducible refine (estoverslaw11_awake.calls k  t269 _ A30.out).mono ?_); rintro e w34 ⟨rfl, hb⟩; have n0_ := Aside0.mk (blk_below (g := gb267) (o := .cells #[.slice A0_0 l0_0.length c0_0, .slice A0_1 l0_1.length c0_1] 25 (0, 0)) (by (with_reducible repeat (first | refine blk_drewN ?_ _ | refine blk_drew ?_ | refine blk_alloc ?_ _)); exact BK267.out) hb); have n1_ := Aside0.mk (below_step (by repeat (first | (with_reducible first | exact HB.out | apply below_alloc | apply pw_below_drewN | apply below_drew1 | refine below_set ?_ GE267.out) | exact HB.out)) hb); clear BK267; clear HB; have BK267 := n0_; have HB := n1_; clear n0_ n1_; (try clear hb); (try clear hb2); (try clear hk); (try clear hi)))
    repeat (go_quiet (first | ((with_reducible refine gate_dst (N := 1) rfl ?_); (try (refine gate_guard (by rfl) ?_; dsimp only)); refine box_event ?hg (N := 1) ?hd (cs := #[.slice A0_0 l0_0.length c0_0, .slice A0_1 l0_1.length c0_1]) (t := 25) ?hr ?_; (case hd => rfl); (case hg => rfl); (case hr => first | (go_simp; done) | (go_simp; rfl)); intro gb267 hg w31 hbox hb; have n0_ := Aside0.mk (below_step (by repeat (first | (with_reducible first | exact HB.out | apply below_alloc | apply pw_below_drewN | apply below_drew1) | exact HB.out)) hb); have n1_ := Aside0.mk (hbox); have n2_ := Aside0.mk ((by rw [hg]; exact (below_size (by repeat (first | (with_reducible first | exact HB.out | apply below_alloc | apply pw_below_drewN | apply below_drew1) | exact HB.out))) : w.heap.size ≤ gb267)); have n3_ := Aside0.mk ((by rw [hg]; exact (below_size (by repeat (first | (with_reducible first | exact HB.out | apply below_alloc | apply pw_below_drewN | apply below_drew1) | exact HB.out))) : w.heap.size ≤ gb267)); clear HB; have HB := n0_; have BK267 := n1_; have GW267 := n2_; have GE267 := n3_; clear n0_ n1_ n2_ n3_; clear hb hbox hg; have hcz32_0 : w31.cell? ⟨gb267, 0, none⟩ = some (.slice A0_0 l0_0.length c0_0) := (blk_cell BK267.out 0).trans rfl; have hcz32_1 : w31.cell? ⟨gb267, 1, none⟩ = some (.slice A0_1 l0_1.length c0_1) := (blk_cell BK267.out 1).trans rfl; have hfz32_0 := blk_frozen BK267.out 0; have hfz32_1 := blk_frozen BK267.out 1) | (go_at_call 12; (with_reducible refine (estoverslaw11_few.calls k _ _ l0_0 _ _ l0_1 false _ ?side1 ?side2 ?side3 ?side4 A2.out).mono ?_); (case side1 => repeat (first | exact (Kd.C_below HR0_0.out HB.out) | (with_reducible refine Kd.C_alloc ?_ _) | (with_reducible refine Kd.C_drewN ?_ _) | (with_reducible refine Kd.C_drew ?_))); (case side2 => exact HC0_0.out); (case side3 => repeat (first | exact (Kd.C_below HR0_1.out HB.out) | (with_reducible refine Kd.C_alloc ?_ _) | (with_reducible refine Kd.C_drewN ?_ _) | (with_reducible refine Kd.C_drew ?_))); (case side4 => exact HC0_1.out); rintro e w33 ⟨rfl, hb⟩; have n0_ := Aside0.mk (blk_below (g := gb267) (o := .cells #[.slice A0_0 l0_0.length c0_0, .slice A0_1 l0_1.length c0_1] 25 (0, 0)) (by (with_reducible repeat (first | refine blk_drewN ?_ _ | refine blk_drew ?_ | refine blk_alloc ?_ _)); exact BK267.out) hb); have n1_ := Aside0.mk (below_step (by repeat (first | (with_reducible first | exact HB.out | apply below_alloc | apply pw_below_drewN | apply below_drew1 | refine below_set ?_ GE267.out) | exact HB.out)) hb); clear BK267; clear HB; have BK267 := n0_; have HB := n1_; clear n0_ n1_; (try clear hb); (try clear hb2); (try clear hk); (try clear hi)) | (go_at_call 13; (with_reducible refine (estoverslaw11_awake.calls k  t269 _ A30.out).mono ?_); rintro e w34 ⟨rfl, hb⟩; have n0_ := Aside0.mk (blk_below (g := gb267) (o := .cells #[.slice A0_0 l0_0.length c0_0, .slice A0_1 l0_1.length c0_1] 25 (0, 0)) (by (with_reducible repeat (first | refine blk_drewN ?_ _ | refine blk_drew ?_ | refine blk_alloc ?_ _)); exact BK267.out) hb); have n1_ := Aside0.mk (below_step (by repeat (first | (with_reducible first | exact HB.out | apply below_alloc | apply pw_below_drewN | apply below_drew1 | refine below_set ?_ GE267.out) | exact HB.out)) hb); clear BK267; clear HB; have BK267 := n0_; have HB := n1_; clear n0_ n1_; (try clear hb); (try clear hb2); (try clear hk); (try clear hi))); try go_wp2_with (first | ((with_reducible refine gate_dst (N := 1) rfl ?_); (try (refine gate_guard (by rfl) ?_; dsimp only)); refine box_event ?hg (N := 1) ?hd (cs := #[.slice A0_0 l0_0.length c0_0, .slice A0_1 l0_1.length c0_1]) (t := 25) ?hr ?_; (case hd => rfl); (case hg => rfl); (case hr => first | (go_simp; done) | (go_simp; rfl)); intro gb267 hg w31 hbox hb; have n0_ := Aside0.mk (below_step (by repeat (first | (with_reducible first | exact HB.out | apply below_alloc | apply pw_below_drewN | apply below_drew1) | exact HB.out)) hb); have n1_ := Aside0.mk (hbox); have n2_ := Aside0.mk ((by rw [hg]; exact (below_size (by repeat (first | (with_reducible first | exact HB.out | apply below_alloc | apply pw_below_drewN | apply below_drew1) | exact HB.out))) : w.heap.size ≤ gb267)); have n3_ := Aside0.mk ((by rw [hg]; exact (below_size (by repeat (first | (with_reducible first | exact HB.out | apply below_alloc | apply pw_below_drewN | apply below_drew1) | exact HB.out))) : w.heap.size ≤ gb267)); clear HB; have HB := n0_; have BK267 := n1_; have GW267 := n2_; have GE267 := n3_; clear n0_ n1_ n2_ n3_; clear hb hbox hg; have hcz32_0 : w31.cell? ⟨gb267, 0, none⟩ = some (.slice A0_0 l0_0.length c0_0) := (blk_cell BK267.out 0).trans rfl; have hcz32_1 : w31.cell? ⟨gb267, 1, none⟩ = some (.slice A0_1 l0_1.length c0_1) := (blk_cell BK267.out 1).trans rfl; have hfz32_0 := blk_frozen BK267.out 0; have hfz32_1 := blk_frozen BK267.out 1) | (go_at_call 12; (with_reducible refine (estoverslaw11_few.calls k _ _ l0_0 _ _ l0_1 false _ ?side1 ?side2 ?side3 ?side4 A2.out).mono ?_); (case side1 => repeat (first | exact (Kd.C_below HR0_0.out HB.out) | (with_reducible refine Kd.C_alloc ?_ _) | (with_reducible refine Kd.C_drewN ?_ _) | (with_reducible refine Kd.C_drew ?_))); (case side2 => exact HC0_0.out); (case side3 => repeat (first | exact (Kd.C_below HR0_1.out HB.out) | (with_reducible refine Kd.C_alloc ?_ _) | (with_reducible refine Kd.C_drewN ?_ _) | (with_reducible refine Kd.C_drew ?_))); (case side4 => exact HC0_1.out); rintro e w33 ⟨rfl, hb⟩; have n0_ := Aside0.mk (blk_below (g := gb267) (o := .cells #[.slice A0_0 l0_0.length c0_0, .slice A0_1 l0_1.length c0_1] 25 (0, 0)) (by (with_reducible repeat (first | refine blk_drewN ?_ _ | refine blk_drew ?_ | refine blk_alloc ?_ _)); exact BK267.out) hb); have n1_ := Aside0.mk (below_step (by repeat (first | (with_reducible first | exact HB.out | apply below_alloc | apply pw_below_drewN | apply below_drew1 | refine below_set ?_ GE267.out) | exact HB.out)) hb); clear BK267; clear HB; have BK267 := n0_; have HB := n1_; clear n0_ n1_; (try clear hb); (try clear hb2); (try clear hk); (try clear hi)) | (go_at_call 13; (with_reducible refine (estoverslaw11_awake.calls k  t269 _ A30.out).mono ?_); rintro e w34 ⟨rfl, hb⟩; have n0_ := Aside0.mk (blk_below (g := gb267) (o := .cells #[.slice A0_0 l0_0.length c0_0, .slice A0_1 l0_1.length c0_1] 25 (0, 0)) (by (with_reducible repeat (first | refine blk_drewN ?_ _ | refine blk_drew ?_ | refine blk_alloc ?_ _)); exact BK267.out) hb); have n1_ := Aside0.mk (below_step (by repeat (first | (with_reducible first | exact HB.out | apply below_alloc | apply pw_below_drewN | apply below_drew1 | refine below_set ?_ GE267.out) | exact HB.out)) hb); clear BK267; clear HB; have BK267 := n0_; have HB := n1_; clear n0_ n1_; (try clear hb); (try clear hb2); (try clear hk); (try clear hi))))
    go_ret
    exact ⟨by first | rfl | (simp [errW_none, errW_some] <;> rfl) | (simp [*, errW_none, errW_some] <;> rfl), by repeat (first | (with_reducible first | exact HB.out | apply below_alloc | apply pw_below_drewN | apply below_drew1 | refine below_set ?_ GE267.out) | exact HB.out)⟩

end Go.Proofs.Ytghmkmpgfpkfmaa.X
