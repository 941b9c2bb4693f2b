-- Written for this claim by a program of this session (wip/px.py) with the kit's print; the contracts of GIVEN functions are proved by hand.
import Derived.Test.YtollapjmibkpfaaX0
import Derived.Test.YtollapjmibkpfaaX1
import Derived.Test.YtollapjmibkpfaaK1
import Derived.Test.YtollapjmibkpfaaX5
import Derived.Test.YtollapjmibkpfaaX19
import Derived.Test.YtollapjmibkpfaaK20
import Derived.Test.YtollapjmibkpfaaGb
import Derived.Test.YtollapjmibkpfaaGe
namespace Go.Proofs.Ytollapjmibkpfaa.X
open Go.RowKit Go.Proofs.YtollapjmibkpfaaW.PrintWords Go.Proofs.YtollapjmibkpfaaW.PrintLast Go.Proofs.YtollapjmibkpfaaW.PrintMore
attribute [local go_sem] max2_int min2_int max_two min_two max_three min_three max_four min_four   -- for this text's walks alone
set_option linter.unusedVariables false
set_option linter.unusedSimpArgs false

attribute [local go_sem high] eqA44
/-! ### estoverslaw40_CompactionPacks: function 7 -/
mutual
def estoverslaw40_CompactionPacks.j0 : Nat → List Int → Bool → Int → Int → Int → Option (Bool)
  | 0, _, _, _, _, _ => none
  | k + 1, x0, x31, x147000, x147001, x147002 => if x31 = true then ((estoverslaw40_awake.f).bind fun t149 => (some t149)) else ((compaction_Plan.f k x0).bind fun bt150 => ((compaction_Apply.f x0 bt150.1).bind fun bt154 => (if bt150.2 = 0 then (if bt154.2 = 0 then (estoverslaw40_CompactionPacks.j1 k x0 bt150.1 bt154.1 ((bt154.1.length : Int) != (x0.length : Int)) x147000 x147001 x147002) else (estoverslaw40_CompactionPacks.j1 k x0 bt150.1 bt154.1 true x147000 x147001 x147002)) else (estoverslaw40_CompactionPacks.j1 k x0 bt150.1 bt154.1 true x147000 x147001 x147002))))
def estoverslaw40_CompactionPacks.j1 : Nat → List Int → List (S26) → List Int → Bool → Int → Int → Int → Option (Bool)
  | 0, _, _, _, _, _, _, _ => none
  | k + 1, x0, x5, x7, x56, x147000, x147001, x147002 => if x56 = true then (some false) else ((estoverslaw40_kinds.f k x7).bind fun bt158 => (if bt158.2.2.2 = true then (estoverslaw40_CompactionPacks.j2 k x0 x5 x7 (!(bt158.1 == x147000) || (!(bt158.2.1 == x147001) || (!(bt158.2.2.1 == x147002)))) x147000 x147001 x147002) else (estoverslaw40_CompactionPacks.j2 k x0 x5 x7 true x147000 x147001 x147002)))
def estoverslaw40_CompactionPacks.j2 : Nat → List Int → List (S26) → List Int → Bool → Int → Int → Int → Option (Bool)
  | 0, _, _, _, _, _, _, _ => none
  | k + 1, x0, x5, x7, x68, x147000, x147001, x147002 => if x68 = true then (some false) else (estoverslaw40_CompactionPacks.l0 k x0 x5 false 0 0 x7 (x7.length : Int) 0 x147000 x147001 x147002)
def estoverslaw40_CompactionPacks.l0 : Nat → List Int → List (S26) → Bool → Int → Int → List Int → Int → Int → Int → Int → Int → Option (Bool)
  | 0, _, _, _, _, _, _, _, _, _, _, _ => none
  | k + 1, x0, x5, x11, x12, x13, x69, x70, x71, x147000, x147001, x147002 => if x71 < x70 then (if 0 ≤ x71 then (if x71 < (x69.length : Int) then (if x71 < (x0.length : Int) then (if (((rd x69 x71) == 2) != ((rd x0 x71) == 2)) = true then (estoverslaw40_CompactionPacks.j4 k x0 x5 x11 x12 x13 x71 (rd x69 x71) x69 x70 x71 true x147000 x147001 x147002) else (if x11 = true then (estoverslaw40_CompactionPacks.j4 k x0 x5 x11 x12 x13 x71 (rd x69 x71) x69 x70 x71 ((rd x69 x71) == 1) x147000 x147001 x147002) else (estoverslaw40_CompactionPacks.j4 k x0 x5 x11 x12 x13 x71 (rd x69 x71) x69 x70 x71 false x147000 x147001 x147002))) else (none)) else (none)) else (none)) else (some ((x5.length : Int) == x13))
def estoverslaw40_CompactionPacks.j4 : Nat → List Int → List (S26) → Bool → Int → Int → Int → Int → List Int → Int → Int → Bool → Int → Int → Int → Option (Bool)
  | 0, _, _, _, _, _, _, _, _, _, _, _, _, _, _ => none
  | k + 1, x0, x5, x11, x12, x13, x14, x15, x69, x70, x71, x90, x147000, x147001, x147002 => if x90 = true then (some false) else (if x11 = true then (estoverslaw40_CompactionPacks.j5 k x0 x5 true x12 x13 x14 x69 x70 x71 x147000 x147001 x147002) else (estoverslaw40_CompactionPacks.j5 k x0 x5 (x15 == 0) x12 x13 x14 x69 x70 x71 x147000 x147001 x147002))
def estoverslaw40_CompactionPacks.j5 : Nat → List Int → List (S26) → Bool → Int → Int → Int → List Int → Int → Int → Int → Int → Int → Option (Bool)
  | 0, _, _, _, _, _, _, _, _, _, _, _, _ => none
  | k + 1, x0, x5, x11, x12, x13, x14, x69, x70, x71, x147000, x147001, x147002 => if 0 ≤ x14 then (if x14 < (x0.length : Int) then (if (rd x0 x14) = 2 then (estoverslaw40_CompactionPacks.l0 k x0 x5 x11 x12 x13 x69 x70 (wrap64 (x71 + 1)) x147000 x147001 x147002) else (if (wrap64 (x12 + 1)) > x147001 then (if (rd x0 x14) = 1 then (estoverslaw40_CompactionPacks.l0 k x0 x5 x11 (wrap64 (x12 + 1)) (wrap64 (x13 + 1)) x69 x70 (wrap64 (x71 + 1)) x147000 x147001 x147002) else (estoverslaw40_CompactionPacks.l0 k x0 x5 x11 (wrap64 (x12 + 1)) x13 x69 x70 (wrap64 (x71 + 1)) x147000 x147001 x147002)) else (estoverslaw40_CompactionPacks.l0 k x0 x5 x11 (wrap64 (x12 + 1)) x13 x69 x70 (wrap64 (x71 + 1)) x147000 x147001 x147002))) else (none)) else (none)
end
def estoverslaw40_CompactionPacks.f (k : Nat) (l0 : List Int) : Option (Bool) := (estoverslaw40_kinds.f k l0).bind fun bt142 => ((estoverslaw40_awake.f).bind fun t147 => (if t147 = true then ((estoverslaw40_few.f l0).bind fun t148 => (if t148 = true then (estoverslaw40_CompactionPacks.j0 k l0 (!bt142.2.2.2) bt142.1 bt142.2.1 bt142.2.2.1) else (estoverslaw40_CompactionPacks.j0 k l0 true bt142.1 bt142.2.1 bt142.2.2.1))) else (estoverslaw40_CompactionPacks.j0 k l0 true bt142.1 bt142.2.1 bt142.2.2.1)))
theorem estoverslaw40_CompactionPacks.mono_l : ∀ k, (∀ y0 y1 y2 y3 y4, LeO (estoverslaw40_CompactionPacks.j0 k y0 y1 y2 y3 y4) (estoverslaw40_CompactionPacks.j0 (k + 1) y0 y1 y2 y3 y4)) ∧ (∀ y0 y1 y2 y3 y4 y5 y6, LeO (estoverslaw40_CompactionPacks.j1 k y0 y1 y2 y3 y4 y5 y6) (estoverslaw40_CompactionPacks.j1 (k + 1) y0 y1 y2 y3 y4 y5 y6)) ∧ (∀ y0 y1 y2 y3 y4 y5 y6, LeO (estoverslaw40_CompactionPacks.j2 k y0 y1 y2 y3 y4 y5 y6) (estoverslaw40_CompactionPacks.j2 (k + 1) y0 y1 y2 y3 y4 y5 y6)) ∧ (∀ y0 y1 y2 y3 y4 y5 y6 y7 y8 y9 y10, LeO (estoverslaw40_CompactionPacks.l0 k y0 y1 y2 y3 y4 y5 y6 y7 y8 y9 y10) (estoverslaw40_CompactionPacks.l0 (k + 1) y0 y1 y2 y3 y4 y5 y6 y7 y8 y9 y10)) ∧ (∀ y0 y1 y2 y3 y4 y5 y6 y7 y8 y9 y10 y11 y12 y13, LeO (estoverslaw40_CompactionPacks.j4 k y0 y1 y2 y3 y4 y5 y6 y7 y8 y9 y10 y11 y12 y13) (estoverslaw40_CompactionPacks.j4 (k + 1) y0 y1 y2 y3 y4 y5 y6 y7 y8 y9 y10 y11 y12 y13)) ∧ (∀ y0 y1 y2 y3 y4 y5 y6 y7 y8 y9 y10 y11, LeO (estoverslaw40_CompactionPacks.j5 k y0 y1 y2 y3 y4 y5 y6 y7 y8 y9 y10 y11) (estoverslaw40_CompactionPacks.j5 (k + 1) y0 y1 y2 y3 y4 y5 y6 y7 y8 y9 y10 y11))
  | 0 => ⟨fun _ _ _ _ _ r h => by simp [estoverslaw40_CompactionPacks.j0] at h, fun _ _ _ _ _ _ _ r h => by simp [estoverslaw40_CompactionPacks.j1] at h, fun _ _ _ _ _ _ _ r h => by simp [estoverslaw40_CompactionPacks.j2] at h, fun _ _ _ _ _ _ _ _ _ _ _ r h => by simp [estoverslaw40_CompactionPacks.l0] at h, fun _ _ _ _ _ _ _ _ _ _ _ _ _ _ r h => by simp [estoverslaw40_CompactionPacks.j4] at h, fun _ _ _ _ _ _ _ _ _ _ _ _ r h => by simp [estoverslaw40_CompactionPacks.j5] at h⟩
  | k + 1 => by
    obtain ⟨ih0, ih1, ih2, ih3, ih4, ih5⟩ := estoverslaw40_CompactionPacks.mono_l k
    refine ⟨?_, ?_, ?_, ?_, ?_, ?_⟩
    · intro y0 y1 y2 y3 y4
      unfold estoverslaw40_CompactionPacks.j0
      repeat' first
      | (with_reducible exact ih0 _ _ _ _ _)
      | (with_reducible exact ih1 _ _ _ _ _ _ _)
      | (with_reducible exact ih2 _ _ _ _ _ _ _)
      | (with_reducible exact ih3 _ _ _ _ _ _ _ _ _ _ _)
      | (with_reducible exact ih4 _ _ _ _ _ _ _ _ _ _ _ _ _ _)
      | (with_reducible exact ih5 _ _ _ _ _ _ _ _ _ _ _ _)
      | (with_reducible exact compaction_Plan.mono _ _)
      | (with_reducible exact estoverslaw40_kinds.mono _ _)
      | (with_reducible exact LeO.refl _)
      | (with_reducible exact LeO.none _)
      | (with_reducible refine LeO.ite ?_ ?_)
      | (with_reducible refine LeO.bind ?_ (fun _ => ?_))
      | exact ih0 _ _ _ _ _
      | exact ih1 _ _ _ _ _ _ _
      | exact ih2 _ _ _ _ _ _ _
      | exact ih3 _ _ _ _ _ _ _ _ _ _ _
      | exact ih4 _ _ _ _ _ _ _ _ _ _ _ _ _ _
      | exact ih5 _ _ _ _ _ _ _ _ _ _ _ _
      | exact compaction_Plan.mono _ _
      | exact estoverslaw40_kinds.mono _ _
      | exact LeO.none _
      | refine LeO.ite ?_ ?_
      | refine LeO.bind ?_ (fun _ => ?_)
    · intro y0 y1 y2 y3 y4 y5 y6
      unfold estoverslaw40_CompactionPacks.j1
      repeat' first
      | (with_reducible exact ih0 _ _ _ _ _)
      | (with_reducible exact ih1 _ _ _ _ _ _ _)
      | (with_reducible exact ih2 _ _ _ _ _ _ _)
      | (with_reducible exact ih3 _ _ _ _ _ _ _ _ _ _ _)
      | (with_reducible exact ih4 _ _ _ _ _ _ _ _ _ _ _ _ _ _)
      | (with_reducible exact ih5 _ _ _ _ _ _ _ _ _ _ _ _)
      | (with_reducible exact compaction_Plan.mono _ _)
      | (with_reducible exact estoverslaw40_kinds.mono _ _)
      | (with_reducible exact LeO.refl _)
      | (with_reducible exact LeO.none _)
      | (with_reducible refine LeO.ite ?_ ?_)
      | (with_reducible refine LeO.bind ?_ (fun _ => ?_))
      | exact ih0 _ _ _ _ _
      | exact ih1 _ _ _ _ _ _ _
      | exact ih2 _ _ _ _ _ _ _
      | exact ih3 _ _ _ _ _ _ _ _ _ _ _
      | exact ih4 _ _ _ _ _ _ _ _ _ _ _ _ _ _
      | exact ih5 _ _ _ _ _ _ _ _ _ _ _ _
      | exact compaction_Plan.mono _ _
      | exact estoverslaw40_kinds.mono _ _
      | exact LeO.none _
      | refine LeO.ite ?_ ?_
      | refine LeO.bind ?_ (fun _ => ?_)
    · intro y0 y1 y2 y3 y4 y5 y6
      unfold estoverslaw40_CompactionPacks.j2
      repeat' first
      | (with_reducible exact ih0 _ _ _ _ _)
      | (with_reducible exact ih1 _ _ _ _ _ _ _)
      | (with_reducible exact ih2 _ _ _ _ _ _ _)
      | (with_reducible exact ih3 _ _ _ _ _ _ _ _ _ _ _)
      | (with_reducible exact ih4 _ _ _ _ _ _ _ _ _ _ _ _ _ _)
      | (with_reducible exact ih5 _ _ _ _ _ _ _ _ _ _ _ _)
      | (with_reducible exact compaction_Plan.mono _ _)
      | (with_reducible exact estoverslaw40_kinds.mono _ _)
      | (with_reducible exact LeO.refl _)
      | (with_reducible exact LeO.none _)
      | (with_reducible refine LeO.ite ?_ ?_)
      | (with_reducible refine LeO.bind ?_ (fun _ => ?_))
      | exact ih0 _ _ _ _ _
      | exact ih1 _ _ _ _ _ _ _
      | exact ih2 _ _ _ _ _ _ _
      | exact ih3 _ _ _ _ _ _ _ _ _ _ _
      | exact ih4 _ _ _ _ _ _ _ _ _ _ _ _ _ _
      | exact ih5 _ _ _ _ _ _ _ _ _ _ _ _
      | exact compaction_Plan.mono _ _
      | exact estoverslaw40_kinds.mono _ _
      | exact LeO.none _
      | refine LeO.ite ?_ ?_
      | refine LeO.bind ?_ (fun _ => ?_)
    · intro y0 y1 y2 y3 y4 y5 y6 y7 y8 y9 y10
      unfold estoverslaw40_CompactionPacks.l0
      repeat' first
      | (with_reducible exact ih0 _ _ _ _ _)
      | (with_reducible exact ih1 _ _ _ _ _ _ _)
      | (with_reducible exact ih2 _ _ _ _ _ _ _)
      | (with_reducible exact ih3 _ _ _ _ _ _ _ _ _ _ _)
      | (with_reducible exact ih4 _ _ _ _ _ _ _ _ _ _ _ _ _ _)
      | (with_reducible exact ih5 _ _ _ _ _ _ _ _ _ _ _ _)
      | (with_reducible exact compaction_Plan.mono _ _)
      | (with_reducible exact estoverslaw40_kinds.mono _ _)
      | (with_reducible exact LeO.refl _)
      | (with_reducible exact LeO.none _)
      | (with_reducible refine LeO.ite ?_ ?_)
      | (with_reducible refine LeO.bind ?_ (fun _ => ?_))
      | exact ih0 _ _ _ _ _
      | exact ih1 _ _ _ _ _ _ _
      | exact ih2 _ _ _ _ _ _ _
      | exact ih3 _ _ _ _ _ _ _ _ _ _ _
      | exact ih4 _ _ _ _ _ _ _ _ _ _ _ _ _ _
      | exact ih5 _ _ _ _ _ _ _ _ _ _ _ _
      | exact compaction_Plan.mono _ _
      | exact estoverslaw40_kinds.mono _ _
      | exact LeO.none _
      | refine LeO.ite ?_ ?_
      | refine LeO.bind ?_ (fun _ => ?_)
    · intro y0 y1 y2 y3 y4 y5 y6 y7 y8 y9 y10 y11 y12 y13
      unfold estoverslaw40_CompactionPacks.j4
      repeat' first
      | (with_reducible exact ih0 _ _ _ _ _)
      | (with_reducible exact ih1 _ _ _ _ _ _ _)
      | (with_reducible exact ih2 _ _ _ _ _ _ _)
      | (with_reducible exact ih3 _ _ _ _ _ _ _ _ _ _ _)
      | (with_reducible exact ih4 _ _ _ _ _ _ _ _ _ _ _ _ _ _)
      | (with_reducible exact ih5 _ _ _ _ _ _ _ _ _ _ _ _)
      | (with_reducible exact compaction_Plan.mono _ _)
      | (with_reducible exact estoverslaw40_kinds.mono _ _)
      | (with_reducible exact LeO.refl _)
      | (with_reducible exact LeO.none _)
      | (with_reducible refine LeO.ite ?_ ?_)
      | (with_reducible refine LeO.bind ?_ (fun _ => ?_))
      | exact ih0 _ _ _ _ _
      | exact ih1 _ _ _ _ _ _ _
      | exact ih2 _ _ _ _ _ _ _
      | exact ih3 _ _ _ _ _ _ _ _ _ _ _
      | exact ih4 _ _ _ _ _ _ _ _ _ _ _ _ _ _
      | exact ih5 _ _ _ _ _ _ _ _ _ _ _ _
      | exact compaction_Plan.mono _ _
      | exact estoverslaw40_kinds.mono _ _
      | exact LeO.none _
      | refine LeO.ite ?_ ?_
      | refine LeO.bind ?_ (fun _ => ?_)
    · intro y0 y1 y2 y3 y4 y5 y6 y7 y8 y9 y10 y11
      unfold estoverslaw40_CompactionPacks.j5
      repeat' first
      | (with_reducible exact ih0 _ _ _ _ _)
      | (with_reducible exact ih1 _ _ _ _ _ _ _)
      | (with_reducible exact ih2 _ _ _ _ _ _ _)
      | (with_reducible exact ih3 _ _ _ _ _ _ _ _ _ _ _)
      | (with_reducible exact ih4 _ _ _ _ _ _ _ _ _ _ _ _ _ _)
      | (with_reducible exact ih5 _ _ _ _ _ _ _ _ _ _ _ _)
      | (with_reducible exact compaction_Plan.mono _ _)
      | (with_reducible exact estoverslaw40_kinds.mono _ _)
      | (with_reducible exact LeO.refl _)
      | (with_reducible exact LeO.none _)
      | (with_reducible refine LeO.ite ?_ ?_)
      | (with_reducible refine LeO.bind ?_ (fun _ => ?_))
      | exact ih0 _ _ _ _ _
      | exact ih1 _ _ _ _ _ _ _
      | exact ih2 _ _ _ _ _ _ _
      | exact ih3 _ _ _ _ _ _ _ _ _ _ _
      | exact ih4 _ _ _ _ _ _ _ _ _ _ _ _ _ _
      | exact ih5 _ _ _ _ _ _ _ _ _ _ _ _
      | exact compaction_Plan.mono _ _
      | exact estoverslaw40_kinds.mono _ _
      | exact LeO.none _
      | refine LeO.ite ?_ ?_
      | refine LeO.bind ?_ (fun _ => ?_)
theorem estoverslaw40_CompactionPacks.mono : ∀ a0 k, LeO (estoverslaw40_CompactionPacks.f k a0) (estoverslaw40_CompactionPacks.f (k + 1) a0) := by
  intro a0 k
  obtain ⟨ih0, ih1, ih2, ih3, ih4, ih5⟩ := estoverslaw40_CompactionPacks.mono_l k
  unfold estoverslaw40_CompactionPacks.f
  repeat' first
      | (with_reducible exact ih0 _ _ _ _ _)
      | (with_reducible exact ih1 _ _ _ _ _ _ _)
      | (with_reducible exact ih2 _ _ _ _ _ _ _)
      | (with_reducible exact ih3 _ _ _ _ _ _ _ _ _ _ _)
      | (with_reducible exact ih4 _ _ _ _ _ _ _ _ _ _ _ _ _ _)
      | (with_reducible exact ih5 _ _ _ _ _ _ _ _ _ _ _ _)
      | (with_reducible exact compaction_Plan.mono _ _)
      | (with_reducible exact estoverslaw40_kinds.mono _ _)
      | (with_reducible exact LeO.refl _)
      | (with_reducible exact LeO.none _)
      | (with_reducible refine LeO.ite ?_ ?_)
      | (with_reducible refine LeO.bind ?_ (fun _ => ?_))
      | exact ih0 _ _ _ _ _
      | exact ih1 _ _ _ _ _ _ _
      | exact ih2 _ _ _ _ _ _ _
      | exact ih3 _ _ _ _ _ _ _ _ _ _ _
      | exact ih4 _ _ _ _ _ _ _ _ _ _ _ _ _ _
      | exact ih5 _ _ _ _ _ _ _ _ _ _ _ _
      | exact compaction_Plan.mono _ _
      | exact estoverslaw40_kinds.mono _ _
      | exact LeO.none _
      | refine LeO.ite ?_ ?_
      | refine LeO.bind ?_ (fun _ => ?_)
set_option maxHeartbeats 8000000 in
set_option maxRecDepth 100000 in
theorem estoverslaw40_CompactionPacks.calls (k : Nat) (A0 : Option Addr) (c0 : Nat) (l0 : List Int) (r : Bool) (w : World) (hr0 : Kd.C (Kd.int .i64) w A0 l0.length l0) (hc0 : l0.length ≤ c0) (h : estoverslaw40_CompactionPacks.f k l0 = some r) :
    Calls Try.prog 7 #[.slice A0 l0.length c0] w fun e w' => e = .returned (.bool r) ∧ Below w.heap.size w w' := by
  have hu44 := Try.underlying44
  have HR0 := Aside0.mk hr0
  have HC0 := Aside0.mk hc0
  clear hr0 hc0
  have HB := Aside0.mk (Below.refl w.heap.size w)
  have H : ((estoverslaw40_kinds.f k l0).bind fun bt142 => ((estoverslaw40_awake.f).bind fun t147 => (if t147 = true then ((estoverslaw40_few.f l0).bind fun t148 => (if t148 = true then (estoverslaw40_CompactionPacks.j0 k l0 (!bt142.2.2.2) bt142.1 bt142.2.1 bt142.2.2.1) else (estoverslaw40_CompactionPacks.j0 k l0 true bt142.1 bt142.2.1 bt142.2.2.1))) else (estoverslaw40_CompactionPacks.j0 k l0 true bt142.1 bt142.2.1 bt142.2.2.1)))) = some r := h
  clear h
  replace H := Option.bind_eq_some_iff.mp H
  obtain ⟨⟨t142, t143, t144, t145⟩, A20, H⟩ := H
  replace H : ((estoverslaw40_awake.f).bind fun t147 => (if t147 = true then ((estoverslaw40_few.f l0).bind fun t148 => (if t148 = true then (estoverslaw40_CompactionPacks.j0 k l0 (!t145) t142 t143 t144) else (estoverslaw40_CompactionPacks.j0 k l0 true t142 t143 t144))) else (estoverslaw40_CompactionPacks.j0 k l0 true t142 t143 t144))) = some r := H
  have A2 := Aside0.mk A20
  clear A20
  have HC3 := Aside0.mk H
  clear H
  go_enter Try.func7, Try.ntmps7
  go_upto_region 2 with (first | ((with_reducible refine gate_callee (f := 31) rfl ?_); refine goesL_ (some 18) rfl rfl Try.func31 (by kernel_rfl) rfl #[.slice A0 l0.length c0] rfl (by (try simp only [List.map_toArray, List.map_cons, List.map_nil]); first | done | rfl | (simp only [List.length_drop, List.length_take]; rfl)) ?_; (with_reducible refine (estoverslaw40_kinds.calls k _ _ l0 t142 t143 t144 t145 _ ?side1 ?side2 A2.out).mono ?_); (case side1 => repeat (first | exact HR0.out | (with_reducible refine Kd.C_alloc ?_ _) | (with_reducible refine Kd.C_drewN ?_ _) | (with_reducible refine Kd.C_drew ?_))); (case side2 => exact HC0.out); rintro e w4 ⟨rfl, hb⟩; refine ⟨_, rfl, ?_⟩; have n0_ := Aside0.mk (below_step (by repeat (first | (with_reducible first | exact HB.out | apply below_alloc | apply pw_below_drewN | apply below_drew1) | exact HB.out)) hb); clear HB; have HB := n0_; clear n0_; (try clear hb); (try clear hb2); (try clear hk); (try clear hi)) | ((with_reducible refine gate_dst (N := 3) rfl ?_); (try (refine gate_guard (by rfl) ?_; dsimp only)); refine box_event ?hg (N := 3) ?hd (cs := #[.int .i64 0, .int .i64 0, .int .i64 0]) (t := 44) ?hr ?_; (case hd => rfl); (case hg => rfl); (case hr => first | (go_simp; done) | (go_simp; rfl)); intro gb146 hg w5 hbox hb; have n0_ := Aside0.mk (below_step (by repeat (first | (with_reducible first | exact HB.out | apply below_alloc | apply pw_below_drewN | apply below_drew1) | exact HB.out)) hb); have n1_ := Aside0.mk (hbox); have n2_ := Aside0.mk ((by rw [hg]; exact (below_size (by repeat (first | (with_reducible first | exact HB.out | apply below_alloc | apply pw_below_drewN | apply below_drew1) | exact HB.out))) : w.heap.size ≤ gb146)); have n3_ := Aside0.mk ((by rw [hg]; exact (below_size (by repeat (first | (with_reducible first | exact HB.out | apply below_alloc | apply pw_below_drewN | apply below_drew1) | exact HB.out))) : w.heap.size ≤ gb146)); clear HB; have HB := n0_; have BK146 := n1_; have GW146 := n2_; have GE146 := n3_; clear n0_ n1_ n2_ n3_; clear hb hbox hg; have hcz6_0 : w5.cell? ⟨gb146, 0, none⟩ = some (.int .i64 0) := (blk_cell BK146.out 0).trans rfl; have hcz6_1 : w5.cell? ⟨gb146, 1, none⟩ = some (.int .i64 0) := (blk_cell BK146.out 1).trans rfl; have hcz6_2 : w5.cell? ⟨gb146, 2, none⟩ = some (.int .i64 0) := (blk_cell BK146.out 2).trans rfl; have hfz6_0 := blk_frozen BK146.out 0; have hfz6_1 := blk_frozen BK146.out 1; have hfz6_2 := blk_frozen BK146.out 2))
  (try simp only [Act.put, List.setIfInBounds_toArray, List.set_cons_zero, List.set_cons_succ])
  go_cut [31] (fun v31 wc => ∃ (kq : Nat) (x31_2 : Bool), v31 = .bool x31_2 ∧ Aside0 (estoverslaw40_CompactionPacks.j0 kq l0 x31_2 t142 t143 t144 = some r) ∧ Aside0 (kq ≤ k) ∧ Aside0 (wc.heap[gb146]? = some (.cells #[.int .i64 t142, .int .i64 t143, .int .i64 t144] 44 (0, 0))) ∧ Aside0 (Below w.heap.size w wc))
  case first =>
    have H := HC3.out
    clear HC3
    replace H := Option.bind_eq_some_iff.mp H
    obtain ⟨t147, A70, H⟩ := H
    replace H : (if t147 = true then ((estoverslaw40_few.f l0).bind fun t148 => (if t148 = true then (estoverslaw40_CompactionPacks.j0 k l0 (!t145) t142 t143 t144) else (estoverslaw40_CompactionPacks.j0 k l0 true t142 t143 t144))) else (estoverslaw40_CompactionPacks.j0 k l0 true t142 t143 t144)) = some r := H
    have A7 := Aside0.mk A70
    clear A70
    by_cases c8 : t147 = true
    · subst c8
      have H1 : ((estoverslaw40_few.f l0).bind fun t148 => (if t148 = true then (estoverslaw40_CompactionPacks.j0 k l0 (!t145) t142 t143 t144) else (estoverslaw40_CompactionPacks.j0 k l0 true t142 t143 t144))) = some r := by rw [if_pos rfl] at H; exact H
      clear H
      have H := H1
      clear H1
      replace H := Option.bind_eq_some_iff.mp H
      obtain ⟨t148, A90, H⟩ := H
      replace H : (if t148 = true then (estoverslaw40_CompactionPacks.j0 k l0 (!t145) t142 t143 t144) else (estoverslaw40_CompactionPacks.j0 k l0 true t142 t143 t144)) = some r := H
      have A9 := Aside0.mk A90
      clear A90
      by_cases c10 : t148 = true
      · subst c10
        have H1 : (estoverslaw40_CompactionPacks.j0 k l0 (!t145) t142 t143 t144) = some r := by rw [if_pos rfl] at H; exact H
        clear H
        have H := H1
        clear H1
        have H' := Aside0.mk H
        clear H
        go_wp2_with (first | ((with_reducible refine gate_callee (f := 11) rfl ?_); refine goesL_ (some 21) rfl rfl Try.func11 (by kernel_rfl) rfl #[] rfl (by (try simp only [List.map_toArray, List.map_cons, List.map_nil]); first | done | rfl | (simp only [List.length_drop, List.length_take]; rfl)) ?_; (with_reducible refine (estoverslaw40_awake.calls  true _ A7.out).mono ?_); rintro e w11 ⟨rfl, hb⟩; refine ⟨_, rfl, ?_⟩; have n0_ := Aside0.mk (blk_below (g := gb146) (o := .cells #[.int .i64 t142, .int .i64 t143, .int .i64 t144] 44 (0, 0)) (by (with_reducible repeat (first | refine blk_drewN ?_ _ | refine blk_drew ?_ | refine blk_alloc ?_ _)); refine blk_put (cs := #[.int .i64 t142, .int .i64 t143, .int .i64 0]) ?_ 2 _ rfl; (with_reducible repeat (first | refine blk_drewN ?_ _ | refine blk_drew ?_ | refine blk_alloc ?_ _)); refine blk_put (cs := #[.int .i64 t142, .int .i64 0, .int .i64 0]) ?_ 1 _ rfl; (with_reducible repeat (first | refine blk_drewN ?_ _ | refine blk_drew ?_ | refine blk_alloc ?_ _)); refine blk_put (cs := #[.int .i64 0, .int .i64 0, .int .i64 0]) ?_ 0 _ rfl; (with_reducible repeat (first | refine blk_drewN ?_ _ | refine blk_drew ?_ | refine blk_alloc ?_ _)); exact BK146.out) hb); have n1_ := Aside0.mk (below_step (by repeat (first | (with_reducible first | exact HB.out | apply below_alloc | apply pw_below_drewN | apply below_drew1 | refine below_set ?_ GE146.out) | exact HB.out)) hb); clear BK146; clear HB; have BK146 := n0_; have HB := n1_; clear n0_ n1_; (try clear hb); (try clear hb2); (try clear hk); (try clear hi)) | (go_at_call 12; (with_reducible refine (estoverslaw40_few.calls _ _ l0 true _ ?side1 ?side2 A9.out).mono ?_); (case side1 => repeat (first | exact (Kd.C_below HR0.out HB.out) | (with_reducible refine Kd.C_alloc ?_ _) | (with_reducible refine Kd.C_drewN ?_ _) | (with_reducible refine Kd.C_drew ?_))); (case side2 => exact HC0.out); rintro e w' ⟨rfl, ⟨nd, rfl⟩⟩))
        go_meet
        case rel => exact ⟨_, (!t145), (by first | rfl | (simp; done) | (simp [*]; done)), H', ⟨by first | omega | exact Nat.le_refl _⟩, ⟨by (with_reducible repeat (first | refine blk_drewN ?_ _ | refine blk_drew ?_ | refine blk_alloc ?_ _)); exact BK146.out⟩, ⟨by repeat (first | (with_reducible first | exact HB.out | apply below_alloc | apply pw_below_drewN | apply below_drew1 | refine below_set ?_ GE146.out) | exact HB.out)⟩⟩
      · replace c10 := Bool.eq_false_iff.mpr c10
        subst c10
        have H1 : (estoverslaw40_CompactionPacks.j0 k l0 true t142 t143 t144) = some r := by rw [if_neg (show ¬ (false = true) by decide)] at H; exact H
        clear H
        have H := H1
        clear H1
        have H' := Aside0.mk H
        clear H
        go_wp2_with (first | ((with_reducible refine gate_callee (f := 11) rfl ?_); refine goesL_ (some 21) rfl rfl Try.func11 (by kernel_rfl) rfl #[] rfl (by (try simp only [List.map_toArray, List.map_cons, List.map_nil]); first | done | rfl | (simp only [List.length_drop, List.length_take]; rfl)) ?_; (with_reducible refine (estoverslaw40_awake.calls  true _ A7.out).mono ?_); rintro e w12 ⟨rfl, hb⟩; refine ⟨_, rfl, ?_⟩; have n0_ := Aside0.mk (blk_below (g := gb146) (o := .cells #[.int .i64 t142, .int .i64 t143, .int .i64 t144] 44 (0, 0)) (by (with_reducible repeat (first | refine blk_drewN ?_ _ | refine blk_drew ?_ | refine blk_alloc ?_ _)); refine blk_put (cs := #[.int .i64 t142, .int .i64 t143, .int .i64 0]) ?_ 2 _ rfl; (with_reducible repeat (first | refine blk_drewN ?_ _ | refine blk_drew ?_ | refine blk_alloc ?_ _)); refine blk_put (cs := #[.int .i64 t142, .int .i64 0, .int .i64 0]) ?_ 1 _ rfl; (with_reducible repeat (first | refine blk_drewN ?_ _ | refine blk_drew ?_ | refine blk_alloc ?_ _)); refine blk_put (cs := #[.int .i64 0, .int .i64 0, .int .i64 0]) ?_ 0 _ rfl; (with_reducible repeat (first | refine blk_drewN ?_ _ | refine blk_drew ?_ | refine blk_alloc ?_ _)); exact BK146.out) hb); have n1_ := Aside0.mk (below_step (by repeat (first | (with_reducible first | exact HB.out | apply below_alloc | apply pw_below_drewN | apply below_drew1 | refine below_set ?_ GE146.out) | exact HB.out)) hb); clear BK146; clear HB; have BK146 := n0_; have HB := n1_; clear n0_ n1_; (try clear hb); (try clear hb2); (try clear hk); (try clear hi)) | (go_at_call 12; (with_reducible refine (estoverslaw40_few.calls _ _ l0 false _ ?side1 ?side2 A9.out).mono ?_); (case side1 => repeat (first | exact (Kd.C_below HR0.out HB.out) | (with_reducible refine Kd.C_alloc ?_ _) | (with_reducible refine Kd.C_drewN ?_ _) | (with_reducible refine Kd.C_drew ?_))); (case side2 => exact HC0.out); rintro e w' ⟨rfl, ⟨nd, rfl⟩⟩))
        go_meet
        case rel => exact ⟨_, (true), (by first | rfl | (simp; done) | (simp [*]; done)), H', ⟨by first | omega | exact Nat.le_refl _⟩, ⟨by (with_reducible repeat (first | refine blk_drewN ?_ _ | refine blk_drew ?_ | refine blk_alloc ?_ _)); exact BK146.out⟩, ⟨by repeat (first | (with_reducible first | exact HB.out | apply below_alloc | apply pw_below_drewN | apply below_drew1 | refine below_set ?_ GE146.out) | exact HB.out)⟩⟩
    · replace c8 := Bool.eq_false_iff.mpr c8
      subst c8
      have H1 : (estoverslaw40_CompactionPacks.j0 k l0 true t142 t143 t144) = some r := by rw [if_neg (show ¬ (false = true) by decide)] at H; exact H
      clear H
      have H := H1
      clear H1
      have H' := Aside0.mk H
      clear H
      go_wp2_with (first | ((with_reducible refine gate_callee (f := 11) rfl ?_); refine goesL_ (some 21) rfl rfl Try.func11 (by kernel_rfl) rfl #[] rfl (by (try simp only [List.map_toArray, List.map_cons, List.map_nil]); first | done | rfl | (simp only [List.length_drop, List.length_take]; rfl)) ?_; (with_reducible refine (estoverslaw40_awake.calls  false _ A7.out).mono ?_); rintro e w13 ⟨rfl, hb⟩; refine ⟨_, rfl, ?_⟩; have n0_ := Aside0.mk (blk_below (g := gb146) (o := .cells #[.int .i64 t142, .int .i64 t143, .int .i64 t144] 44 (0, 0)) (by (with_reducible repeat (first | refine blk_drewN ?_ _ | refine blk_drew ?_ | refine blk_alloc ?_ _)); refine blk_put (cs := #[.int .i64 t142, .int .i64 t143, .int .i64 0]) ?_ 2 _ rfl; (with_reducible repeat (first | refine blk_drewN ?_ _ | refine blk_drew ?_ | refine blk_alloc ?_ _)); refine blk_put (cs := #[.int .i64 t142, .int .i64 0, .int .i64 0]) ?_ 1 _ rfl; (with_reducible repeat (first | refine blk_drewN ?_ _ | refine blk_drew ?_ | refine blk_alloc ?_ _)); refine blk_put (cs := #[.int .i64 0, .int .i64 0, .int .i64 0]) ?_ 0 _ rfl; (with_reducible repeat (first | refine blk_drewN ?_ _ | refine blk_drew ?_ | refine blk_alloc ?_ _)); exact BK146.out) hb); have n1_ := Aside0.mk (below_step (by repeat (first | (with_reducible first | exact HB.out | apply below_alloc | apply pw_below_drewN | apply below_drew1 | refine below_set ?_ GE146.out) | exact HB.out)) hb); clear BK146; clear HB; have BK146 := n0_; have HB := n1_; clear n0_ n1_; (try clear hb); (try clear hb2); (try clear hk); (try clear hi)))
      go_meet
      case rel => exact ⟨_, (true), (by first | rfl | (simp; done) | (simp [*]; done)), H', ⟨by first | omega | exact Nat.le_refl _⟩, ⟨by (with_reducible repeat (first | refine blk_drewN ?_ _ | refine blk_drew ?_ | refine blk_alloc ?_ _)); exact BK146.out⟩, ⟨by repeat (first | (with_reducible first | exact HB.out | apply below_alloc | apply pw_below_drewN | apply below_drew1 | refine below_set ?_ GE146.out) | exact HB.out)⟩⟩
  case rest =>
    clear HC3
    try clear c1
    try clear p2
    try clear c3
    try clear c7
    try clear c8
    try clear c10
    try clear c11
    try clear hcz6_0
    try clear hcz6_1
    try clear hcz6_2
    try clear hfz6_0
    try clear hfz6_1
    try clear hfz6_2
    obtain ⟨kq, x31_2, rfl, HA, HJ2, BK146, HB⟩ := hcut
    cases kq with
    | zero => exact absurd HA.out (by simp [estoverslaw40_CompactionPacks.j0])
    | succ kj2 =>
      have H := HA.out
      clear HA
      simp only [estoverslaw40_CompactionPacks.j0] at H
      by_cases c14 : x31_2 = true
      · subst c14
        have H1 : ((estoverslaw40_awake.f).bind fun t149 => (some t149)) = some r := by rw [if_pos rfl] at H; exact H
        clear H
        have H := H1
        clear H1
        replace H := Option.bind_eq_some_iff.mp H
        obtain ⟨t149, A150, H⟩ := H
        replace H : (some t149) = some r := H
        have A15 := Aside0.mk A150
        clear A150
        obtain rfl := Option.some.inj H
        go_wp2_with (first | ((with_reducible refine gate_callee (f := 11) rfl ?_); refine goesL_ (some 32) rfl rfl Try.func11 (by kernel_rfl) rfl #[] rfl (by (try simp only [List.map_toArray, List.map_cons, List.map_nil]); first | done | rfl | (simp only [List.length_drop, List.length_take]; rfl)) ?_; (with_reducible refine (estoverslaw40_awake.calls  t149 _ A15.out).mono ?_); rintro e w16 ⟨rfl, hb⟩; refine ⟨_, rfl, ?_⟩; have n0_ := Aside0.mk (blk_below (g := gb146) (o := .cells #[.int .i64 t142, .int .i64 t143, .int .i64 t144] 44 (0, 0)) (by (with_reducible repeat (first | refine blk_drewN ?_ _ | refine blk_drew ?_ | refine blk_alloc ?_ _)); exact BK146.out) hb); have n1_ := Aside0.mk (below_step (by repeat (first | (with_reducible first | exact HB.out | apply below_alloc | apply pw_below_drewN | apply below_drew1 | refine below_set ?_ GE146.out) | exact HB.out)) hb); clear BK146; clear HB; have BK146 := n0_; have HB := n1_; clear n0_ n1_; (try clear hb); (try clear hb2); (try clear hk); (try clear hi)))
        go_ret
        exact ⟨by first | rfl | (simp [errW_none, errW_some] <;> rfl) | (simp [*, errW_none, errW_some] <;> rfl), by repeat (first | (with_reducible first | exact HB.out | apply below_alloc | apply pw_below_drewN | apply below_drew1 | refine below_set ?_ GE146.out) | exact HB.out)⟩
      · replace c14 := Bool.eq_false_iff.mpr c14
        subst c14
        have H1 : ((compaction_Plan.f kj2 l0).bind fun bt150 => ((compaction_Apply.f l0 bt150.1).bind fun bt154 => (if bt150.2 = 0 then (if bt154.2 = 0 then (estoverslaw40_CompactionPacks.j1 kj2 l0 bt150.1 bt154.1 ((bt154.1.length : Int) != (l0.length : Int)) t142 t143 t144) else (estoverslaw40_CompactionPacks.j1 kj2 l0 bt150.1 bt154.1 true t142 t143 t144)) else (estoverslaw40_CompactionPacks.j1 kj2 l0 bt150.1 bt154.1 true t142 t143 t144)))) = some r := by rw [if_neg (show ¬ (false = true) by decide)] at H; exact H
        clear H
        have H := H1
        clear H1
        replace H := Option.bind_eq_some_iff.mp H
        obtain ⟨⟨t150, t151⟩, A170, H⟩ := H
        replace H : ((compaction_Apply.f l0 t150).bind fun bt154 => (if t151 = 0 then (if bt154.2 = 0 then (estoverslaw40_CompactionPacks.j1 kj2 l0 t150 bt154.1 ((bt154.1.length : Int) != (l0.length : Int)) t142 t143 t144) else (estoverslaw40_CompactionPacks.j1 kj2 l0 t150 bt154.1 true t142 t143 t144)) else (estoverslaw40_CompactionPacks.j1 kj2 l0 t150 bt154.1 true t142 t143 t144))) = some r := H
        have A17 := Aside0.mk A170
        clear A170
        replace H := Option.bind_eq_some_iff.mp H
        obtain ⟨⟨t154, t155⟩, A180, H⟩ := H
        replace H : (if t151 = 0 then (if t155 = 0 then (estoverslaw40_CompactionPacks.j1 kj2 l0 t150 t154 ((t154.length : Int) != (l0.length : Int)) t142 t143 t144) else (estoverslaw40_CompactionPacks.j1 kj2 l0 t150 t154 true t142 t143 t144)) else (estoverslaw40_CompactionPacks.j1 kj2 l0 t150 t154 true t142 t143 t144)) = some r := H
        have A18 := Aside0.mk A180
        clear A180
        have HC19 := Aside0.mk H
        clear H
        go_upto_region 6 with (first | ((with_reducible refine gate_callee (f := 15) rfl ?_); refine goesL_ (some 35) rfl rfl Try.func15 (by kernel_rfl) rfl #[.slice A0 l0.length c0] rfl (by (try simp only [List.map_toArray, List.map_cons, List.map_nil]); first | done | rfl | (simp only [List.length_drop, List.length_take]; rfl)) ?_; (with_reducible refine (compaction_Plan.calls kj2 _ _ l0 t150 t151 _ ?side1 ?side2 A17.out).mono ?_); (case side1 => repeat (first | exact (Kd.C_below HR0.out HB.out) | (with_reducible refine Kd.C_alloc ?_ _) | (with_reducible refine Kd.C_drewN ?_ _) | (with_reducible refine Kd.C_drew ?_))); (case side2 => exact HC0.out); rintro e w20 ⟨v152, rfl, ho0, hb⟩; refine ⟨_, rfl, ?_⟩; have n0_ := Aside0.mk (Kd.R_lower ho0 (below_size (by repeat (first | (with_reducible first | exact HB.out | apply below_alloc | apply pw_below_drewN | apply below_drew1 | refine below_set ?_ GE146.out) | exact HB.out)))); have n1_ := Aside0.mk (blk_below (g := gb146) (o := .cells #[.int .i64 t142, .int .i64 t143, .int .i64 t144] 44 (0, 0)) (by (with_reducible repeat (first | refine blk_drewN ?_ _ | refine blk_drew ?_ | refine blk_alloc ?_ _)); exact BK146.out) hb); have n2_ := Aside0.mk (below_step (by repeat (first | (with_reducible first | exact HB.out | apply below_alloc | apply pw_below_drewN | apply below_drew1 | refine below_set ?_ GE146.out) | exact HB.out)) hb); clear BK146; clear HB; have HO153 := n0_; have BK146 := n1_; have HB := n2_; clear n0_ n1_ n2_; (try clear hb); (try clear hb2); (try clear hk); (try clear hi); (try clear ho0); obtain ⟨Ao21, co21, eo21⟩ := Kd.R_slice HO153.out; subst eo21) | ((with_reducible refine gate_callee (f := 20) rfl ?_); refine goesL_ (some 41) rfl rfl Try.func20 (by kernel_rfl) rfl #[.slice A0 l0.length c0, .slice Ao21 t150.length co21] rfl (by (try simp only [List.map_toArray, List.map_cons, List.map_nil]); first | done | rfl | (simp only [List.length_drop, List.length_take]; rfl)) ?_; (with_reducible refine (compaction_Apply.calls _ _ l0 _ _ t150 t154 t155 _ ?side1 ?side2 ?side3 ?side4 A18.out).mono ?_); (case side1 => repeat (first | exact (Kd.C_below HR0.out HB.out) | (with_reducible refine Kd.C_alloc ?_ _) | (with_reducible refine Kd.C_drewN ?_ _) | (with_reducible refine Kd.C_drew ?_))); (case side2 => exact HC0.out); (case side3 => repeat (first | exact (Kd.R_reads' HO153.out).2.2 | (with_reducible refine Kd.C_alloc ?_ _) | (with_reducible refine Kd.C_drewN ?_ _) | (with_reducible refine Kd.C_drew ?_))); (case side4 => exact (Kd.R_reads' HO153.out).2.1); rintro e w22 ⟨v156, rfl, ho0, hb⟩; refine ⟨_, rfl, ?_⟩; have n0_ := Aside0.mk (Kd.R_below (by (with_reducible repeat (first | apply Kd.R_alloc | apply Kd.R_drewN | apply Kd.R_drew)); exact HO153.out) hb); have n1_ := Aside0.mk (Kd.R_lower ho0 (below_size (by repeat (first | (with_reducible first | exact HB.out | apply below_alloc | apply pw_below_drewN | apply below_drew1 | refine below_set ?_ GE146.out) | exact HB.out)))); have n2_ := Aside0.mk (blk_below (g := gb146) (o := .cells #[.int .i64 t142, .int .i64 t143, .int .i64 t144] 44 (0, 0)) (by (with_reducible repeat (first | refine blk_drewN ?_ _ | refine blk_drew ?_ | refine blk_alloc ?_ _)); exact BK146.out) hb); have n3_ := Aside0.mk (below_step (by repeat (first | (with_reducible first | exact HB.out | apply below_alloc | apply pw_below_drewN | apply below_drew1 | refine below_set ?_ GE146.out) | exact HB.out)) hb); clear HO153; clear BK146; clear HB; have HO153 := n0_; have HO157 := n1_; have BK146 := n2_; have HB := n3_; clear n0_ n1_ n2_ n3_; (try clear hb); (try clear hb2); (try clear hk); (try clear hi); (try clear ho0)))
        (try simp only [Act.put, List.setIfInBounds_toArray, List.set_cons_zero, List.set_cons_succ])
        go_cut [56] (fun v56 wc => ∃ (kq : Nat) (x56_18 : Bool), v56 = .bool x56_18 ∧ Aside0 (estoverslaw40_CompactionPacks.j1 kq l0 t150 t154 x56_18 t142 t143 t144 = some r) ∧ Aside0 (kq ≤ kj2) ∧ Aside0 (Kd.R k26 26 wc w.heap.size (fun _ => True) (.slice Ao21 t150.length co21) t150) ∧ Aside0 (Kd.R (Kd.int .i64) 3 wc w.heap.size (fun _ => True) v156 t154) ∧ Aside0 (wc.heap[gb146]? = some (.cells #[.int .i64 t142, .int .i64 t143, .int .i64 t144] 44 (0, 0))) ∧ Aside0 (Below w.heap.size w wc))
        case first =>
          have H := HC19.out
          clear HC19
          by_cases c23 : t151 = 0
          · rw [if_pos c23] at H
            have c23b0 : (t151 == 0) = true := beq_iff_eq.mpr c23
            have c23b1 : (t151 != 0) = false := bne_eq_false_iff_eq.mpr c23
            clear c23
            (first | rw [c23b0] | (simp only [i64_w, i32_w]; rw [c23b0]) | skip)
            by_cases c24 : t155 = 0
            · rw [if_pos c24] at H
              have c24b0 : (t155 == 0) = true := beq_iff_eq.mpr c24
              have c24b1 : (t155 != 0) = false := bne_eq_false_iff_eq.mpr c24
              clear c24
              have H' := Aside0.mk H
              clear H
              obtain ⟨Ao25, co25, eo25⟩ := Kd.R_slice HO157.out
              subst eo25
              go_wp2
              go_meet
              case rel => exact ⟨_, (((t154.length : Int) != (l0.length : Int))), (by first | rfl | (simp; done) | (simp [*]; done)), H', ⟨by have := HJ2.out; first | omega | exact Nat.le_refl _⟩, ⟨by (with_reducible repeat (first | apply Kd.R_alloc | apply Kd.R_drewN | apply Kd.R_drew)); exact HO153.out⟩, ⟨by (with_reducible repeat (first | apply Kd.R_alloc | apply Kd.R_drewN | apply Kd.R_drew)); exact HO157.out⟩, ⟨by (with_reducible repeat (first | refine blk_drewN ?_ _ | refine blk_drew ?_ | refine blk_alloc ?_ _)); exact BK146.out⟩, ⟨by repeat (first | (with_reducible first | exact HB.out | apply below_alloc | apply pw_below_drewN | apply below_drew1 | refine below_set ?_ GE146.out) | exact HB.out)⟩⟩
            · rw [if_neg c24] at H
              have c24b0 : (t155 == 0) = false := beq_eq_false_iff_ne.mpr c24
              have c24b1 : (t155 != 0) = true := bne_iff_ne.mpr c24
              have H' := Aside0.mk H
              clear H
              go_wp2
              go_meet
              case rel => exact ⟨_, (true), (by first | rfl | (simp; done) | (simp [*]; done)), H', ⟨by have := HJ2.out; first | omega | exact Nat.le_refl _⟩, ⟨by (with_reducible repeat (first | apply Kd.R_alloc | apply Kd.R_drewN | apply Kd.R_drew)); exact HO153.out⟩, ⟨by (with_reducible repeat (first | apply Kd.R_alloc | apply Kd.R_drewN | apply Kd.R_drew)); exact HO157.out⟩, ⟨by (with_reducible repeat (first | refine blk_drewN ?_ _ | refine blk_drew ?_ | refine blk_alloc ?_ _)); exact BK146.out⟩, ⟨by repeat (first | (with_reducible first | exact HB.out | apply below_alloc | apply pw_below_drewN | apply below_drew1 | refine below_set ?_ GE146.out) | exact HB.out)⟩⟩
          · rw [if_neg c23] at H
            have c23b0 : (t151 == 0) = false := beq_eq_false_iff_ne.mpr c23
            have c23b1 : (t151 != 0) = true := bne_iff_ne.mpr c23
            (first | rw [c23b0] | (simp only [i64_w, i32_w]; rw [c23b0]) | skip)
            have H' := Aside0.mk H
            clear H
            go_wp2
            go_meet
            case rel => exact ⟨_, (true), (by first | rfl | (simp; done) | (simp [*]; done)), H', ⟨by have := HJ2.out; first | omega | exact Nat.le_refl _⟩, ⟨by (with_reducible repeat (first | apply Kd.R_alloc | apply Kd.R_drewN | apply Kd.R_drew)); exact HO153.out⟩, ⟨by (with_reducible repeat (first | apply Kd.R_alloc | apply Kd.R_drewN | apply Kd.R_drew)); exact HO157.out⟩, ⟨by (with_reducible repeat (first | refine blk_drewN ?_ _ | refine blk_drew ?_ | refine blk_alloc ?_ _)); exact BK146.out⟩, ⟨by repeat (first | (with_reducible first | exact HB.out | apply below_alloc | apply pw_below_drewN | apply below_drew1 | refine below_set ?_ GE146.out) | exact HB.out)⟩⟩
        case rest =>
          clear HC19
          try clear c1
          try clear c2
          try clear p2
          try clear c3
          try clear c7
          try clear c8
          try clear c10
          try clear c11
          try clear c14
          try clear c15
          try clear c20
          try clear c23
          try clear c23b0
          try clear c23b1
          try clear c24
          try clear c24b0
          try clear c24b1
          try clear hcz6_0
          try clear hcz6_1
          try clear hcz6_2
          try clear hfz6_0
          try clear hfz6_1
          try clear hfz6_2
          try clear p2
          obtain ⟨kq, x56_18, rfl, HA, HJ18, HO_5, HO_7, BK146, HB⟩ := hcut
          cases kq with
          | zero => exact absurd HA.out (by simp [estoverslaw40_CompactionPacks.j1])
          | succ kj18 =>
            have H := HA.out
            clear HA
            simp only [estoverslaw40_CompactionPacks.j1] at H
            by_cases c26 : x56_18 = true
            · subst c26
              have H1 : (some false) = some r := by rw [if_pos rfl] at H; exact H
              clear H
              have H := H1
              clear H1
              obtain rfl := Option.some.inj H
              go_wp2
              go_ret
              exact ⟨by first | rfl | (simp [errW_none, errW_some] <;> rfl) | (simp [*, errW_none, errW_some] <;> rfl), by repeat (first | (with_reducible first | exact HB.out | apply below_alloc | apply pw_below_drewN | apply below_drew1 | refine below_set ?_ GE146.out) | exact HB.out)⟩
            · replace c26 := Bool.eq_false_iff.mpr c26
              subst c26
              have H1 : ((estoverslaw40_kinds.f kj18 t154).bind fun bt158 => (if bt158.2.2.2 = true then (estoverslaw40_CompactionPacks.j2 kj18 l0 t150 t154 (!(bt158.1 == t142) || (!(bt158.2.1 == t143) || (!(bt158.2.2.1 == t144)))) t142 t143 t144) else (estoverslaw40_CompactionPacks.j2 kj18 l0 t150 t154 true t142 t143 t144))) = some r := by rw [if_neg (show ¬ (false = true) by decide)] at H; exact H
              clear H
              have H := H1
              clear H1
              replace H := Option.bind_eq_some_iff.mp H
              obtain ⟨⟨t158, t159, t160, t161⟩, A270, H⟩ := H
              replace H : (if t161 = true then (estoverslaw40_CompactionPacks.j2 kj18 l0 t150 t154 (!(t158 == t142) || (!(t159 == t143) || (!(t160 == t144)))) t142 t143 t144) else (estoverslaw40_CompactionPacks.j2 kj18 l0 t150 t154 true t142 t143 t144)) = some r := H
              have A27 := Aside0.mk A270
              clear A270
              have HC28 := Aside0.mk H
              clear H
              obtain ⟨Ao29, co29, eo29⟩ := Kd.R_slice HO_7.out
              subst eo29
              go_upto_region 9 with (first | ((with_reducible refine gate_callee (f := 31) rfl ?_); refine goesL_ (some 59) rfl rfl Try.func31 (by kernel_rfl) rfl #[.slice Ao29 t154.length co29] rfl (by (try simp only [List.map_toArray, List.map_cons, List.map_nil]); first | done | rfl | (simp only [List.length_drop, List.length_take]; rfl)) ?_; (with_reducible refine (estoverslaw40_kinds.calls kj18 _ _ t154 t158 t159 t160 t161 _ ?side1 ?side2 A27.out).mono ?_); (case side1 => repeat (first | exact (Kd.R_reads' HO_7.out).2.2 | (with_reducible refine Kd.C_alloc ?_ _) | (with_reducible refine Kd.C_drewN ?_ _) | (with_reducible refine Kd.C_drew ?_))); (case side2 => exact (Kd.R_reads' HO_7.out).2.1); rintro e w30 ⟨rfl, hb⟩; refine ⟨_, rfl, ?_⟩; have n0_ := Aside0.mk (Kd.R_below (by (with_reducible repeat (first | apply Kd.R_alloc | apply Kd.R_drewN | apply Kd.R_drew)); exact HO_5.out) hb); have n1_ := Aside0.mk (Kd.R_below (by (with_reducible repeat (first | apply Kd.R_alloc | apply Kd.R_drewN | apply Kd.R_drew)); exact HO_7.out) hb); have n2_ := Aside0.mk (blk_below (g := gb146) (o := .cells #[.int .i64 t142, .int .i64 t143, .int .i64 t144] 44 (0, 0)) (by (with_reducible repeat (first | refine blk_drewN ?_ _ | refine blk_drew ?_ | refine blk_alloc ?_ _)); exact BK146.out) hb); have n3_ := Aside0.mk (below_step (by repeat (first | (with_reducible first | exact HB.out | apply below_alloc | apply pw_below_drewN | apply below_drew1 | refine below_set ?_ GE146.out) | exact HB.out)) hb); clear HO_5; clear HO_7; clear BK146; clear HB; have HO_5 := n0_; have HO_7 := n1_; have BK146 := n2_; have HB := n3_; clear n0_ n1_ n2_ n3_; (try clear hb); (try clear hb2); (try clear hk); (try clear hi)) | ((with_reducible refine gate_dst (N := 9) rfl ?_); (try (refine gate_guard (by rfl) ?_; dsimp only)); refine box_event ?hg (N := 9) ?hd (cs := #[.int .i64 0, .int .i64 0, .int .i64 0]) (t := 44) ?hr ?_; (case hd => rfl); (case hg => rfl); (case hr => first | (go_simp; done) | (go_simp; rfl)); intro gb162 hg w31 hbox hb; have n0_ := Aside0.mk (Kd.R_below (by (with_reducible repeat (first | apply Kd.R_alloc | apply Kd.R_drewN | apply Kd.R_drew)); exact HO_5.out) hb); have n1_ := Aside0.mk (Kd.R_below (by (with_reducible repeat (first | apply Kd.R_alloc | apply Kd.R_drewN | apply Kd.R_drew)); exact HO_7.out) hb); have n2_ := Aside0.mk (blk_below (g := gb146) (o := .cells #[.int .i64 t142, .int .i64 t143, .int .i64 t144] 44 (0, 0)) (by (with_reducible repeat (first | refine blk_drewN ?_ _ | refine blk_drew ?_ | refine blk_alloc ?_ _)); exact BK146.out) hb); have n3_ := Aside0.mk (below_step (by repeat (first | (with_reducible first | exact HB.out | apply below_alloc | apply pw_below_drewN | apply below_drew1 | refine below_set ?_ GE146.out) | exact HB.out)) hb); have n4_ := Aside0.mk (hbox); have n5_ := Aside0.mk ((by rw [hg]; exact (below_size (by repeat (first | (with_reducible first | exact HB.out | apply below_alloc | apply pw_below_drewN | apply below_drew1 | refine below_set ?_ GE146.out) | exact HB.out))) : w.heap.size ≤ gb162)); have n6_ := Aside0.mk ((by rw [hg]; exact (below_size (by repeat (first | (with_reducible first | exact HB.out | apply below_alloc | apply pw_below_drewN | apply below_drew1 | refine below_set ?_ GE146.out) | exact HB.out))) : w.heap.size ≤ gb162)); have n7_ := Aside0.mk ((by rw [hg]; exact Nat.ne_of_lt (blk_lt (g := gb146) (o := .cells #[.int .i64 t142, .int .i64 t143, .int .i64 t144] 44 (0, 0)) (by (with_reducible repeat (first | refine blk_drewN ?_ _ | refine blk_drew ?_ | refine blk_alloc ?_ _)); exact BK146.out)) : gb146 ≠ gb162)); have n8_ := Aside0.mk ((by rw [hg]; exact Nat.ne_of_gt (blk_lt (g := gb146) (o := .cells #[.int .i64 t142, .int .i64 t143, .int .i64 t144] 44 (0, 0)) (by (with_reducible repeat (first | refine blk_drewN ?_ _ | refine blk_drew ?_ | refine blk_alloc ?_ _)); exact BK146.out)) : gb162 ≠ gb146)); clear HO_5; clear HO_7; clear BK146; clear HB; have HO_5 := n0_; have HO_7 := n1_; have BK146 := n2_; have HB := n3_; have BK162 := n4_; have GW162 := n5_; have GE162 := n6_; have NB146_162 := n7_; have NB162_146 := n8_; clear n0_ n1_ n2_ n3_ n4_ n5_ n6_ n7_ n8_; clear hb hbox hg; have hnb32 := NB162_146.out; have hnc32 := NB146_162.out; have hcz33_0 : w31.cell? ⟨gb162, 0, none⟩ = some (.int .i64 0) := (blk_cell BK162.out 0).trans rfl; have hcz33_1 : w31.cell? ⟨gb162, 1, none⟩ = some (.int .i64 0) := (blk_cell BK162.out 1).trans rfl; have hcz33_2 : w31.cell? ⟨gb162, 2, none⟩ = some (.int .i64 0) := (blk_cell BK162.out 2).trans rfl; have hfz33_0 := blk_frozen BK162.out 0; have hfz33_1 := blk_frozen BK162.out 1; have hfz33_2 := blk_frozen BK162.out 2))
              (try simp only [Act.put, List.setIfInBounds_toArray, List.set_cons_zero, List.set_cons_succ])
              go_cut [68] (fun v68 wc => ∃ (kq : Nat) (x68_27 : Bool), v68 = .bool x68_27 ∧ Aside0 (estoverslaw40_CompactionPacks.j2 kq l0 t150 t154 x68_27 t142 t143 t144 = some r) ∧ Aside0 (kq ≤ kj18) ∧ Aside0 (Kd.R k26 26 wc w.heap.size (fun _ => True) (.slice Ao21 t150.length co21) t150) ∧ Aside0 (Kd.R (Kd.int .i64) 3 wc w.heap.size (fun _ => True) (.slice Ao29 t154.length co29) t154) ∧ Aside0 (wc.heap[gb146]? = some (.cells #[.int .i64 t142, .int .i64 t143, .int .i64 t144] 44 (0, 0))) ∧ Aside0 (wc.heap[gb162]? = some (.cells #[.int .i64 t158, .int .i64 t159, .int .i64 t160] 44 (0, 0))) ∧ Aside0 (Below w.heap.size w wc))
              case first =>
                have H := HC28.out
                clear HC28
                by_cases c34 : t161 = true
                · subst c34
                  have H1 : (estoverslaw40_CompactionPacks.j2 kj18 l0 t150 t154 (!(t158 == t142) || (!(t159 == t143) || (!(t160 == t144)))) t142 t143 t144) = some r := by rw [if_pos rfl] at H; exact H
                  clear H
                  have H := H1
                  clear H1
                  have H' := Aside0.mk H
                  clear H
                  have hnb35 := NB162_146.out
                  have hnc35 := NB146_162.out
                  have hcz36_0 : w31.cell? ⟨gb162, 0, none⟩ = some (.int .i64 0) := (blk_cell BK162.out 0).trans rfl
                  have hcz36_1 : w31.cell? ⟨gb162, 1, none⟩ = some (.int .i64 0) := (blk_cell BK162.out 1).trans rfl
                  have hcz36_2 : w31.cell? ⟨gb162, 2, none⟩ = some (.int .i64 0) := (blk_cell BK162.out 2).trans rfl
                  have hfz36_0 := blk_frozen BK162.out 0
                  have hfz36_1 := blk_frozen BK162.out 1
                  have hfz36_2 := blk_frozen BK162.out 2
                  have hcz37_0 : w31.cell? ⟨gb146, 0, none⟩ = some (.int .i64 t142) := (blk_cell BK146.out 0).trans rfl
                  have hcz37_1 : w31.cell? ⟨gb146, 1, none⟩ = some (.int .i64 t143) := (blk_cell BK146.out 1).trans rfl
                  have hcz37_2 : w31.cell? ⟨gb146, 2, none⟩ = some (.int .i64 t144) := (blk_cell BK146.out 2).trans rfl
                  have hfz37_0 := blk_frozen BK146.out 0
                  have hfz37_1 := blk_frozen BK146.out 1
                  have hfz37_2 := blk_frozen BK146.out 2
                  go_wp2
                  go_meet
                  case rel => exact ⟨_, ((!(t158 == t142) || (!(t159 == t143) || (!(t160 == t144))))), (by first | rfl | (simp; done) | (simp [*]; done)), H', ⟨by have := HJ2.out; have := HJ18.out; first | omega | exact Nat.le_refl _⟩, ⟨by (with_reducible repeat (first | apply Kd.R_alloc | apply Kd.R_drewN | apply Kd.R_drew)); exact Kd.R_mono (Kd.R_far (p := ⟨gb162, 2, none⟩) (Kd.R_far (p := ⟨gb162, 1, none⟩) (Kd.R_far (p := ⟨gb162, 0, none⟩) (Kd.R_types HO_5.out BK162.out (by decide)) (fun _ hk => hk.2) (.int .i64 t158)) (fun _ hk => hk.2) (.int .i64 t159)) (fun _ hk => hk.2) (.int .i64 t160)) (fun _ hk => trivial)⟩, ⟨by (with_reducible repeat (first | apply Kd.R_alloc | apply Kd.R_drewN | apply Kd.R_drew)); exact Kd.R_mono (Kd.R_far (p := ⟨gb162, 2, none⟩) (Kd.R_far (p := ⟨gb162, 1, none⟩) (Kd.R_far (p := ⟨gb162, 0, none⟩) (Kd.R_types HO_7.out BK162.out (by decide)) (fun _ hk => hk.2) (.int .i64 t158)) (fun _ hk => hk.2) (.int .i64 t159)) (fun _ hk => hk.2) (.int .i64 t160)) (fun _ hk => trivial)⟩, ⟨by (with_reducible repeat (first | refine blk_drewN ?_ _ | refine blk_drew ?_ | refine blk_alloc ?_ _)); refine blk_far ?_ NB146_162.out _; (with_reducible repeat (first | refine blk_drewN ?_ _ | refine blk_drew ?_ | refine blk_alloc ?_ _)); refine blk_far ?_ NB146_162.out _; (with_reducible repeat (first | refine blk_drewN ?_ _ | refine blk_drew ?_ | refine blk_alloc ?_ _)); refine blk_far ?_ NB146_162.out _; (with_reducible repeat (first | refine blk_drewN ?_ _ | refine blk_drew ?_ | refine blk_alloc ?_ _)); exact BK146.out⟩, ⟨by (with_reducible repeat (first | refine blk_drewN ?_ _ | refine blk_drew ?_ | refine blk_alloc ?_ _)); refine blk_put (cs := #[.int .i64 t158, .int .i64 t159, .int .i64 0]) ?_ 2 _ rfl; (with_reducible repeat (first | refine blk_drewN ?_ _ | refine blk_drew ?_ | refine blk_alloc ?_ _)); refine blk_put (cs := #[.int .i64 t158, .int .i64 0, .int .i64 0]) ?_ 1 _ rfl; (with_reducible repeat (first | refine blk_drewN ?_ _ | refine blk_drew ?_ | refine blk_alloc ?_ _)); refine blk_put (cs := #[.int .i64 0, .int .i64 0, .int .i64 0]) ?_ 0 _ rfl; (with_reducible repeat (first | refine blk_drewN ?_ _ | refine blk_drew ?_ | refine blk_alloc ?_ _)); exact BK162.out⟩, ⟨by repeat (first | (with_reducible first | exact HB.out | apply below_alloc | apply pw_below_drewN | apply below_drew1 | refine below_set ?_ GE146.out | refine below_set ?_ GE162.out) | exact HB.out)⟩⟩
                · replace c34 := Bool.eq_false_iff.mpr c34
                  subst c34
                  have H1 : (estoverslaw40_CompactionPacks.j2 kj18 l0 t150 t154 true t142 t143 t144) = some r := by rw [if_neg (show ¬ (false = true) by decide)] at H; exact H
                  clear H
                  have H := H1
                  clear H1
                  have H' := Aside0.mk H
                  clear H
                  go_wp2
                  go_meet
                  case rel => exact ⟨_, (true), (by first | rfl | (simp; done) | (simp [*]; done)), H', ⟨by have := HJ2.out; have := HJ18.out; first | omega | exact Nat.le_refl _⟩, ⟨by (with_reducible repeat (first | apply Kd.R_alloc | apply Kd.R_drewN | apply Kd.R_drew)); exact Kd.R_mono (Kd.R_far (p := ⟨gb162, 2, none⟩) (Kd.R_far (p := ⟨gb162, 1, none⟩) (Kd.R_far (p := ⟨gb162, 0, none⟩) (Kd.R_types HO_5.out BK162.out (by decide)) (fun _ hk => hk.2) (.int .i64 t158)) (fun _ hk => hk.2) (.int .i64 t159)) (fun _ hk => hk.2) (.int .i64 t160)) (fun _ hk => trivial)⟩, ⟨by (with_reducible repeat (first | apply Kd.R_alloc | apply Kd.R_drewN | apply Kd.R_drew)); exact Kd.R_mono (Kd.R_far (p := ⟨gb162, 2, none⟩) (Kd.R_far (p := ⟨gb162, 1, none⟩) (Kd.R_far (p := ⟨gb162, 0, none⟩) (Kd.R_types HO_7.out BK162.out (by decide)) (fun _ hk => hk.2) (.int .i64 t158)) (fun _ hk => hk.2) (.int .i64 t159)) (fun _ hk => hk.2) (.int .i64 t160)) (fun _ hk => trivial)⟩, ⟨by (with_reducible repeat (first | refine blk_drewN ?_ _ | refine blk_drew ?_ | refine blk_alloc ?_ _)); refine blk_far ?_ NB146_162.out _; (with_reducible repeat (first | refine blk_drewN ?_ _ | refine blk_drew ?_ | refine blk_alloc ?_ _)); refine blk_far ?_ NB146_162.out _; (with_reducible repeat (first | refine blk_drewN ?_ _ | refine blk_drew ?_ | refine blk_alloc ?_ _)); refine blk_far ?_ NB146_162.out _; (with_reducible repeat (first | refine blk_drewN ?_ _ | refine blk_drew ?_ | refine blk_alloc ?_ _)); exact BK146.out⟩, ⟨by (with_reducible repeat (first | refine blk_drewN ?_ _ | refine blk_drew ?_ | refine blk_alloc ?_ _)); refine blk_put (cs := #[.int .i64 t158, .int .i64 t159, .int .i64 0]) ?_ 2 _ rfl; (with_reducible repeat (first | refine blk_drewN ?_ _ | refine blk_drew ?_ | refine blk_alloc ?_ _)); refine blk_put (cs := #[.int .i64 t158, .int .i64 0, .int .i64 0]) ?_ 1 _ rfl; (with_reducible repeat (first | refine blk_drewN ?_ _ | refine blk_drew ?_ | refine blk_alloc ?_ _)); refine blk_put (cs := #[.int .i64 0, .int .i64 0, .int .i64 0]) ?_ 0 _ rfl; (with_reducible repeat (first | refine blk_drewN ?_ _ | refine blk_drew ?_ | refine blk_alloc ?_ _)); exact BK162.out⟩, ⟨by repeat (first | (with_reducible first | exact HB.out | apply below_alloc | apply pw_below_drewN | apply below_drew1 | refine below_set ?_ GE146.out | refine below_set ?_ GE162.out) | exact HB.out)⟩⟩
              case rest =>
                clear HC28
                try clear c1
                try clear c2
                try clear p2
                try clear c3
                try clear c7
                try clear c8
                try clear c10
                try clear c11
                try clear c14
                try clear c15
                try clear c20
                try clear c23
                try clear c23b0
                try clear c23b1
                try clear c24
                try clear c24b0
                try clear c24b1
                try clear c26
                try clear c31
                try clear c32
                try clear c34
                try clear c35
                try clear hcz33_0
                try clear hcz33_1
                try clear hcz33_2
                try clear hcz36_0
                try clear hcz36_1
                try clear hcz36_2
                try clear hcz37_0
                try clear hcz37_1
                try clear hcz37_2
                try clear hcz6_0
                try clear hcz6_1
                try clear hcz6_2
                try clear hfz33_0
                try clear hfz33_1
                try clear hfz33_2
                try clear hfz36_0
                try clear hfz36_1
                try clear hfz36_2
                try clear hfz37_0
                try clear hfz37_1
                try clear hfz37_2
                try clear hfz6_0
                try clear hfz6_1
                try clear hfz6_2
                try clear p2
                obtain ⟨kq, x68_27, rfl, HA, HJ27, HO_5, HO_7, BK146, BK162, HB⟩ := hcut
                cases kq with
                | zero => exact absurd HA.out (by simp [estoverslaw40_CompactionPacks.j2])
                | succ kj27 =>
                  have H := HA.out
                  clear HA
                  simp only [estoverslaw40_CompactionPacks.j2] at H
                  by_cases c38 : x68_27 = true
                  · subst c38
                    have H1 : (some false) = some r := by rw [if_pos rfl] at H; exact H
                    clear H
                    have H := H1
                    clear H1
                    obtain rfl := Option.some.inj H
                    go_wp2
                    go_ret
                    exact ⟨by first | rfl | (simp [errW_none, errW_some] <;> rfl) | (simp [*, errW_none, errW_some] <;> rfl), by repeat (first | (with_reducible first | exact HB.out | apply below_alloc | apply pw_below_drewN | apply below_drew1 | refine below_set ?_ GE146.out | refine below_set ?_ GE162.out) | exact HB.out)⟩
                  · replace c38 := Bool.eq_false_iff.mpr c38
                    subst c38
                    have H1 : (estoverslaw40_CompactionPacks.l0 kj27 l0 t150 false 0 0 t154 (t154.length : Int) 0 t142 t143 t144) = some r := by rw [if_neg (show ¬ (false = true) by decide)] at H; exact H
                    clear H
                    have H := H1
                    clear H1
                    have H' := Aside0.mk H
                    clear H
                    go_wp2
                    go_loopg [11, 12, 13, 71] kj27 (fun kq v11 v12 v13 v71 w' => ∃ (x11_4 : Bool) (x12_4 : Int) (x13_4 : Int) (x71_4 : Int), v11 = .bool x11_4 ∧ v12 = .int .i64 x12_4 ∧ v13 = .int .i64 x13_4 ∧ v71 = .int .i64 x71_4 ∧ Aside0 (estoverslaw40_CompactionPacks.l0 kq l0 t150 x11_4 x12_4 x13_4 t154 (t154.length : Int) x71_4 t142 t143 t144 = some r) ∧ Aside0 (kq ≤ kj27) ∧ Aside0 (Kd.R k26 26 w' w.heap.size (fun _ => True) (.slice Ao21 t150.length co21) t150) ∧ Aside0 (Kd.R (Kd.int .i64) 3 w' w.heap.size (fun _ => True) (.slice Ao29 t154.length co29) t154) ∧ Aside0 (w'.heap[gb146]? = some (.cells #[.int .i64 t142, .int .i64 t143, .int .i64 t144] 44 (0, 0))) ∧ Aside0 (w'.heap[gb162]? = some (.cells #[.int .i64 t158, .int .i64 t159, .int .i64 t160] 44 (0, 0))) ∧ Aside0 (Below w.heap.size w w'))
                    case atStart => exact ⟨(false), (0), (0), (0), (by first | rfl | (simp; done) | (simp [*]; done)), (by first | rfl | (simp; done) | (simp [*]; done)), (by first | rfl | (simp; done) | (simp [*]; done)), (by first | rfl | (simp; done) | (simp [*]; done)), H', ⟨Nat.le_refl _⟩, ⟨by (with_reducible repeat (first | apply Kd.R_alloc | apply Kd.R_drewN | apply Kd.R_drew)); exact HO_5.out⟩, ⟨by (with_reducible repeat (first | apply Kd.R_alloc | apply Kd.R_drewN | apply Kd.R_drew)); exact HO_7.out⟩, ⟨by (with_reducible repeat (first | refine blk_drewN ?_ _ | refine blk_drew ?_ | refine blk_alloc ?_ _)); exact BK146.out⟩, ⟨by (with_reducible repeat (first | refine blk_drewN ?_ _ | refine blk_drew ?_ | refine blk_alloc ?_ _)); exact BK162.out⟩, ⟨by repeat (first | (with_reducible first | exact HB.out | apply below_alloc | apply pw_below_drewN | apply below_drew1 | refine below_set ?_ GE146.out | refine below_set ?_ GE162.out) | exact HB.out)⟩⟩
                    case round =>
                      clear H'
                      try clear c1
                      try clear c2
                      try clear p2
                      try clear c3
                      try clear c7
                      try clear c8
                      try clear c10
                      try clear c11
                      try clear c14
                      try clear c15
                      try clear c20
                      try clear c23
                      try clear c23b0
                      try clear c23b1
                      try clear c24
                      try clear c24b0
                      try clear c24b1
                      try clear c26
                      try clear c31
                      try clear c32
                      try clear c34
                      try clear c35
                      try clear c38
                      try clear hcz33_0
                      try clear hcz33_1
                      try clear hcz33_2
                      try clear hcz36_0
                      try clear hcz36_1
                      try clear hcz36_2
                      try clear hcz37_0
                      try clear hcz37_1
                      try clear hcz37_2
                      try clear hcz6_0
                      try clear hcz6_1
                      try clear hcz6_2
                      try clear hfz33_0
                      try clear hfz33_1
                      try clear hfz33_2
                      try clear hfz36_0
                      try clear hfz36_1
                      try clear hfz36_2
                      try clear hfz37_0
                      try clear hfz37_1
                      try clear hfz37_2
                      try clear hfz6_0
                      try clear hfz6_1
                      try clear hfz6_2
                      try clear p2
                      obtain ⟨x11_4, x12_4, x13_4, x71_4, rfl, rfl, rfl, rfl, HA, HK4, HO_5, HO_69, BK146, BK162, HB⟩ := hrel
                      cases gk with
                      | zero => exact absurd HA.out (by simp [estoverslaw40_CompactionPacks.l0])
                      | succ k4 =>
                        have H := HA.out
                        clear HA
                        simp only [estoverslaw40_CompactionPacks.l0] at H
                        by_cases c39 : x71_4 < (t154.length : Int)
                        · rw [if_pos c39] at H
                          have c39b0 : decide (x71_4 < (t154.length : Int)) = true := decide_eq_true c39
                          clear c39
                          by_cases c40 : 0 ≤ x71_4
                          · rw [if_pos c40] at H
                            have c40b0 : decide (0 ≤ x71_4) = true := decide_eq_true c40
                            clear c40
                            by_cases c41 : x71_4 < (t154.length : Int)
                            · rw [if_pos c41] at H
                              have c41b0 : decide (x71_4 < (t154.length : Int)) = true := decide_eq_true c41
                              clear c41
                              have HC42 := Aside0.mk H
                              clear H
                              have p163 : 0 ≤ (x71_4 : Int) := of_decide_eq_true (by first | (with_reducible assumption) | assumption)
                              have q163 : x71_4 < (t154.length : Int) := of_decide_eq_true (by first | (with_reducible assumption) | assumption)
                              obtain ⟨ad163, e163, hx163_0⟩ := Kd.at_int (Kd.R_reads' HO_69.out).2.2 x71_4 p163 q163
                              cases e163
                              replace p163 := eq_true p163
                              replace q163 := eq_true q163
                              go_upto_region 15 with (fail)
                              go_cut [90] (fun v90 wc => ∃ (kq : Nat) (x90_41 : Bool), v90 = .bool x90_41 ∧ Aside0 (estoverslaw40_CompactionPacks.j4 kq l0 t150 x11_4 x12_4 x13_4 x71_4 (rd t154 x71_4) t154 (t154.length : Int) x71_4 x90_41 t142 t143 t144 = some r) ∧ Aside0 (kq ≤ k4) ∧ Aside0 (Kd.R k26 26 wc w.heap.size (fun _ => True) (.slice Ao21 t150.length co21) t150) ∧ Aside0 (Kd.R (Kd.int .i64) 3 wc w.heap.size (fun _ => True) (.slice (some ad163) t154.length co29) t154) ∧ Aside0 (wc.heap[gb146]? = some (.cells #[.int .i64 t142, .int .i64 t143, .int .i64 t144] 44 (0, 0))) ∧ Aside0 (wc.heap[gb162]? = some (.cells #[.int .i64 t158, .int .i64 t159, .int .i64 t160] 44 (0, 0))) ∧ Aside0 (Below w.heap.size w wc))
                              case first =>
                                have H := HC42.out
                                clear HC42
                                by_cases c43 : x71_4 < (l0.length : Int)
                                · rw [if_pos c43] at H
                                  have c43b0 : decide (x71_4 < (l0.length : Int)) = true := decide_eq_true c43
                                  clear c43
                                  (first | rw [c43b0] | (simp only [i64_w, i32_w]; rw [c43b0]) | skip)
                                  by_cases c44 : (((rd t154 x71_4) == 2) != ((rd l0 x71_4) == 2)) = true
                                  · rw [if_pos c44] at H
                                    have c44b0 : (((rd t154 x71_4) == 2) != ((rd l0 x71_4) == 2)) = true := c44
                                    (try (have c44b1 : decide (((rd t154 x71_4) == 2) = ((rd l0 x71_4) == 2)) = false := by simpa using c44))
                                    (try (have c44b2 : (((rd t154 x71_4) == 2) == ((rd l0 x71_4) == 2)) = false := by simpa using c44))
                                    (try (have c44b3 : ¬ (((rd t154 x71_4) == 2) = ((rd l0 x71_4) == 2)) := by simpa using c44))
                                    clear c44
                                    have H' := Aside0.mk H
                                    clear H
                                    have p164 : 0 ≤ (x71_4 : Int) := of_decide_eq_true (by first | (with_reducible assumption) | assumption)
                                    have q164 : x71_4 < (l0.length : Int) := of_decide_eq_true (by first | (with_reducible assumption) | assumption)
                                    obtain ⟨ad164, e164, hx164_0⟩ := Kd.at_int HR0.out x71_4 p164 q164
                                    cases e164
                                    replace hx164_0 := (HB.out.cell (World.block_lt_of_cell? w _ hx164_0)).trans hx164_0
                                    replace p164 := eq_true p164
                                    replace q164 := eq_true q164
                                    go_wp2
                                    go_meet
                                    case rel => exact ⟨_, (true), (by first | rfl | (simp; done) | (simp [*]; done)), H', ⟨by have := HJ2.out; have := HJ18.out; have := HJ27.out; have := HK4.out; first | omega | exact Nat.le_refl _⟩, ⟨by (with_reducible repeat (first | apply Kd.R_alloc | apply Kd.R_drewN | apply Kd.R_drew)); exact HO_5.out⟩, ⟨by (with_reducible repeat (first | apply Kd.R_alloc | apply Kd.R_drewN | apply Kd.R_drew)); exact HO_69.out⟩, ⟨by (with_reducible repeat (first | refine blk_drewN ?_ _ | refine blk_drew ?_ | refine blk_alloc ?_ _)); exact BK146.out⟩, ⟨by (with_reducible repeat (first | refine blk_drewN ?_ _ | refine blk_drew ?_ | refine blk_alloc ?_ _)); exact BK162.out⟩, ⟨by repeat (first | (with_reducible first | exact HB.out | apply below_alloc | apply pw_below_drewN | apply below_drew1 | refine below_set ?_ GE146.out | refine below_set ?_ GE162.out) | exact HB.out)⟩⟩
                                  · rw [if_neg c44] at H
                                    have c44b0 : (((rd t154 x71_4) == 2) != ((rd l0 x71_4) == 2)) = false := by simpa using c44
                                    (try (have c44b1 : decide (((rd t154 x71_4) == 2) = ((rd l0 x71_4) == 2)) = true := by simpa using c44))
                                    (try (have c44b2 : (((rd t154 x71_4) == 2) == ((rd l0 x71_4) == 2)) = true := by simpa using c44))
                                    clear c44
                                    by_cases c45 : x11_4 = true
                                    · subst c45
                                      have H1 : (estoverslaw40_CompactionPacks.j4 k4 l0 t150 true x12_4 x13_4 x71_4 (rd t154 x71_4) t154 (t154.length : Int) x71_4 ((rd t154 x71_4) == 1) t142 t143 t144) = some r := by rw [if_pos rfl] at H; exact H
                                      clear H
                                      have H := H1
                                      clear H1
                                      have H' := Aside0.mk H
                                      clear H
                                      have p164 : 0 ≤ (x71_4 : Int) := of_decide_eq_true (by first | (with_reducible assumption) | assumption)
                                      have q164 : x71_4 < (l0.length : Int) := of_decide_eq_true (by first | (with_reducible assumption) | assumption)
                                      obtain ⟨ad164, e164, hx164_0⟩ := Kd.at_int HR0.out x71_4 p164 q164
                                      cases e164
                                      replace hx164_0 := (HB.out.cell (World.block_lt_of_cell? w _ hx164_0)).trans hx164_0
                                      replace p164 := eq_true p164
                                      replace q164 := eq_true q164
                                      go_wp2
                                      go_meet
                                      case rel => exact ⟨_, (((rd t154 x71_4) == 1)), (by first | rfl | (simp; done) | (simp [*]; done)), H', ⟨by have := HJ2.out; have := HJ18.out; have := HJ27.out; have := HK4.out; first | omega | exact Nat.le_refl _⟩, ⟨by (with_reducible repeat (first | apply Kd.R_alloc | apply Kd.R_drewN | apply Kd.R_drew)); exact HO_5.out⟩, ⟨by (with_reducible repeat (first | apply Kd.R_alloc | apply Kd.R_drewN | apply Kd.R_drew)); exact HO_69.out⟩, ⟨by (with_reducible repeat (first | refine blk_drewN ?_ _ | refine blk_drew ?_ | refine blk_alloc ?_ _)); exact BK146.out⟩, ⟨by (with_reducible repeat (first | refine blk_drewN ?_ _ | refine blk_drew ?_ | refine blk_alloc ?_ _)); exact BK162.out⟩, ⟨by repeat (first | (with_reducible first | exact HB.out | apply below_alloc | apply pw_below_drewN | apply below_drew1 | refine below_set ?_ GE146.out | refine below_set ?_ GE162.out) | exact HB.out)⟩⟩
                                    · replace c45 := Bool.eq_false_iff.mpr c45
                                      subst c45
                                      have H1 : (estoverslaw40_CompactionPacks.j4 k4 l0 t150 false x12_4 x13_4 x71_4 (rd t154 x71_4) t154 (t154.length : Int) x71_4 false t142 t143 t144) = some r := by rw [if_neg (show ¬ (false = true) by decide)] at H; exact H
                                      clear H
                                      have H := H1
                                      clear H1
                                      have H' := Aside0.mk H
                                      clear H
                                      have p164 : 0 ≤ (x71_4 : Int) := of_decide_eq_true (by first | (with_reducible assumption) | assumption)
                                      have q164 : x71_4 < (l0.length : Int) := of_decide_eq_true (by first | (with_reducible assumption) | assumption)
                                      obtain ⟨ad164, e164, hx164_0⟩ := Kd.at_int HR0.out x71_4 p164 q164
                                      cases e164
                                      replace hx164_0 := (HB.out.cell (World.block_lt_of_cell? w _ hx164_0)).trans hx164_0
                                      replace p164 := eq_true p164
                                      replace q164 := eq_true q164
                                      go_wp2
                                      go_meet
                                      case rel => exact ⟨_, (false), (by first | rfl | (simp; done) | (simp [*]; done)), H', ⟨by have := HJ2.out; have := HJ18.out; have := HJ27.out; have := HK4.out; first | omega | exact Nat.le_refl _⟩, ⟨by (with_reducible repeat (first | apply Kd.R_alloc | apply Kd.R_drewN | apply Kd.R_drew)); exact HO_5.out⟩, ⟨by (with_reducible repeat (first | apply Kd.R_alloc | apply Kd.R_drewN | apply Kd.R_drew)); exact HO_69.out⟩, ⟨by (with_reducible repeat (first | refine blk_drewN ?_ _ | refine blk_drew ?_ | refine blk_alloc ?_ _)); exact BK146.out⟩, ⟨by (with_reducible repeat (first | refine blk_drewN ?_ _ | refine blk_drew ?_ | refine blk_alloc ?_ _)); exact BK162.out⟩, ⟨by repeat (first | (with_reducible first | exact HB.out | apply below_alloc | apply pw_below_drewN | apply below_drew1 | refine below_set ?_ GE146.out | refine below_set ?_ GE162.out) | exact HB.out)⟩⟩
                                · rw [if_neg c43] at H
                                  exact absurd H (by simp)
                              case rest =>
                                clear HC42
                                try clear c1
                                try clear p1
                                try clear q1
                                try clear hx1
                                try clear c2
                                try clear p2
                                try clear c3
                                try clear c4
                                try clear c7
                                try clear c8
                                try clear c10
                                try clear c11
                                try clear c14
                                try clear c15
                                try clear p16
                                try clear q16
                                try clear hx16
                                try clear c20
                                try clear c23
                                try clear c23b0
                                try clear c23b1
                                try clear c24
                                try clear c24b0
                                try clear c24b1
                                try clear c26
                                try clear c31
                                try clear c32
                                try clear c34
                                try clear c35
                                try clear c38
                                try clear c39
                                try clear c39b0
                                try clear c40
                                try clear c40b0
                                try clear c41
                                try clear c41b0
                                try clear c43
                                try clear c43b0
                                try clear c44
                                try clear c44b0
                                try clear c44b1
                                try clear c44b2
                                try clear c45
                                try clear hcz33_0
                                try clear hcz33_1
                                try clear hcz33_2
                                try clear hcz36_0
                                try clear hcz36_1
                                try clear hcz36_2
                                try clear hcz37_0
                                try clear hcz37_1
                                try clear hcz37_2
                                try clear hcz6_0
                                try clear hcz6_1
                                try clear hcz6_2
                                try clear hfz33_0
                                try clear hfz33_1
                                try clear hfz33_2
                                try clear hfz36_0
                                try clear hfz36_1
                                try clear hfz36_2
                                try clear hfz37_0
                                try clear hfz37_1
                                try clear hfz37_2
                                try clear hfz6_0
                                try clear hfz6_1
                                try clear hfz6_2
                                try clear hx163_0
                                try clear hx164_0
                                try clear p163
                                try clear p164
                                try clear p2
                                try clear q163
                                try clear q164
                                obtain ⟨kq, x90_41, rfl, HA, HJ41, HO_5, HO_69, BK146, BK162, HB⟩ := hcut
                                cases kq with
                                | zero => exact absurd HA.out (by simp [estoverslaw40_CompactionPacks.j4])
                                | succ kj41 =>
                                  have H := HA.out
                                  clear HA
                                  simp only [estoverslaw40_CompactionPacks.j4] at H
                                  by_cases c46 : x90_41 = true
                                  · subst c46
                                    have H1 : (some false) = some r := by rw [if_pos rfl] at H; exact H
                                    clear H
                                    have H := H1
                                    clear H1
                                    obtain rfl := Option.some.inj H
                                    go_wp2
                                    go_ret
                                    exact ⟨by first | rfl | (simp [errW_none, errW_some] <;> rfl) | (simp [*, errW_none, errW_some] <;> rfl), by repeat (first | (with_reducible first | exact HB.out | apply below_alloc | apply pw_below_drewN | apply below_drew1 | refine below_set ?_ GE146.out | refine below_set ?_ GE162.out) | exact HB.out)⟩
                                  · replace c46 := Bool.eq_false_iff.mpr c46
                                    subst c46
                                    have H1 : (if x11_4 = true then (estoverslaw40_CompactionPacks.j5 kj41 l0 t150 true x12_4 x13_4 x71_4 t154 (t154.length : Int) x71_4 t142 t143 t144) else (estoverslaw40_CompactionPacks.j5 kj41 l0 t150 ((rd t154 x71_4) == 0) x12_4 x13_4 x71_4 t154 (t154.length : Int) x71_4 t142 t143 t144)) = some r := by rw [if_neg (show ¬ (false = true) by decide)] at H; exact H
                                    clear H
                                    have H := H1
                                    clear H1
                                    have HC47 := Aside0.mk H
                                    clear H
                                    go_upto_region 17 with (fail)
                                    go_cut [11] (fun v11 wc => ∃ (kq : Nat) (x11_46 : Bool), v11 = .bool x11_46 ∧ Aside0 (estoverslaw40_CompactionPacks.j5 kq l0 t150 x11_46 x12_4 x13_4 x71_4 t154 (t154.length : Int) x71_4 t142 t143 t144 = some r) ∧ Aside0 (kq ≤ kj41) ∧ Aside0 (Kd.R k26 26 wc w.heap.size (fun _ => True) (.slice Ao21 t150.length co21) t150) ∧ Aside0 (Kd.R (Kd.int .i64) 3 wc w.heap.size (fun _ => True) (.slice (some ad163) t154.length co29) t154) ∧ Aside0 (wc.heap[gb146]? = some (.cells #[.int .i64 t142, .int .i64 t143, .int .i64 t144] 44 (0, 0))) ∧ Aside0 (wc.heap[gb162]? = some (.cells #[.int .i64 t158, .int .i64 t159, .int .i64 t160] 44 (0, 0))) ∧ Aside0 (Below w.heap.size w wc))
                                    case first =>
                                      have H := HC47.out
                                      clear HC47
                                      by_cases c48 : x11_4 = true
                                      · subst c48
                                        have H1 : (estoverslaw40_CompactionPacks.j5 kj41 l0 t150 true x12_4 x13_4 x71_4 t154 (t154.length : Int) x71_4 t142 t143 t144) = some r := by rw [if_pos rfl] at H; exact H
                                        clear H
                                        have H := H1
                                        clear H1
                                        have H' := Aside0.mk H
                                        clear H
                                        go_wp2
                                        go_meet
                                        case rel => exact ⟨_, (true), (by first | rfl | (simp; done) | (simp [*]; done)), H', ⟨by have := HJ2.out; have := HJ18.out; have := HJ27.out; have := HK4.out; have := HJ41.out; first | omega | exact Nat.le_refl _⟩, ⟨by (with_reducible repeat (first | apply Kd.R_alloc | apply Kd.R_drewN | apply Kd.R_drew)); exact HO_5.out⟩, ⟨by (with_reducible repeat (first | apply Kd.R_alloc | apply Kd.R_drewN | apply Kd.R_drew)); exact HO_69.out⟩, ⟨by (with_reducible repeat (first | refine blk_drewN ?_ _ | refine blk_drew ?_ | refine blk_alloc ?_ _)); exact BK146.out⟩, ⟨by (with_reducible repeat (first | refine blk_drewN ?_ _ | refine blk_drew ?_ | refine blk_alloc ?_ _)); exact BK162.out⟩, ⟨by repeat (first | (with_reducible first | exact HB.out | apply below_alloc | apply pw_below_drewN | apply below_drew1 | refine below_set ?_ GE146.out | refine below_set ?_ GE162.out) | exact HB.out)⟩⟩
                                      · replace c48 := Bool.eq_false_iff.mpr c48
                                        subst c48
                                        have H1 : (estoverslaw40_CompactionPacks.j5 kj41 l0 t150 ((rd t154 x71_4) == 0) x12_4 x13_4 x71_4 t154 (t154.length : Int) x71_4 t142 t143 t144) = some r := by rw [if_neg (show ¬ (false = true) by decide)] at H; exact H
                                        clear H
                                        have H := H1
                                        clear H1
                                        have H' := Aside0.mk H
                                        clear H
                                        go_wp2
                                        go_meet
                                        case rel => exact ⟨_, (((rd t154 x71_4) == 0)), (by first | rfl | (simp; done) | (simp [*]; done)), H', ⟨by have := HJ2.out; have := HJ18.out; have := HJ27.out; have := HK4.out; have := HJ41.out; first | omega | exact Nat.le_refl _⟩, ⟨by (with_reducible repeat (first | apply Kd.R_alloc | apply Kd.R_drewN | apply Kd.R_drew)); exact HO_5.out⟩, ⟨by (with_reducible repeat (first | apply Kd.R_alloc | apply Kd.R_drewN | apply Kd.R_drew)); exact HO_69.out⟩, ⟨by (with_reducible repeat (first | refine blk_drewN ?_ _ | refine blk_drew ?_ | refine blk_alloc ?_ _)); exact BK146.out⟩, ⟨by (with_reducible repeat (first | refine blk_drewN ?_ _ | refine blk_drew ?_ | refine blk_alloc ?_ _)); exact BK162.out⟩, ⟨by repeat (first | (with_reducible first | exact HB.out | apply below_alloc | apply pw_below_drewN | apply below_drew1 | refine below_set ?_ GE146.out | refine below_set ?_ GE162.out) | exact HB.out)⟩⟩
                                    case rest =>
                                      clear HC47
                                      try clear c1
                                      try clear p1
                                      try clear q1
                                      try clear hx1
                                      try clear c2
                                      try clear p2
                                      try clear c3
                                      try clear c4
                                      try clear c7
                                      try clear c8
                                      try clear c10
                                      try clear c11
                                      try clear c14
                                      try clear c15
                                      try clear p16
                                      try clear q16
                                      try clear hx16
                                      try clear c20
                                      try clear c23
                                      try clear c23b0
                                      try clear c23b1
                                      try clear c24
                                      try clear c24b0
                                      try clear c24b1
                                      try clear c26
                                      try clear c31
                                      try clear c32
                                      try clear c34
                                      try clear c35
                                      try clear c38
                                      try clear c39
                                      try clear c39b0
                                      try clear c40
                                      try clear c40b0
                                      try clear c41
                                      try clear c41b0
                                      try clear c43
                                      try clear c43b0
                                      try clear c44
                                      try clear c44b0
                                      try clear c44b1
                                      try clear c44b2
                                      try clear c45
                                      try clear c46
                                      try clear c48
                                      try clear hcz33_0
                                      try clear hcz33_1
                                      try clear hcz33_2
                                      try clear hcz36_0
                                      try clear hcz36_1
                                      try clear hcz36_2
                                      try clear hcz37_0
                                      try clear hcz37_1
                                      try clear hcz37_2
                                      try clear hcz6_0
                                      try clear hcz6_1
                                      try clear hcz6_2
                                      try clear hfz33_0
                                      try clear hfz33_1
                                      try clear hfz33_2
                                      try clear hfz36_0
                                      try clear hfz36_1
                                      try clear hfz36_2
                                      try clear hfz37_0
                                      try clear hfz37_1
                                      try clear hfz37_2
                                      try clear hfz6_0
                                      try clear hfz6_1
                                      try clear hfz6_2
                                      try clear hx163_0
                                      try clear hx164_0
                                      try clear p1
                                      try clear p16
                                      try clear p163
                                      try clear p164
                                      try clear p2
                                      try clear q1
                                      try clear q16
                                      try clear q163
                                      try clear q164
                                      obtain ⟨kq, x11_46, rfl, HA, HJ46, HO_5, HO_69, BK146, BK162, HB⟩ := hcut
                                      cases kq with
                                      | zero => exact absurd HA.out (by simp [estoverslaw40_CompactionPacks.j5])
                                      | succ kj46 =>
                                        have H := HA.out
                                        clear HA
                                        simp only [estoverslaw40_CompactionPacks.j5] at H
                                        by_cases c49 : 0 ≤ x71_4
                                        · rw [if_pos c49] at H
                                          have c49b0 : decide (0 ≤ x71_4) = true := decide_eq_true c49
                                          clear c49
                                          by_cases c50 : x71_4 < (l0.length : Int)
                                          · rw [if_pos c50] at H
                                            have c50b0 : decide (x71_4 < (l0.length : Int)) = true := decide_eq_true c50
                                            clear c50
                                            by_cases c51 : (rd l0 x71_4) = 2
                                            · rw [if_pos c51] at H
                                              have c51b0 : ((rd l0 x71_4) == 2) = true := beq_iff_eq.mpr c51
                                              have c51b1 : ((rd l0 x71_4) != 2) = false := bne_eq_false_iff_eq.mpr c51
                                              clear c51
                                              have H' := Aside0.mk H
                                              clear H
                                              have p165 : 0 ≤ (x71_4 : Int) := of_decide_eq_true (by first | (with_reducible assumption) | assumption)
                                              have q165 : x71_4 < (l0.length : Int) := of_decide_eq_true (by first | (with_reducible assumption) | assumption)
                                              obtain ⟨ad165, e165, hx165_0⟩ := Kd.at_int HR0.out x71_4 p165 q165
                                              cases e165
                                              replace hx165_0 := (HB.out.cell (World.block_lt_of_cell? w _ hx165_0)).trans hx165_0
                                              replace p165 := eq_true p165
                                              replace q165 := eq_true q165
                                              go_wp2
                                              go_roundg kj46
                                              case measure => have := HJ2.out; have := HJ18.out; have := HJ27.out; have := HK4.out; have := HJ41.out; have := HJ46.out; omega
                                              case rel => exact ⟨(x11_46), (x12_4), (x13_4), (wrap64 (x71_4 + 1)), (by first | rfl | (simp; done) | (simp [*]; done)), (by first | rfl | (simp; done) | (simp [*]; done)), (by first | rfl | (simp; done) | (simp [*]; done)), (by first | rfl | (simp; done) | (simp [*]; done)), H', ⟨by have := HJ2.out; have := HJ18.out; have := HJ27.out; have := HK4.out; have := HJ41.out; have := HJ46.out; omega⟩, ⟨by (with_reducible repeat (first | apply Kd.R_alloc | apply Kd.R_drewN | apply Kd.R_drew)); exact HO_5.out⟩, ⟨by (with_reducible repeat (first | apply Kd.R_alloc | apply Kd.R_drewN | apply Kd.R_drew)); exact HO_69.out⟩, ⟨by (with_reducible repeat (first | refine blk_drewN ?_ _ | refine blk_drew ?_ | refine blk_alloc ?_ _)); exact BK146.out⟩, ⟨by (with_reducible repeat (first | refine blk_drewN ?_ _ | refine blk_drew ?_ | refine blk_alloc ?_ _)); exact BK162.out⟩, ⟨by repeat (first | (with_reducible first | exact HB.out | apply below_alloc | apply pw_below_drewN | apply below_drew1 | refine below_set ?_ GE146.out | refine below_set ?_ GE162.out) | exact HB.out)⟩⟩
                                            · rw [if_neg c51] at H
                                              have c51b0 : ((rd l0 x71_4) == 2) = false := beq_eq_false_iff_ne.mpr c51
                                              have c51b1 : ((rd l0 x71_4) != 2) = true := bne_iff_ne.mpr c51
                                              by_cases c52 : (wrap64 (x12_4 + 1)) > t143
                                              · rw [if_pos c52] at H
                                                have c52b0 : decide (t143 < (wrap64 (x12_4 + 1))) = true := decide_eq_true c52
                                                clear c52
                                                by_cases c53 : (rd l0 x71_4) = 1
                                                · rw [if_pos c53] at H
                                                  have c53b0 : ((rd l0 x71_4) == 1) = true := beq_iff_eq.mpr c53
                                                  have c53b1 : ((rd l0 x71_4) != 1) = false := bne_eq_false_iff_eq.mpr c53
                                                  clear c53
                                                  have H' := Aside0.mk H
                                                  clear H
                                                  have p165 : 0 ≤ (x71_4 : Int) := of_decide_eq_true (by first | (with_reducible assumption) | assumption)
                                                  have q165 : x71_4 < (l0.length : Int) := of_decide_eq_true (by first | (with_reducible assumption) | assumption)
                                                  obtain ⟨ad165, e165, hx165_0⟩ := Kd.at_int HR0.out x71_4 p165 q165
                                                  cases e165
                                                  replace hx165_0 := (HB.out.cell (World.block_lt_of_cell? w _ hx165_0)).trans hx165_0
                                                  replace p165 := eq_true p165
                                                  replace q165 := eq_true q165
                                                  have hnb54 := NB146_162.out
                                                  have hnc54 := NB162_146.out
                                                  have hcz55_0 : wc.cell? ⟨gb146, 0, none⟩ = some (.int .i64 t142) := (blk_cell BK146.out 0).trans rfl
                                                  have hcz55_1 : wc.cell? ⟨gb146, 1, none⟩ = some (.int .i64 t143) := (blk_cell BK146.out 1).trans rfl
                                                  have hcz55_2 : wc.cell? ⟨gb146, 2, none⟩ = some (.int .i64 t144) := (blk_cell BK146.out 2).trans rfl
                                                  have hfz55_0 := blk_frozen BK146.out 0
                                                  have hfz55_1 := blk_frozen BK146.out 1
                                                  have hfz55_2 := blk_frozen BK146.out 2
                                                  have p166 : 0 ≤ (x71_4 : Int) := of_decide_eq_true (by first | (with_reducible assumption) | assumption)
                                                  have q166 : x71_4 < (l0.length : Int) := of_decide_eq_true (by first | (with_reducible assumption) | assumption)
                                                  obtain ⟨ad166, e166, hx166_0⟩ := Kd.at_int HR0.out x71_4 p166 q166
                                                  obtain rfl : ad165 = ad166 := (by injection e166)
                                                  replace hx166_0 := (HB.out.cell (World.block_lt_of_cell? w _ hx166_0)).trans hx166_0
                                                  replace p166 := eq_true p166
                                                  replace q166 := eq_true q166
                                                  go_wp2
                                                  go_roundg kj46
                                                  case measure => have := HJ2.out; have := HJ18.out; have := HJ27.out; have := HK4.out; have := HJ41.out; have := HJ46.out; omega
                                                  case rel => exact ⟨(x11_46), (wrap64 (x12_4 + 1)), (wrap64 (x13_4 + 1)), (wrap64 (x71_4 + 1)), (by first | rfl | (simp; done) | (simp [*]; done)), (by first | rfl | (simp; done) | (simp [*]; done)), (by first | rfl | (simp; done) | (simp [*]; done)), (by first | rfl | (simp; done) | (simp [*]; done)), H', ⟨by have := HJ2.out; have := HJ18.out; have := HJ27.out; have := HK4.out; have := HJ41.out; have := HJ46.out; omega⟩, ⟨by (with_reducible repeat (first | apply Kd.R_alloc | apply Kd.R_drewN | apply Kd.R_drew)); exact HO_5.out⟩, ⟨by (with_reducible repeat (first | apply Kd.R_alloc | apply Kd.R_drewN | apply Kd.R_drew)); exact HO_69.out⟩, ⟨by (with_reducible repeat (first | refine blk_drewN ?_ _ | refine blk_drew ?_ | refine blk_alloc ?_ _)); exact BK146.out⟩, ⟨by (with_reducible repeat (first | refine blk_drewN ?_ _ | refine blk_drew ?_ | refine blk_alloc ?_ _)); exact BK162.out⟩, ⟨by repeat (first | (with_reducible first | exact HB.out | apply below_alloc | apply pw_below_drewN | apply below_drew1 | refine below_set ?_ GE146.out | refine below_set ?_ GE162.out) | exact HB.out)⟩⟩
                                                · rw [if_neg c53] at H
                                                  have c53b0 : ((rd l0 x71_4) == 1) = false := beq_eq_false_iff_ne.mpr c53
                                                  have c53b1 : ((rd l0 x71_4) != 1) = true := bne_iff_ne.mpr c53
                                                  have H' := Aside0.mk H
                                                  clear H
                                                  have p165 : 0 ≤ (x71_4 : Int) := of_decide_eq_true (by first | (with_reducible assumption) | assumption)
                                                  have q165 : x71_4 < (l0.length : Int) := of_decide_eq_true (by first | (with_reducible assumption) | assumption)
                                                  obtain ⟨ad165, e165, hx165_0⟩ := Kd.at_int HR0.out x71_4 p165 q165
                                                  cases e165
                                                  replace hx165_0 := (HB.out.cell (World.block_lt_of_cell? w _ hx165_0)).trans hx165_0
                                                  replace p165 := eq_true p165
                                                  replace q165 := eq_true q165
                                                  have hnb56 := NB146_162.out
                                                  have hnc56 := NB162_146.out
                                                  have hcz57_0 : wc.cell? ⟨gb146, 0, none⟩ = some (.int .i64 t142) := (blk_cell BK146.out 0).trans rfl
                                                  have hcz57_1 : wc.cell? ⟨gb146, 1, none⟩ = some (.int .i64 t143) := (blk_cell BK146.out 1).trans rfl
                                                  have hcz57_2 : wc.cell? ⟨gb146, 2, none⟩ = some (.int .i64 t144) := (blk_cell BK146.out 2).trans rfl
                                                  have hfz57_0 := blk_frozen BK146.out 0
                                                  have hfz57_1 := blk_frozen BK146.out 1
                                                  have hfz57_2 := blk_frozen BK146.out 2
                                                  have p166 : 0 ≤ (x71_4 : Int) := of_decide_eq_true (by first | (with_reducible assumption) | assumption)
                                                  have q166 : x71_4 < (l0.length : Int) := of_decide_eq_true (by first | (with_reducible assumption) | assumption)
                                                  obtain ⟨ad166, e166, hx166_0⟩ := Kd.at_int HR0.out x71_4 p166 q166
                                                  obtain rfl : ad165 = ad166 := (by injection e166)
                                                  replace hx166_0 := (HB.out.cell (World.block_lt_of_cell? w _ hx166_0)).trans hx166_0
                                                  replace p166 := eq_true p166
                                                  replace q166 := eq_true q166
                                                  go_wp2
                                                  go_roundg kj46
                                                  case measure => have := HJ2.out; have := HJ18.out; have := HJ27.out; have := HK4.out; have := HJ41.out; have := HJ46.out; omega
                                                  case rel => exact ⟨(x11_46), (wrap64 (x12_4 + 1)), (x13_4), (wrap64 (x71_4 + 1)), (by first | rfl | (simp; done) | (simp [*]; done)), (by first | rfl | (simp; done) | (simp [*]; done)), (by first | rfl | (simp; done) | (simp [*]; done)), (by first | rfl | (simp; done) | (simp [*]; done)), H', ⟨by have := HJ2.out; have := HJ18.out; have := HJ27.out; have := HK4.out; have := HJ41.out; have := HJ46.out; omega⟩, ⟨by (with_reducible repeat (first | apply Kd.R_alloc | apply Kd.R_drewN | apply Kd.R_drew)); exact HO_5.out⟩, ⟨by (with_reducible repeat (first | apply Kd.R_alloc | apply Kd.R_drewN | apply Kd.R_drew)); exact HO_69.out⟩, ⟨by (with_reducible repeat (first | refine blk_drewN ?_ _ | refine blk_drew ?_ | refine blk_alloc ?_ _)); exact BK146.out⟩, ⟨by (with_reducible repeat (first | refine blk_drewN ?_ _ | refine blk_drew ?_ | refine blk_alloc ?_ _)); exact BK162.out⟩, ⟨by repeat (first | (with_reducible first | exact HB.out | apply below_alloc | apply pw_below_drewN | apply below_drew1 | refine below_set ?_ GE146.out | refine below_set ?_ GE162.out) | exact HB.out)⟩⟩
                                              · rw [if_neg c52] at H
                                                have c52b0 : decide (t143 < (wrap64 (x12_4 + 1))) = false := decide_eq_false c52
                                                clear c52
                                                have H' := Aside0.mk H
                                                clear H
                                                have p165 : 0 ≤ (x71_4 : Int) := of_decide_eq_true (by first | (with_reducible assumption) | assumption)
                                                have q165 : x71_4 < (l0.length : Int) := of_decide_eq_true (by first | (with_reducible assumption) | assumption)
                                                obtain ⟨ad165, e165, hx165_0⟩ := Kd.at_int HR0.out x71_4 p165 q165
                                                cases e165
                                                replace hx165_0 := (HB.out.cell (World.block_lt_of_cell? w _ hx165_0)).trans hx165_0
                                                replace p165 := eq_true p165
                                                replace q165 := eq_true q165
                                                have hnb58 := NB146_162.out
                                                have hnc58 := NB162_146.out
                                                have hcz59_0 : wc.cell? ⟨gb146, 0, none⟩ = some (.int .i64 t142) := (blk_cell BK146.out 0).trans rfl
                                                have hcz59_1 : wc.cell? ⟨gb146, 1, none⟩ = some (.int .i64 t143) := (blk_cell BK146.out 1).trans rfl
                                                have hcz59_2 : wc.cell? ⟨gb146, 2, none⟩ = some (.int .i64 t144) := (blk_cell BK146.out 2).trans rfl
                                                have hfz59_0 := blk_frozen BK146.out 0
                                                have hfz59_1 := blk_frozen BK146.out 1
                                                have hfz59_2 := blk_frozen BK146.out 2
                                                go_wp2
                                                go_roundg kj46
                                                case measure => have := HJ2.out; have := HJ18.out; have := HJ27.out; have := HK4.out; have := HJ41.out; have := HJ46.out; omega
                                                case rel => exact ⟨(x11_46), (wrap64 (x12_4 + 1)), (x13_4), (wrap64 (x71_4 + 1)), (by first | rfl | (simp; done) | (simp [*]; done)), (by first | rfl | (simp; done) | (simp [*]; done)), (by first | rfl | (simp; done) | (simp [*]; done)), (by first | rfl | (simp; done) | (simp [*]; done)), H', ⟨by have := HJ2.out; have := HJ18.out; have := HJ27.out; have := HK4.out; have := HJ41.out; have := HJ46.out; omega⟩, ⟨by (with_reducible repeat (first | apply Kd.R_alloc | apply Kd.R_drewN | apply Kd.R_drew)); exact HO_5.out⟩, ⟨by (with_reducible repeat (first | apply Kd.R_alloc | apply Kd.R_drewN | apply Kd.R_drew)); exact HO_69.out⟩, ⟨by (with_reducible repeat (first | refine blk_drewN ?_ _ | refine blk_drew ?_ | refine blk_alloc ?_ _)); exact BK146.out⟩, ⟨by (with_reducible repeat (first | refine blk_drewN ?_ _ | refine blk_drew ?_ | refine blk_alloc ?_ _)); exact BK162.out⟩, ⟨by repeat (first | (with_reducible first | exact HB.out | apply below_alloc | apply pw_below_drewN | apply below_drew1 | refine below_set ?_ GE146.out | refine below_set ?_ GE162.out) | exact HB.out)⟩⟩
                                          · rw [if_neg c50] at H
                                            exact absurd H (by simp)
                                        · rw [if_neg c49] at H
                                          exact absurd H (by simp)
                            · rw [if_neg c41] at H
                              exact absurd H (by simp)
                          · rw [if_neg c40] at H
                            exact absurd H (by simp)
                        · rw [if_neg c39] at H
                          have c39b0 : decide (x71_4 < (t154.length : Int)) = false := decide_eq_false c39
                          clear c39
                          obtain rfl := Option.some.inj H
                          go_wp2
                          go_ret
                          exact ⟨by first | rfl | (simp [errW_none, errW_some] <;> rfl) | (simp [*, errW_none, errW_some] <;> rfl), by repeat (first | (with_reducible first | exact HB.out | apply below_alloc | apply pw_below_drewN | apply below_drew1 | refine below_set ?_ GE146.out | refine below_set ?_ GE162.out) | exact HB.out)⟩

end Go.Proofs.Ytollapjmibkpfaa.X
