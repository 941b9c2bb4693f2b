-- Written for this claim by a program of this session (wip/px.py) with the kit's print; the contracts of GIVEN functions are proved by hand.
import Derived.Test.YtghmkmpgfpkfmaaX0
import Derived.Test.YtghmkmpgfpkfmaaX2
import Derived.Test.YtghmkmpgfpkfmaaX23
import Derived.Test.YtghmkmpgfpkfmaaX27
import Derived.Test.YtghmkmpgfpkfmaaX40
import Derived.Test.YtghmkmpgfpkfmaaD2
namespace Go.Proofs.Ytghmkmpgfpkfmaa.X
open Go.RowKit Go.Proofs.YtghmkmpgfpkfmaaW.PrintWords Go.Proofs.YtghmkmpgfpkfmaaW.PrintLast Go.Proofs.YtghmkmpgfpkfmaaW.PrintMore
attribute [local go_sem] max2_int min2_int max_two min_two max_three min_three max_four min_four   -- for this text's walks alone
set_option linter.unusedVariables false
set_option linter.unusedSimpArgs false

/-! ### estoverslaw11_DurableOrdered: function 6 -/
mutual
def estoverslaw11_DurableOrdered.j0 : Nat → Int → Int → Bool → List (List Int) → List (S38) → Option (Bool)
  | 0, _, _, _, _, _ => none
  | k + 1, x1, x2, x26, x310000, x310001 => if x26 = true then ((estoverslaw11_awake.f k).bind fun t312 => (some t312)) else ((durable_Ordered.f x310000 x310001 x1 x2).bind fun bt313 => (if bt313.1 = true then (estoverslaw11_DurableOrdered.j1 k x1 x2 (bt313.2 != 0) x310000 x310001) else (estoverslaw11_DurableOrdered.j1 k x1 x2 true x310000 x310001)))
def estoverslaw11_DurableOrdered.j1 : Nat → Int → Int → Bool → List (List Int) → List (S38) → Option (Bool)
  | 0, _, _, _, _, _ => none
  | k + 1, x1, x2, x43, x310000, x310001 => if x43 = true then ((estoverslaw11_awake.f k).bind fun t315 => (some t315)) else (estoverslaw11_DurableOrdered.l0 k x1 x2 (-1) (-1) 0 x310000 x310001)
def estoverslaw11_DurableOrdered.l0 : Nat → Int → Int → Int → Int → Int → List (List Int) → List (S38) → Option (Bool)
  | 0, _, _, _, _, _, _, _ => none
  | k + 1, x1, x2, x9, x10, x11, x310000, x310001 => if x11 < (x310001.length : Int) then (if 0 ≤ x11 then (if ((rd_T38 x310001 x11).f0) = 1 then (estoverslaw11_DurableOrdered.j3 k x1 x2 x9 x10 x11 (((rd_T38 x310001 x11).f1) == x1) x310000 x310001) else (estoverslaw11_DurableOrdered.j3 k x1 x2 x9 x10 x11 false x310000 x310001)) else (none)) else (if x9 < 0 then (estoverslaw11_DurableOrdered.j4 k x1 x9 x10 true x310000 x310001) else (estoverslaw11_DurableOrdered.j4 k x1 x9 x10 (decide (x10 < 0)) x310000 x310001))
def estoverslaw11_DurableOrdered.j3 : Nat → Int → Int → Int → Int → Int → Bool → List (List Int) → List (S38) → Option (Bool)
  | 0, _, _, _, _, _, _, _, _ => none
  | k + 1, x1, x2, x9, x10, x11, x68, x310000, x310001 => if x68 = true then (if 0 ≤ x11 then (if x11 < (x310001.length : Int) then (if ((rd_T38 x310001 x11).f0) = 1 then (if ((rd_T38 x310001 x11).f1) = x2 then (estoverslaw11_DurableOrdered.l0 k x1 x2 ((rd_T38 x310001 x11).f2) (wrap64 (x11 + 1)) (wrap64 (x11 + 1)) x310000 x310001) else (estoverslaw11_DurableOrdered.l0 k x1 x2 ((rd_T38 x310001 x11).f2) x10 (wrap64 (x11 + 1)) x310000 x310001)) else (estoverslaw11_DurableOrdered.l0 k x1 x2 ((rd_T38 x310001 x11).f2) x10 (wrap64 (x11 + 1)) x310000 x310001)) else (none)) else (none)) else (if 0 ≤ x11 then (if x11 < (x310001.length : Int) then (if ((rd_T38 x310001 x11).f0) = 1 then (if ((rd_T38 x310001 x11).f1) = x2 then (estoverslaw11_DurableOrdered.l0 k x1 x2 x9 (wrap64 (x11 + 1)) (wrap64 (x11 + 1)) x310000 x310001) else (estoverslaw11_DurableOrdered.l0 k x1 x2 x9 x10 (wrap64 (x11 + 1)) x310000 x310001)) else (estoverslaw11_DurableOrdered.l0 k x1 x2 x9 x10 (wrap64 (x11 + 1)) x310000 x310001)) else (none)) else (none))
def estoverslaw11_DurableOrdered.j4 : Nat → Int → Int → Int → Bool → List (List Int) → List (S38) → Option (Bool)
  | 0, _, _, _, _, _, _ => none
  | k + 1, x1, x9, x10, x99, x310000, x310001 => if x99 = true then (some false) else (estoverslaw11_DurableOrdered.l1 k x1 x9 x10 x310000 x310001)
def estoverslaw11_DurableOrdered.l1 : Nat → Int → Int → Int → List (List Int) → List (S38) → Option (Bool)
  | 0, _, _, _, _, _ => none
  | k + 1, x1, x9, x12, x310000, x310001 => if x12 ≤ (x310001.length : Int) then (if 0 ≤ x12 then ((durable_Choices.f x310000 (x310001.take (x12 : Int).toNat) x9).bind fun bt328 => (if bt328.2 = 0 then (estoverslaw11_DurableOrdered.j6 k x1 x9 x12 bt328.1 ((bt328.1.length : Int) == 0) x310000 x310001) else (estoverslaw11_DurableOrdered.j6 k x1 x9 x12 bt328.1 true x310000 x310001))) else (none)) else ((estoverslaw11_awake.f k).bind fun t323 => (some t323))
def estoverslaw11_DurableOrdered.j6 : Nat → Int → Int → Int → List (List Int) → Bool → List (List Int) → List (S38) → Option (Bool)
  | 0, _, _, _, _, _, _, _ => none
  | k + 1, x1, x9, x12, x13, x125, x310000, x310001 => if x125 = true then (some false) else (estoverslaw11_DurableOrdered.l2 k x1 x9 x12 x13 0 x310000 x310001)
def estoverslaw11_DurableOrdered.l2 : Nat → Int → Int → Int → List (List Int) → Int → List (List Int) → List (S38) → Option (Bool)
  | 0, _, _, _, _, _, _, _ => none
  | k + 1, x1, x9, x12, x13, x15, x310000, x310001 => if x15 < (x13.length : Int) then (if 0 ≤ x15 then ((estoverslaw11_settled.f k x310001 x1 (rd_L1 x13 x15)).bind fun t333 => (if t333 = true then (estoverslaw11_DurableOrdered.l2 k x1 x9 x12 x13 (wrap64 (x15 + 1)) x310000 x310001) else (some false))) else (none)) else (estoverslaw11_DurableOrdered.l1 k x1 x9 (wrap64 (x12 + 1)) x310000 x310001)
end
def estoverslaw11_DurableOrdered.f (k : Nat) (l0_0 : List (List Int)) (l0_1 : List (S38)) (a1 : Int) (a2 : Int) : Option (Bool) := (estoverslaw11_few.f k l0_0 l0_1).bind fun t310 => (if t310 = true then ((estoversref11_Check.f k l0_0 l0_1).bind fun t311 => (estoverslaw11_DurableOrdered.j0 k a1 a2 (t311 != 0) l0_0 l0_1)) else (estoverslaw11_DurableOrdered.j0 k a1 a2 true l0_0 l0_1))
theorem estoverslaw11_DurableOrdered.mono_l : ∀ k, (∀ y0 y1 y2 y3 y4, LeO (estoverslaw11_DurableOrdered.j0 k y0 y1 y2 y3 y4) (estoverslaw11_DurableOrdered.j0 (k + 1) y0 y1 y2 y3 y4)) ∧ (∀ y0 y1 y2 y3 y4, LeO (estoverslaw11_DurableOrdered.j1 k y0 y1 y2 y3 y4) (estoverslaw11_DurableOrdered.j1 (k + 1) y0 y1 y2 y3 y4)) ∧ (∀ y0 y1 y2 y3 y4 y5 y6, LeO (estoverslaw11_DurableOrdered.l0 k y0 y1 y2 y3 y4 y5 y6) (estoverslaw11_DurableOrdered.l0 (k + 1) y0 y1 y2 y3 y4 y5 y6)) ∧ (∀ y0 y1 y2 y3 y4 y5 y6 y7, LeO (estoverslaw11_DurableOrdered.j3 k y0 y1 y2 y3 y4 y5 y6 y7) (estoverslaw11_DurableOrdered.j3 (k + 1) y0 y1 y2 y3 y4 y5 y6 y7)) ∧ (∀ y0 y1 y2 y3 y4 y5, LeO (estoverslaw11_DurableOrdered.j4 k y0 y1 y2 y3 y4 y5) (estoverslaw11_DurableOrdered.j4 (k + 1) y0 y1 y2 y3 y4 y5)) ∧ (∀ y0 y1 y2 y3 y4, LeO (estoverslaw11_DurableOrdered.l1 k y0 y1 y2 y3 y4) (estoverslaw11_DurableOrdered.l1 (k + 1) y0 y1 y2 y3 y4)) ∧ (∀ y0 y1 y2 y3 y4 y5 y6, LeO (estoverslaw11_DurableOrdered.j6 k y0 y1 y2 y3 y4 y5 y6) (estoverslaw11_DurableOrdered.j6 (k + 1) y0 y1 y2 y3 y4 y5 y6)) ∧ (∀ y0 y1 y2 y3 y4 y5 y6, LeO (estoverslaw11_DurableOrdered.l2 k y0 y1 y2 y3 y4 y5 y6) (estoverslaw11_DurableOrdered.l2 (k + 1) y0 y1 y2 y3 y4 y5 y6))
  | 0 => ⟨fun _ _ _ _ _ r h => by simp [estoverslaw11_DurableOrdered.j0] at h, fun _ _ _ _ _ r h => by simp [estoverslaw11_DurableOrdered.j1] at h, fun _ _ _ _ _ _ _ r h => by simp [estoverslaw11_DurableOrdered.l0] at h, fun _ _ _ _ _ _ _ _ r h => by simp [estoverslaw11_DurableOrdered.j3] at h, fun _ _ _ _ _ _ r h => by simp [estoverslaw11_DurableOrdered.j4] at h, fun _ _ _ _ _ r h => by simp [estoverslaw11_DurableOrdered.l1] at h, fun _ _ _ _ _ _ _ r h => by simp [estoverslaw11_DurableOrdered.j6] at h, fun _ _ _ _ _ _ _ r h => by simp [estoverslaw11_DurableOrdered.l2] at h⟩
  | k + 1 => by
    obtain ⟨ih0, ih1, ih2, ih3, ih4, ih5, ih6, ih7⟩ := estoverslaw11_DurableOrdered.mono_l k
    refine ⟨?_, ?_, ?_, ?_, ?_, ?_, ?_, ?_⟩
    · intro y0 y1 y2 y3 y4
      unfold estoverslaw11_DurableOrdered.j0
      repeat' first
      | (with_reducible exact ih0 _ _ _ _ _)
      | (with_reducible exact ih1 _ _ _ _ _)
      | (with_reducible exact ih2 _ _ _ _ _ _ _)
      | (with_reducible exact ih3 _ _ _ _ _ _ _ _)
      | (with_reducible exact ih4 _ _ _ _ _ _)
      | (with_reducible exact ih5 _ _ _ _ _)
      | (with_reducible exact ih6 _ _ _ _ _ _ _)
      | (with_reducible exact ih7 _ _ _ _ _ _ _)
      | (with_reducible exact estoverslaw11_awake.mono _)
      | (with_reducible exact estoverslaw11_few.mono _ _ _)
      | (with_reducible exact estoverslaw11_settled.mono _ _ _ _)
      | (with_reducible exact estoversref11_Check.mono _ _ _)
      | (with_reducible exact LeO.refl _)
      | (with_reducible exact LeO.none _)
      | (with_reducible refine LeO.ite ?_ ?_)
      | (with_reducible refine LeO.bind ?_ (fun _ => ?_))
      | exact ih0 _ _ _ _ _
      | exact ih1 _ _ _ _ _
      | exact ih2 _ _ _ _ _ _ _
      | exact ih3 _ _ _ _ _ _ _ _
      | exact ih4 _ _ _ _ _ _
      | exact ih5 _ _ _ _ _
      | exact ih6 _ _ _ _ _ _ _
      | exact ih7 _ _ _ _ _ _ _
      | exact estoverslaw11_awake.mono _
      | exact estoverslaw11_few.mono _ _ _
      | exact estoverslaw11_settled.mono _ _ _ _
      | exact estoversref11_Check.mono _ _ _
      | exact LeO.none _
      | refine LeO.ite ?_ ?_
      | refine LeO.bind ?_ (fun _ => ?_)
    · intro y0 y1 y2 y3 y4
      unfold estoverslaw11_DurableOrdered.j1
      repeat' first
      | (with_reducible exact ih0 _ _ _ _ _)
      | (with_reducible exact ih1 _ _ _ _ _)
      | (with_reducible exact ih2 _ _ _ _ _ _ _)
      | (with_reducible exact ih3 _ _ _ _ _ _ _ _)
      | (with_reducible exact ih4 _ _ _ _ _ _)
      | (with_reducible exact ih5 _ _ _ _ _)
      | (with_reducible exact ih6 _ _ _ _ _ _ _)
      | (with_reducible exact ih7 _ _ _ _ _ _ _)
      | (with_reducible exact estoverslaw11_awake.mono _)
      | (with_reducible exact estoverslaw11_few.mono _ _ _)
      | (with_reducible exact estoverslaw11_settled.mono _ _ _ _)
      | (with_reducible exact estoversref11_Check.mono _ _ _)
      | (with_reducible exact LeO.refl _)
      | (with_reducible exact LeO.none _)
      | (with_reducible refine LeO.ite ?_ ?_)
      | (with_reducible refine LeO.bind ?_ (fun _ => ?_))
      | exact ih0 _ _ _ _ _
      | exact ih1 _ _ _ _ _
      | exact ih2 _ _ _ _ _ _ _
      | exact ih3 _ _ _ _ _ _ _ _
      | exact ih4 _ _ _ _ _ _
      | exact ih5 _ _ _ _ _
      | exact ih6 _ _ _ _ _ _ _
      | exact ih7 _ _ _ _ _ _ _
      | exact estoverslaw11_awake.mono _
      | exact estoverslaw11_few.mono _ _ _
      | exact estoverslaw11_settled.mono _ _ _ _
      | exact estoversref11_Check.mono _ _ _
      | exact LeO.none _
      | refine LeO.ite ?_ ?_
      | refine LeO.bind ?_ (fun _ => ?_)
    · intro y0 y1 y2 y3 y4 y5 y6
      unfold estoverslaw11_DurableOrdered.l0
      repeat' first
      | (with_reducible exact ih0 _ _ _ _ _)
      | (with_reducible exact ih1 _ _ _ _ _)
      | (with_reducible exact ih2 _ _ _ _ _ _ _)
      | (with_reducible exact ih3 _ _ _ _ _ _ _ _)
      | (with_reducible exact ih4 _ _ _ _ _ _)
      | (with_reducible exact ih5 _ _ _ _ _)
      | (with_reducible exact ih6 _ _ _ _ _ _ _)
      | (with_reducible exact ih7 _ _ _ _ _ _ _)
      | (with_reducible exact estoverslaw11_awake.mono _)
      | (with_reducible exact estoverslaw11_few.mono _ _ _)
      | (with_reducible exact estoverslaw11_settled.mono _ _ _ _)
      | (with_reducible exact estoversref11_Check.mono _ _ _)
      | (with_reducible exact LeO.refl _)
      | (with_reducible exact LeO.none _)
      | (with_reducible refine LeO.ite ?_ ?_)
      | (with_reducible refine LeO.bind ?_ (fun _ => ?_))
      | exact ih0 _ _ _ _ _
      | exact ih1 _ _ _ _ _
      | exact ih2 _ _ _ _ _ _ _
      | exact ih3 _ _ _ _ _ _ _ _
      | exact ih4 _ _ _ _ _ _
      | exact ih5 _ _ _ _ _
      | exact ih6 _ _ _ _ _ _ _
      | exact ih7 _ _ _ _ _ _ _
      | exact estoverslaw11_awake.mono _
      | exact estoverslaw11_few.mono _ _ _
      | exact estoverslaw11_settled.mono _ _ _ _
      | exact estoversref11_Check.mono _ _ _
      | exact LeO.none _
      | refine LeO.ite ?_ ?_
      | refine LeO.bind ?_ (fun _ => ?_)
    · intro y0 y1 y2 y3 y4 y5 y6 y7
      unfold estoverslaw11_DurableOrdered.j3
      repeat' first
      | (with_reducible exact ih0 _ _ _ _ _)
      | (with_reducible exact ih1 _ _ _ _ _)
      | (with_reducible exact ih2 _ _ _ _ _ _ _)
      | (with_reducible exact ih3 _ _ _ _ _ _ _ _)
      | (with_reducible exact ih4 _ _ _ _ _ _)
      | (with_reducible exact ih5 _ _ _ _ _)
      | (with_reducible exact ih6 _ _ _ _ _ _ _)
      | (with_reducible exact ih7 _ _ _ _ _ _ _)
      | (with_reducible exact estoverslaw11_awake.mono _)
      | (with_reducible exact estoverslaw11_few.mono _ _ _)
      | (with_reducible exact estoverslaw11_settled.mono _ _ _ _)
      | (with_reducible exact estoversref11_Check.mono _ _ _)
      | (with_reducible exact LeO.refl _)
      | (with_reducible exact LeO.none _)
      | (with_reducible refine LeO.ite ?_ ?_)
      | (with_reducible refine LeO.bind ?_ (fun _ => ?_))
      | exact ih0 _ _ _ _ _
      | exact ih1 _ _ _ _ _
      | exact ih2 _ _ _ _ _ _ _
      | exact ih3 _ _ _ _ _ _ _ _
      | exact ih4 _ _ _ _ _ _
      | exact ih5 _ _ _ _ _
      | exact ih6 _ _ _ _ _ _ _
      | exact ih7 _ _ _ _ _ _ _
      | exact estoverslaw11_awake.mono _
      | exact estoverslaw11_few.mono _ _ _
      | exact estoverslaw11_settled.mono _ _ _ _
      | exact estoversref11_Check.mono _ _ _
      | exact LeO.none _
      | refine LeO.ite ?_ ?_
      | refine LeO.bind ?_ (fun _ => ?_)
    · intro y0 y1 y2 y3 y4 y5
      unfold estoverslaw11_DurableOrdered.j4
      repeat' first
      | (with_reducible exact ih0 _ _ _ _ _)
      | (with_reducible exact ih1 _ _ _ _ _)
      | (with_reducible exact ih2 _ _ _ _ _ _ _)
      | (with_reducible exact ih3 _ _ _ _ _ _ _ _)
      | (with_reducible exact ih4 _ _ _ _ _ _)
      | (with_reducible exact ih5 _ _ _ _ _)
      | (with_reducible exact ih6 _ _ _ _ _ _ _)
      | (with_reducible exact ih7 _ _ _ _ _ _ _)
      | (with_reducible exact estoverslaw11_awake.mono _)
      | (with_reducible exact estoverslaw11_few.mono _ _ _)
      | (with_reducible exact estoverslaw11_settled.mono _ _ _ _)
      | (with_reducible exact estoversref11_Check.mono _ _ _)
      | (with_reducible exact LeO.refl _)
      | (with_reducible exact LeO.none _)
      | (with_reducible refine LeO.ite ?_ ?_)
      | (with_reducible refine LeO.bind ?_ (fun _ => ?_))
      | exact ih0 _ _ _ _ _
      | exact ih1 _ _ _ _ _
      | exact ih2 _ _ _ _ _ _ _
      | exact ih3 _ _ _ _ _ _ _ _
      | exact ih4 _ _ _ _ _ _
      | exact ih5 _ _ _ _ _
      | exact ih6 _ _ _ _ _ _ _
      | exact ih7 _ _ _ _ _ _ _
      | exact estoverslaw11_awake.mono _
      | exact estoverslaw11_few.mono _ _ _
      | exact estoverslaw11_settled.mono _ _ _ _
      | exact estoversref11_Check.mono _ _ _
      | exact LeO.none _
      | refine LeO.ite ?_ ?_
      | refine LeO.bind ?_ (fun _ => ?_)
    · intro y0 y1 y2 y3 y4
      unfold estoverslaw11_DurableOrdered.l1
      repeat' first
      | (with_reducible exact ih0 _ _ _ _ _)
      | (with_reducible exact ih1 _ _ _ _ _)
      | (with_reducible exact ih2 _ _ _ _ _ _ _)
      | (with_reducible exact ih3 _ _ _ _ _ _ _ _)
      | (with_reducible exact ih4 _ _ _ _ _ _)
      | (with_reducible exact ih5 _ _ _ _ _)
      | (with_reducible exact ih6 _ _ _ _ _ _ _)
      | (with_reducible exact ih7 _ _ _ _ _ _ _)
      | (with_reducible exact estoverslaw11_awake.mono _)
      | (with_reducible exact estoverslaw11_few.mono _ _ _)
      | (with_reducible exact estoverslaw11_settled.mono _ _ _ _)
      | (with_reducible exact estoversref11_Check.mono _ _ _)
      | (with_reducible exact LeO.refl _)
      | (with_reducible exact LeO.none _)
      | (with_reducible refine LeO.ite ?_ ?_)
      | (with_reducible refine LeO.bind ?_ (fun _ => ?_))
      | exact ih0 _ _ _ _ _
      | exact ih1 _ _ _ _ _
      | exact ih2 _ _ _ _ _ _ _
      | exact ih3 _ _ _ _ _ _ _ _
      | exact ih4 _ _ _ _ _ _
      | exact ih5 _ _ _ _ _
      | exact ih6 _ _ _ _ _ _ _
      | exact ih7 _ _ _ _ _ _ _
      | exact estoverslaw11_awake.mono _
      | exact estoverslaw11_few.mono _ _ _
      | exact estoverslaw11_settled.mono _ _ _ _
      | exact estoversref11_Check.mono _ _ _
      | exact LeO.none _
      | refine LeO.ite ?_ ?_
      | refine LeO.bind ?_ (fun _ => ?_)
    · intro y0 y1 y2 y3 y4 y5 y6
      unfold estoverslaw11_DurableOrdered.j6
      repeat' first
      | (with_reducible exact ih0 _ _ _ _ _)
      | (with_reducible exact ih1 _ _ _ _ _)
      | (with_reducible exact ih2 _ _ _ _ _ _ _)
      | (with_reducible exact ih3 _ _ _ _ _ _ _ _)
      | (with_reducible exact ih4 _ _ _ _ _ _)
      | (with_reducible exact ih5 _ _ _ _ _)
      | (with_reducible exact ih6 _ _ _ _ _ _ _)
      | (with_reducible exact ih7 _ _ _ _ _ _ _)
      | (with_reducible exact estoverslaw11_awake.mono _)
      | (with_reducible exact estoverslaw11_few.mono _ _ _)
      | (with_reducible exact estoverslaw11_settled.mono _ _ _ _)
      | (with_reducible exact estoversref11_Check.mono _ _ _)
      | (with_reducible exact LeO.refl _)
      | (with_reducible exact LeO.none _)
      | (with_reducible refine LeO.ite ?_ ?_)
      | (with_reducible refine LeO.bind ?_ (fun _ => ?_))
      | exact ih0 _ _ _ _ _
      | exact ih1 _ _ _ _ _
      | exact ih2 _ _ _ _ _ _ _
      | exact ih3 _ _ _ _ _ _ _ _
      | exact ih4 _ _ _ _ _ _
      | exact ih5 _ _ _ _ _
      | exact ih6 _ _ _ _ _ _ _
      | exact ih7 _ _ _ _ _ _ _
      | exact estoverslaw11_awake.mono _
      | exact estoverslaw11_few.mono _ _ _
      | exact estoverslaw11_settled.mono _ _ _ _
      | exact estoversref11_Check.mono _ _ _
      | exact LeO.none _
      | refine LeO.ite ?_ ?_
      | refine LeO.bind ?_ (fun _ => ?_)
    · intro y0 y1 y2 y3 y4 y5 y6
      unfold estoverslaw11_DurableOrdered.l2
      repeat' first
      | (with_reducible exact ih0 _ _ _ _ _)
      | (with_reducible exact ih1 _ _ _ _ _)
      | (with_reducible exact ih2 _ _ _ _ _ _ _)
      | (with_reducible exact ih3 _ _ _ _ _ _ _ _)
      | (with_reducible exact ih4 _ _ _ _ _ _)
      | (with_reducible exact ih5 _ _ _ _ _)
      | (with_reducible exact ih6 _ _ _ _ _ _ _)
      | (with_reducible exact ih7 _ _ _ _ _ _ _)
      | (with_reducible exact estoverslaw11_awake.mono _)
      | (with_reducible exact estoverslaw11_few.mono _ _ _)
      | (with_reducible exact estoverslaw11_settled.mono _ _ _ _)
      | (with_reducible exact estoversref11_Check.mono _ _ _)
      | (with_reducible exact LeO.refl _)
      | (with_reducible exact LeO.none _)
      | (with_reducible refine LeO.ite ?_ ?_)
      | (with_reducible refine LeO.bind ?_ (fun _ => ?_))
      | exact ih0 _ _ _ _ _
      | exact ih1 _ _ _ _ _
      | exact ih2 _ _ _ _ _ _ _
      | exact ih3 _ _ _ _ _ _ _ _
      | exact ih4 _ _ _ _ _ _
      | exact ih5 _ _ _ _ _
      | exact ih6 _ _ _ _ _ _ _
      | exact ih7 _ _ _ _ _ _ _
      | exact estoverslaw11_awake.mono _
      | exact estoverslaw11_few.mono _ _ _
      | exact estoverslaw11_settled.mono _ _ _ _
      | exact estoversref11_Check.mono _ _ _
      | exact LeO.none _
      | refine LeO.ite ?_ ?_
      | refine LeO.bind ?_ (fun _ => ?_)
theorem estoverslaw11_DurableOrdered.mono : ∀ a0 a1 a2 a3 k, LeO (estoverslaw11_DurableOrdered.f k a0 a1 a2 a3) (estoverslaw11_DurableOrdered.f (k + 1) a0 a1 a2 a3) := by
  intro a0 a1 a2 a3 k
  obtain ⟨ih0, ih1, ih2, ih3, ih4, ih5, ih6, ih7⟩ := estoverslaw11_DurableOrdered.mono_l k
  unfold estoverslaw11_DurableOrdered.f
  repeat' first
      | (with_reducible exact ih0 _ _ _ _ _)
      | (with_reducible exact ih1 _ _ _ _ _)
      | (with_reducible exact ih2 _ _ _ _ _ _ _)
      | (with_reducible exact ih3 _ _ _ _ _ _ _ _)
      | (with_reducible exact ih4 _ _ _ _ _ _)
      | (with_reducible exact ih5 _ _ _ _ _)
      | (with_reducible exact ih6 _ _ _ _ _ _ _)
      | (with_reducible exact ih7 _ _ _ _ _ _ _)
      | (with_reducible exact estoverslaw11_awake.mono _)
      | (with_reducible exact estoverslaw11_few.mono _ _ _)
      | (with_reducible exact estoverslaw11_settled.mono _ _ _ _)
      | (with_reducible exact estoversref11_Check.mono _ _ _)
      | (with_reducible exact LeO.refl _)
      | (with_reducible exact LeO.none _)
      | (with_reducible refine LeO.ite ?_ ?_)
      | (with_reducible refine LeO.bind ?_ (fun _ => ?_))
      | exact ih0 _ _ _ _ _
      | exact ih1 _ _ _ _ _
      | exact ih2 _ _ _ _ _ _ _
      | exact ih3 _ _ _ _ _ _ _ _
      | exact ih4 _ _ _ _ _ _
      | exact ih5 _ _ _ _ _
      | exact ih6 _ _ _ _ _ _ _
      | exact ih7 _ _ _ _ _ _ _
      | exact estoverslaw11_awake.mono _
      | exact estoverslaw11_few.mono _ _ _
      | exact estoverslaw11_settled.mono _ _ _ _
      | exact estoversref11_Check.mono _ _ _
      | exact LeO.none _
      | refine LeO.ite ?_ ?_
      | refine LeO.bind ?_ (fun _ => ?_)
def estoverslaw11_DurableOrdered.T19 : Bool × List (List Nat × List Nat) := (true, [([], []), ([0], [0]), ([], []), ([2], [2]), ([], []), ([3, 4], [3, 4]), ([], []), ([1, 5, 6], [1, 5, 6]), ([7], [7]), ([8], [8]), ([8], [8]), ([9, 7, 0, 1, 2, 3, 4, 5, 6, 7, 8, 9], [9]), ([10, 11, 0, 1, 2, 3, 4, 5, 6, 7, 8, 9, 10, 11], [10])])
def estoverslaw11_DurableOrdered.B19 : List Nat := [0, 1, 0, 4, 0, 28, 0, 127, 255, 511, 511, 1023, 4095]
theorem estoverslaw11_DurableOrdered.tab19 : rtab .any (opsOf Try.f6 19) = estoverslaw11_DurableOrdered.T19 := by kernel_rfl
theorem estoverslaw11_DurableOrdered.bits19 : waitsOk estoverslaw11_DurableOrdered.T19.2 estoverslaw11_DurableOrdered.B19 = true := by kernel_rfl
def estoverslaw11_DurableOrdered.T25 : Bool × List (List Nat × List Nat) := (true, [([], []), ([0], [0]), ([], []), ([], []), ([], []), ([3, 4], [3, 4]), ([5], [5]), ([1, 2, 6], [1, 2, 6]), ([7], [7])])
def estoverslaw11_DurableOrdered.B25 : List Nat := [0, 1, 0, 0, 0, 24, 56, 127, 255]
theorem estoverslaw11_DurableOrdered.tab25 : rtab .any (opsOf Try.f6 25) = estoverslaw11_DurableOrdered.T25 := by kernel_rfl
theorem estoverslaw11_DurableOrdered.bits25 : waitsOk estoverslaw11_DurableOrdered.T25.2 estoverslaw11_DurableOrdered.B25 = true := by kernel_rfl
set_option maxHeartbeats 8000000 in
set_option maxRecDepth 100000 in
theorem estoverslaw11_DurableOrdered.calls1 (k : Nat) (A0_0 : Option Addr) (c0_0 : Nat) (l0_0 : List (List Int)) (A0_1 : Option Addr) (c0_1 : Nat) (l0_1 : List (S38)) (a1 : Int) (a2 : Int) (r : Bool) (w : World) (hr0_0 : Kd.C (Kd.slice 5 (Kd.int .u8)) w A0_0 l0_0.length l0_0) (hc0_0 : l0_0.length ≤ c0_0) (hr0_1 : Kd.C k38 w A0_1 l0_1.length l0_1) (hc0_1 : l0_1.length ≤ c0_1) (hr_ : r = true) (h : estoverslaw11_DurableOrdered.f k l0_0 l0_1 a1 a2 = some r) :
    Calls Try.prog 6 #[.agg #[.slice A0_0 l0_0.length c0_0, .slice A0_1 l0_1.length c0_1], .int .i64 a1, .int .i64 a2] w fun e w' => e = .returned (.bool r) ∧ Below w.heap.size w w' := by
  have HRT := Aside0.mk hr_
  clear hr_
  have hu25 := Try.underlying25
  have HR0_0 := Aside0.mk hr0_0
  have HC0_0 := Aside0.mk hc0_0
  clear hr0_0 hc0_0
  have HR0_1 := Aside0.mk hr0_1
  have HC0_1 := Aside0.mk hc0_1
  clear hr0_1 hc0_1
  have HB := Aside0.mk (Below.refl w.heap.size w)
  have H : ((estoverslaw11_few.f k l0_0 l0_1).bind fun t310 => (if t310 = true then ((estoversref11_Check.f k l0_0 l0_1).bind fun t311 => (estoverslaw11_DurableOrdered.j0 k a1 a2 (t311 != 0) l0_0 l0_1)) else (estoverslaw11_DurableOrdered.j0 k a1 a2 true l0_0 l0_1))) = some r := h
  clear h
  have HC4 := Aside0.mk H
  clear H
  go_enter Try.func6, Try.ntmps6
  go_upto_region 1 with (first | ((with_reducible refine gate_dst (N := 3) rfl ?_); (try (refine gate_guard (by rfl) ?_; dsimp only)); refine box_event ?hg (N := 3) ?hd (cs := #[.slice A0_0 l0_0.length c0_0, .slice A0_1 l0_1.length c0_1]) (t := 25) ?hr ?_; (case hd => rfl); (case hg => rfl); (case hr => first | (go_simp; done) | (go_simp; rfl)); intro gb309 hg w5 hbox hb; have n0_ := Aside0.mk (below_step (by repeat (first | (with_reducible first | exact HB.out | apply below_alloc | apply pw_below_drewN | apply below_drew1) | exact HB.out)) hb); have n1_ := Aside0.mk (hbox); have n2_ := Aside0.mk ((by rw [hg]; exact (below_size (by repeat (first | (with_reducible first | exact HB.out | apply below_alloc | apply pw_below_drewN | apply below_drew1) | exact HB.out))) : w.heap.size ≤ gb309)); have n3_ := Aside0.mk ((by rw [hg]; exact (below_size (by repeat (first | (with_reducible first | exact HB.out | apply below_alloc | apply pw_below_drewN | apply below_drew1) | exact HB.out))) : w.heap.size ≤ gb309)); clear HB; have HB := n0_; have BK309 := n1_; have GW309 := n2_; have GE309 := n3_; clear n0_ n1_ n2_ n3_; clear hb hbox hg))
  (try simp only [Act.put, List.setIfInBounds_toArray, List.set_cons_zero, List.set_cons_succ])
  go_cut [26] (fun v26 wc => ∃ (kq : Nat) (x26_3 : Bool), v26 = .bool x26_3 ∧ Aside0 (estoverslaw11_DurableOrdered.j0 kq a1 a2 x26_3 l0_0 l0_1 = some r) ∧ Aside0 (kq ≤ k) ∧ Aside0 (wc.heap[gb309]? = some (.cells #[(.slice A0_0 l0_0.length c0_0), (.slice A0_1 l0_1.length c0_1)] 25 (0, 0))) ∧ Aside0 (Below w.heap.size w wc))
  case first =>
    have H := HC4.out
    clear HC4
    replace H := Option.bind_eq_some_iff.mp H
    obtain ⟨t310, A60, H⟩ := H
    replace H : (if t310 = true then ((estoversref11_Check.f k l0_0 l0_1).bind fun t311 => (estoverslaw11_DurableOrdered.j0 k a1 a2 (t311 != 0) l0_0 l0_1)) else (estoverslaw11_DurableOrdered.j0 k a1 a2 true l0_0 l0_1)) = some r := H
    have A6 := Aside0.mk A60
    clear A60
    by_cases c7 : t310 = true
    rotate_left
    · replace c7 := Bool.eq_false_iff.mpr c7
      (subst c7); (have H1 : (estoverslaw11_DurableOrdered.j0 k a1 a2 true l0_0 l0_1) = some r := by rw [if_neg (show ¬ (false = true) by decide)] at H; exact H); (clear H); (have H := H1); (clear H1); (have H' := Aside0.mk H); (clear H); (have hcz13_0 : w5.cell? ⟨gb309, 0, none⟩ = some (.slice A0_0 l0_0.length c0_0) := (blk_cell BK309.out 0).trans rfl); (have hcz13_1 : w5.cell? ⟨gb309, 1, none⟩ = some (.slice A0_1 l0_1.length c0_1) := (blk_cell BK309.out 1).trans rfl); (have hfz13_0 := blk_frozen BK309.out 0); (have hfz13_1 := blk_frozen BK309.out 1)
      go_wp2_with (first | ((with_reducible refine gate_callee (f := 12) rfl ?_); refine goesL_ (some 17) rfl rfl Try.func12 (by kernel_rfl) rfl #[.agg #[.slice A0_0 l0_0.length c0_0, .slice A0_1 l0_1.length c0_1]] rfl (by (try simp only [List.map_toArray, List.map_cons, List.map_nil]); first | done | rfl | (simp only [List.length_drop, List.length_take]; rfl)) ?_; (with_reducible refine (estoverslaw11_few.calls k _ _ l0_0 _ _ l0_1 false _ ?side1 ?side2 ?side3 ?side4 A6.out).mono ?_); (case side1 => repeat (first | exact (Kd.C_below HR0_0.out HB.out) | (with_reducible refine Kd.C_alloc ?_ _) | (with_reducible refine Kd.C_drewN ?_ _) | (with_reducible refine Kd.C_drew ?_))); (case side2 => exact HC0_0.out); (case side3 => repeat (first | exact (Kd.C_below HR0_1.out HB.out) | (with_reducible refine Kd.C_alloc ?_ _) | (with_reducible refine Kd.C_drewN ?_ _) | (with_reducible refine Kd.C_drew ?_))); (case side4 => exact HC0_1.out); rintro e w14 ⟨rfl, hb⟩; refine ⟨_, rfl, ?_⟩; have n0_ := Aside0.mk (blk_below (g := gb309) (o := .cells #[.slice A0_0 l0_0.length c0_0, .slice A0_1 l0_1.length c0_1] 25 (0, 0)) (by (with_reducible repeat (first | refine blk_drewN ?_ _ | refine blk_drew ?_ | refine blk_alloc ?_ _)); exact BK309.out) hb); have n1_ := Aside0.mk (below_step (by repeat (first | (with_reducible first | exact HB.out | apply below_alloc | apply pw_below_drewN | apply below_drew1 | refine below_set ?_ GE309.out) | exact HB.out)) hb); clear BK309; clear HB; have BK309 := n0_; have HB := n1_; clear n0_ n1_; (try clear hb); (try clear hb2); (try clear hk); (try clear hi)))
      go_meet
      case rel => exact ⟨_, (true), (by first | rfl | (simp; done) | (simp [*]; done)), H', ⟨by first | omega | exact Nat.le_refl _⟩, ⟨by (with_reducible repeat (first | refine blk_drewN ?_ _ | refine blk_drew ?_ | refine blk_alloc ?_ _)); exact BK309.out⟩, ⟨by repeat (first | (with_reducible first | exact HB.out | apply below_alloc | apply pw_below_drewN | apply below_drew1 | refine below_set ?_ GE309.out) | exact HB.out)⟩⟩
    subst c7
    have H1 : ((estoversref11_Check.f k l0_0 l0_1).bind fun t311 => (estoverslaw11_DurableOrdered.j0 k a1 a2 (t311 != 0) l0_0 l0_1)) = some r := by rw [if_pos rfl] at H; exact H
    clear H
    have H := H1
    clear H1
    replace H := Option.bind_eq_some_iff.mp H
    obtain ⟨t311, A80, H⟩ := H
    replace H : (estoverslaw11_DurableOrdered.j0 k a1 a2 (t311 != 0) l0_0 l0_1) = some r := H
    have A8 := Aside0.mk A80
    clear A80
    have H' := Aside0.mk H
    clear H
    have hcz9_0 : w5.cell? ⟨gb309, 0, none⟩ = some (.slice A0_0 l0_0.length c0_0) := (blk_cell BK309.out 0).trans rfl
    have hcz9_1 : w5.cell? ⟨gb309, 1, none⟩ = some (.slice A0_1 l0_1.length c0_1) := (blk_cell BK309.out 1).trans rfl
    have hfz9_0 := blk_frozen BK309.out 0
    have hfz9_1 := blk_frozen BK309.out 1
    go_wp2_with (first | ((with_reducible refine gate_callee (f := 12) rfl ?_); refine goesL_ (some 17) rfl rfl Try.func12 (by kernel_rfl) rfl #[.agg #[.slice A0_0 l0_0.length c0_0, .slice A0_1 l0_1.length c0_1]] rfl (by (try simp only [List.map_toArray, List.map_cons, List.map_nil]); first | done | rfl | (simp only [List.length_drop, List.length_take]; rfl)) ?_; (with_reducible refine (estoverslaw11_few.calls k _ _ l0_0 _ _ l0_1 true _ ?side1 ?side2 ?side3 ?side4 A6.out).mono ?_); (case side1 => repeat (first | exact (Kd.C_below HR0_0.out HB.out) | (with_reducible refine Kd.C_alloc ?_ _) | (with_reducible refine Kd.C_drewN ?_ _) | (with_reducible refine Kd.C_drew ?_))); (case side2 => exact HC0_0.out); (case side3 => repeat (first | exact (Kd.C_below HR0_1.out HB.out) | (with_reducible refine Kd.C_alloc ?_ _) | (with_reducible refine Kd.C_drewN ?_ _) | (with_reducible refine Kd.C_drew ?_))); (case side4 => exact HC0_1.out); rintro e w10 ⟨rfl, hb⟩; refine ⟨_, rfl, ?_⟩; have n0_ := Aside0.mk (blk_below (g := gb309) (o := .cells #[.slice A0_0 l0_0.length c0_0, .slice A0_1 l0_1.length c0_1] 25 (0, 0)) (by (with_reducible repeat (first | refine blk_drewN ?_ _ | refine blk_drew ?_ | refine blk_alloc ?_ _)); exact BK309.out) hb); have n1_ := Aside0.mk (below_step (by repeat (first | (with_reducible first | exact HB.out | apply below_alloc | apply pw_below_drewN | apply below_drew1 | refine below_set ?_ GE309.out) | exact HB.out)) hb); clear BK309; clear HB; have BK309 := n0_; have HB := n1_; clear n0_ n1_; (try clear hb); (try clear hb2); (try clear hk); (try clear hi); have hcz11_0 : w10.cell? ⟨gb309, 0, none⟩ = some (.slice A0_0 l0_0.length c0_0) := (blk_cell BK309.out 0).trans rfl; have hcz11_1 : w10.cell? ⟨gb309, 1, none⟩ = some (.slice A0_1 l0_1.length c0_1) := (blk_cell BK309.out 1).trans rfl; have hfz11_0 := blk_frozen BK309.out 0; have hfz11_1 := blk_frozen BK309.out 1) | (go_at_call 15; (with_reducible refine (estoversref11_Check.calls k _ _ l0_0 _ _ l0_1 t311 _ ?side1 ?side2 ?side3 ?side4 A8.out).mono ?_); (case side1 => repeat (first | exact (Kd.C_below HR0_0.out HB.out) | (with_reducible refine Kd.C_alloc ?_ _) | (with_reducible refine Kd.C_drewN ?_ _) | (with_reducible refine Kd.C_drew ?_))); (case side2 => exact HC0_0.out); (case side3 => repeat (first | exact (Kd.C_below HR0_1.out HB.out) | (with_reducible refine Kd.C_alloc ?_ _) | (with_reducible refine Kd.C_drewN ?_ _) | (with_reducible refine Kd.C_drew ?_))); (case side4 => exact HC0_1.out); rintro e w12 ⟨rfl, hb⟩; have n0_ := Aside0.mk (blk_below (g := gb309) (o := .cells #[.slice A0_0 l0_0.length c0_0, .slice A0_1 l0_1.length c0_1] 25 (0, 0)) (by (with_reducible repeat (first | refine blk_drewN ?_ _ | refine blk_drew ?_ | refine blk_alloc ?_ _)); exact BK309.out) hb); have n1_ := Aside0.mk (below_step (by repeat (first | (with_reducible first | exact HB.out | apply below_alloc | apply pw_below_drewN | apply below_drew1 | refine below_set ?_ GE309.out) | exact HB.out)) hb); clear BK309; clear HB; have BK309 := n0_; have HB := n1_; clear n0_ n1_; (try clear hb); (try clear hb2); (try clear hk); (try clear hi)))
    go_meet
    case rel => exact ⟨_, ((t311 != 0)), (by first | rfl | (simp; done) | (simp [*]; done)), H', ⟨by first | omega | exact Nat.le_refl _⟩, ⟨by (with_reducible repeat (first | refine blk_drewN ?_ _ | refine blk_drew ?_ | refine blk_alloc ?_ _)); exact BK309.out⟩, ⟨by repeat (first | (with_reducible first | exact HB.out | apply below_alloc | apply pw_below_drewN | apply below_drew1 | refine below_set ?_ GE309.out) | exact HB.out)⟩⟩
  case rest =>
    clear HC4
    try clear c1
    try clear p2
    try clear c6
    try clear c7
    try clear c12
    try clear hcz11_0
    try clear hcz11_1
    try clear hcz13_0
    try clear hcz13_1
    try clear hcz9_0
    try clear hcz9_1
    try clear hfz11_0
    try clear hfz11_1
    try clear hfz13_0
    try clear hfz13_1
    try clear hfz9_0
    try clear hfz9_1
    obtain ⟨kq, x26_3, rfl, HA, HJ3, BK309, HB⟩ := hcut
    cases kq with
    | zero => exact absurd HA.out (by simp [estoverslaw11_DurableOrdered.j0])
    | succ kj3 =>
      (have H := HA.out); (clear HA); (simp only [estoverslaw11_DurableOrdered.j0] at H)
      by_cases c15 : x26_3 = true
      · subst c15
        (have H1 : ((estoverslaw11_awake.f kj3).bind fun t312 => (some t312)) = some r := by rw [if_pos rfl] at H; exact H); (clear H); (have H := H1); (clear H1); (replace H := Option.bind_eq_some_iff.mp H); (obtain ⟨t312, A160, H⟩ := H); (replace H : (some t312) = some r := H); (have A16 := Aside0.mk A160); (clear A160); (obtain rfl := Option.some.inj H)
        go_wp2_with (first | ((with_reducible refine gate_callee (f := 13) rfl ?_); refine goesL_ (some 27) rfl rfl Try.func13 (by kernel_rfl) rfl #[] rfl (by (try simp only [List.map_toArray, List.map_cons, List.map_nil]); first | done | rfl | (simp only [List.length_drop, List.length_take]; rfl)) ?_; (with_reducible refine (estoverslaw11_awake.calls kj3  t312 _ A16.out).mono ?_); rintro e w17 ⟨rfl, hb⟩; refine ⟨_, rfl, ?_⟩; have n0_ := Aside0.mk (blk_below (g := gb309) (o := .cells #[.slice A0_0 l0_0.length c0_0, .slice A0_1 l0_1.length c0_1] 25 (0, 0)) (by (with_reducible repeat (first | refine blk_drewN ?_ _ | refine blk_drew ?_ | refine blk_alloc ?_ _)); exact BK309.out) hb); have n1_ := Aside0.mk (below_step (by repeat (first | (with_reducible first | exact HB.out | apply below_alloc | apply pw_below_drewN | apply below_drew1 | refine below_set ?_ GE309.out) | exact HB.out)) hb); clear BK309; clear HB; have BK309 := n0_; have HB := n1_; clear n0_ n1_; (try clear hb); (try clear hb2); (try clear hk); (try clear hi)))
        go_ret
        exact ⟨by first | rfl | (simp [errW_none, errW_some] <;> rfl) | (simp [*, errW_none, errW_some] <;> rfl), by repeat (first | (with_reducible first | exact HB.out | apply below_alloc | apply pw_below_drewN | apply below_drew1 | refine below_set ?_ GE309.out) | exact HB.out)⟩
      (replace c15 := Bool.eq_false_iff.mpr c15); (subst c15); (have H1 : ((durable_Ordered.f l0_0 l0_1 a1 a2).bind fun bt313 => (if bt313.1 = true then (estoverslaw11_DurableOrdered.j1 kj3 a1 a2 (bt313.2 != 0) l0_0 l0_1) else (estoverslaw11_DurableOrdered.j1 kj3 a1 a2 true l0_0 l0_1))) = some r := by rw [if_neg (show ¬ (false = true) by decide)] at H; exact H); (clear H); (have H := H1); (clear H1); (replace H := Option.bind_eq_some_iff.mp H); (obtain ⟨⟨t313, t314⟩, A180, H⟩ := H); (replace H : (if t313 = true then (estoverslaw11_DurableOrdered.j1 kj3 a1 a2 (t314 != 0) l0_0 l0_1) else (estoverslaw11_DurableOrdered.j1 kj3 a1 a2 true l0_0 l0_1)) = some r := H); (have A18 := Aside0.mk A180); (clear A180); (have HC19 := Aside0.mk H); (clear H); (have hcz20_0 : wc.cell? ⟨gb309, 0, none⟩ = some (.slice A0_0 l0_0.length c0_0) := (blk_cell BK309.out 0).trans rfl); (have hcz20_1 : wc.cell? ⟨gb309, 1, none⟩ = some (.slice A0_1 l0_1.length c0_1) := (blk_cell BK309.out 1).trans rfl); (have hfz20_0 := blk_frozen BK309.out 0); (have hfz20_1 := blk_frozen BK309.out 1)
      go_upto_region 4 with (first | ((with_reducible refine gate_callee (f := 19) rfl ?_); refine goesL_ (some 35) rfl rfl Try.func19 (by kernel_rfl) rfl #[.slice A0_0 l0_0.length c0_0, .slice A0_1 l0_1.length c0_1, .int .i64 a1, .int .i64 a2] rfl (by (try simp only [List.map_toArray, List.map_cons, List.map_nil]); first | done | rfl | (simp only [List.length_drop, List.length_take]; rfl)) ?_; (with_reducible refine (durable_Ordered.calls _ _ l0_0 _ _ l0_1 a1 a2 t313 t314 _ ?side1 ?side2 ?side3 ?side4 A18.out).mono ?_); (case side1 => repeat (first | exact (Kd.C_below HR0_0.out HB.out) | (with_reducible refine Kd.C_alloc ?_ _) | (with_reducible refine Kd.C_drewN ?_ _) | (with_reducible refine Kd.C_drew ?_))); (case side2 => exact HC0_0.out); (case side3 => repeat (first | exact (Kd.C_below HR0_1.out HB.out) | (with_reducible refine Kd.C_alloc ?_ _) | (with_reducible refine Kd.C_drewN ?_ _) | (with_reducible refine Kd.C_drew ?_))); (case side4 => exact HC0_1.out); rintro e w21 ⟨rfl, hb⟩; refine ⟨_, rfl, ?_⟩; have n0_ := Aside0.mk (blk_below (g := gb309) (o := .cells #[.slice A0_0 l0_0.length c0_0, .slice A0_1 l0_1.length c0_1] 25 (0, 0)) (by (with_reducible repeat (first | refine blk_drewN ?_ _ | refine blk_drew ?_ | refine blk_alloc ?_ _)); exact BK309.out) hb); have n1_ := Aside0.mk (below_step (by repeat (first | (with_reducible first | exact HB.out | apply below_alloc | apply pw_below_drewN | apply below_drew1 | refine below_set ?_ GE309.out) | exact HB.out)) hb); clear BK309; clear HB; have BK309 := n0_; have HB := n1_; clear n0_ n1_; (try clear hb); (try clear hb2); (try clear hk); (try clear hi)))
      (try simp only [Act.put, List.setIfInBounds_toArray, List.set_cons_zero, List.set_cons_succ])
      go_cut [43] (fun v43 wc => ∃ (kq : Nat) (x43_18 : Bool), v43 = .bool x43_18 ∧ Aside0 (estoverslaw11_DurableOrdered.j1 kq a1 a2 x43_18 l0_0 l0_1 = some r) ∧ Aside0 (kq ≤ kj3) ∧ Aside0 (wc.heap[gb309]? = some (.cells #[(.slice A0_0 l0_0.length c0_0), (.slice A0_1 l0_1.length c0_1)] 25 (0, 0))) ∧ Aside0 (Below w.heap.size w wc))
      case first =>
        (have H := HC19.out); (clear HC19)
        by_cases c22 : t313 = true
        · subst c22
          (have H1 : (estoverslaw11_DurableOrdered.j1 kj3 a1 a2 (t314 != 0) l0_0 l0_1) = some r := by rw [if_pos rfl] at H; exact H); (clear H); (have H := H1); (clear H1); (have H' := Aside0.mk H); (clear H)
          go_wp2
          go_meet
          case rel => exact ⟨_, ((t314 != 0)), (by first | rfl | (simp; done) | (simp [*]; done)), H', ⟨by have := HJ3.out; first | omega | exact Nat.le_refl _⟩, ⟨by (with_reducible repeat (first | refine blk_drewN ?_ _ | refine blk_drew ?_ | refine blk_alloc ?_ _)); exact BK309.out⟩, ⟨by repeat (first | (with_reducible first | exact HB.out | apply below_alloc | apply pw_below_drewN | apply below_drew1 | refine below_set ?_ GE309.out) | exact HB.out)⟩⟩
        (replace c22 := Bool.eq_false_iff.mpr c22); (subst c22); (have H1 : (estoverslaw11_DurableOrdered.j1 kj3 a1 a2 true l0_0 l0_1) = some r := by rw [if_neg (show ¬ (false = true) by decide)] at H; exact H); (clear H); (have H := H1); (clear H1); (have H' := Aside0.mk H); (clear H)
        go_wp2
        go_meet
        case rel => exact ⟨_, (true), (by first | rfl | (simp; done) | (simp [*]; done)), H', ⟨by have := HJ3.out; first | omega | exact Nat.le_refl _⟩, ⟨by (with_reducible repeat (first | refine blk_drewN ?_ _ | refine blk_drew ?_ | refine blk_alloc ?_ _)); exact BK309.out⟩, ⟨by repeat (first | (with_reducible first | exact HB.out | apply below_alloc | apply pw_below_drewN | apply below_drew1 | refine below_set ?_ GE309.out) | exact HB.out)⟩⟩
      case rest =>
        (clear HC19); (try clear c1); (try clear c2); (try clear p2); (try clear c6); (try clear c7); (try clear c12); (try clear c13); (try clear c15); (try clear c19); (try clear c22); (try clear hcz11_0); (try clear hcz11_1); (try clear hcz13_0); (try clear hcz13_1); (try clear hcz20_0); (try clear hcz20_1); (try clear hcz9_0); (try clear hcz9_1); (try clear hfz11_0); (try clear hfz11_1); (try clear hfz13_0); (try clear hfz13_1); (try clear hfz20_0); (try clear hfz20_1); (try clear hfz9_0); (try clear hfz9_1); (try clear p2); (obtain ⟨kq, x43_18, rfl, HA, HJ18, BK309, HB⟩ := hcut)
        cases kq with
        | zero => exact absurd HA.out (by simp [estoverslaw11_DurableOrdered.j1])
        | succ kj18 =>
          (have H := HA.out); (clear HA); (simp only [estoverslaw11_DurableOrdered.j1] at H)
          by_cases c23 : x43_18 = true
          · subst c23
            (have H1 : ((estoverslaw11_awake.f kj18).bind fun t315 => (some t315)) = some r := by rw [if_pos rfl] at H; exact H); (clear H); (have H := H1); (clear H1); (replace H := Option.bind_eq_some_iff.mp H); (obtain ⟨t315, A240, H⟩ := H); (replace H : (some t315) = some r := H); (have A24 := Aside0.mk A240); (clear A240); (obtain rfl := Option.some.inj H)
            go_wp2_with (first | ((with_reducible refine gate_callee (f := 13) rfl ?_); refine goesL_ (some 44) rfl rfl Try.func13 (by kernel_rfl) rfl #[] rfl (by (try simp only [List.map_toArray, List.map_cons, List.map_nil]); first | done | rfl | (simp only [List.length_drop, List.length_take]; rfl)) ?_; (with_reducible refine (estoverslaw11_awake.calls kj18  t315 _ A24.out).mono ?_); rintro e w25 ⟨rfl, hb⟩; refine ⟨_, rfl, ?_⟩; have n0_ := Aside0.mk (blk_below (g := gb309) (o := .cells #[.slice A0_0 l0_0.length c0_0, .slice A0_1 l0_1.length c0_1] 25 (0, 0)) (by (with_reducible repeat (first | refine blk_drewN ?_ _ | refine blk_drew ?_ | refine blk_alloc ?_ _)); exact BK309.out) hb); have n1_ := Aside0.mk (below_step (by repeat (first | (with_reducible first | exact HB.out | apply below_alloc | apply pw_below_drewN | apply below_drew1 | refine below_set ?_ GE309.out) | exact HB.out)) hb); clear BK309; clear HB; have BK309 := n0_; have HB := n1_; clear n0_ n1_; (try clear hb); (try clear hb2); (try clear hk); (try clear hi)))
            go_ret
            exact ⟨by first | rfl | (simp [errW_none, errW_some] <;> rfl) | (simp [*, errW_none, errW_some] <;> rfl), by repeat (first | (with_reducible first | exact HB.out | apply below_alloc | apply pw_below_drewN | apply below_drew1 | refine below_set ?_ GE309.out) | exact HB.out)⟩
          (replace c23 := Bool.eq_false_iff.mpr c23); (subst c23); (have H1 : (estoverslaw11_DurableOrdered.l0 kj18 a1 a2 (-1) (-1) 0 l0_0 l0_1) = some r := by rw [if_neg (show ¬ (false = true) by decide)] at H; exact H); (clear H); (have H := H1); (clear H1); (have H' := Aside0.mk H); (clear H)
          go_wp2
          go_loopg [9, 10, 11] kj18 (fun kq v9 v10 v11 w' => ∃ (x9_3 : Int) (x10_3 : Int) (x11_3 : Int), v9 = .int .i64 x9_3 ∧ v10 = .int .i64 x10_3 ∧ v11 = .int .i64 x11_3 ∧ Aside0 (estoverslaw11_DurableOrdered.l0 kq a1 a2 x9_3 x10_3 x11_3 l0_0 l0_1 = some r) ∧ Aside0 (kq ≤ kj18) ∧ Aside0 (w'.heap[gb309]? = some (.cells #[(.slice A0_0 l0_0.length c0_0), (.slice A0_1 l0_1.length c0_1)] 25 (0, 0))) ∧ Aside0 (Below w.heap.size w w'))
          case atStart => exact ⟨((-1)), ((-1)), (0), (by first | rfl | (simp; done) | (simp [*]; done)), (by first | rfl | (simp; done) | (simp [*]; done)), (by first | rfl | (simp; done) | (simp [*]; done)), H', ⟨Nat.le_refl _⟩, ⟨by (with_reducible repeat (first | refine blk_drewN ?_ _ | refine blk_drew ?_ | refine blk_alloc ?_ _)); exact BK309.out⟩, ⟨by repeat (first | (with_reducible first | exact HB.out | apply below_alloc | apply pw_below_drewN | apply below_drew1 | refine below_set ?_ GE309.out) | exact HB.out)⟩⟩
          case round =>
            (clear H'); (try clear c1); (try clear c2); (try clear p2); (try clear c6); (try clear c7); (try clear c12); (try clear c13); (try clear c15); (try clear c19); (try clear c22); (try clear c23); (try clear hcz11_0); (try clear hcz11_1); (try clear hcz13_0); (try clear hcz13_1); (try clear hcz20_0); (try clear hcz20_1); (try clear hcz9_0); (try clear hcz9_1); (try clear hfz11_0); (try clear hfz11_1); (try clear hfz13_0); (try clear hfz13_1); (try clear hfz20_0); (try clear hfz20_1); (try clear hfz9_0); (try clear hfz9_1); (try clear p2); (obtain ⟨x9_3, x10_3, x11_3, rfl, rfl, rfl, HA, HK3, BK309, HB⟩ := hrel)
            cases gk with
            | zero => exact absurd HA.out (by simp [estoverslaw11_DurableOrdered.l0])
            | succ k3 =>
              (have H := HA.out); (clear HA); (simp only [estoverslaw11_DurableOrdered.l0] at H)
              by_cases c26 : x11_3 < (l0_1.length : Int)
              · rw [if_pos c26] at H
                (have c26b0 : decide (x11_3 < (l0_1.length : Int)) = true := decide_eq_true c26); (clear c26); (have HC27 := Aside0.mk H); (clear H); (have hcz28_0 : wr.cell? ⟨gb309, 0, none⟩ = some (.slice A0_0 l0_0.length c0_0) := (blk_cell BK309.out 0).trans rfl); (have hcz28_1 : wr.cell? ⟨gb309, 1, none⟩ = some (.slice A0_1 l0_1.length c0_1) := (blk_cell BK309.out 1).trans rfl); (have hfz28_0 := blk_frozen BK309.out 0); (have hfz28_1 := blk_frozen BK309.out 1)
                go_upto_region 10 with (fail)
                go_cut [68] (fun v68 wc => ∃ (kq : Nat) (x68_26 : Bool), v68 = .bool x68_26 ∧ Aside0 (estoverslaw11_DurableOrdered.j3 kq a1 a2 x9_3 x10_3 x11_3 x68_26 l0_0 l0_1 = some r) ∧ Aside0 (kq ≤ k3) ∧ Aside0 (wc.heap[gb309]? = some (.cells #[(.slice A0_0 l0_0.length c0_0), (.slice A0_1 l0_1.length c0_1)] 25 (0, 0))) ∧ Aside0 (Below w.heap.size w wc))
                case first =>
                  (have H := HC27.out); (clear HC27)
                  by_cases c29 : 0 ≤ x11_3
                  rotate_left
                  · rw [if_neg c29] at H
                    exact absurd H (by simp)
                  (rw [if_pos c29] at H); (have c29b0 : decide (0 ≤ x11_3) = true := decide_eq_true c29); (clear c29)
                  (first | rw [c29b0] | (simp only [i64_w, i32_w]; rw [c29b0]) | skip)
                  by_cases c30 : ((rd_T38 l0_1 x11_3).f0) = 1
                  rotate_left
                  · rw [if_neg c30] at H
                    (have c30b0 : (((rd_T38 l0_1 x11_3).f0) == 1) = false := beq_eq_false_iff_ne.mpr c30); (have c30b1 : (((rd_T38 l0_1 x11_3).f0) != 1) = true := bne_iff_ne.mpr c30); (have H' := Aside0.mk H); (clear H); (have hcz32_0 : wr.cell? ⟨gb309, 0, none⟩ = some (.slice A0_0 l0_0.length c0_0) := (blk_cell BK309.out 0).trans rfl); (have hcz32_1 : wr.cell? ⟨gb309, 1, none⟩ = some (.slice A0_1 l0_1.length c0_1) := (blk_cell BK309.out 1).trans rfl); (have hfz32_0 := blk_frozen BK309.out 0); (have hfz32_1 := blk_frozen BK309.out 1); (have p316 : 0 ≤ (x11_3 : Int) := of_decide_eq_true (by first | (with_reducible assumption) | assumption)); (have q316 : x11_3 < (l0_1.length : Int) := of_decide_eq_true (by first | (with_reducible assumption) | assumption)); (obtain ⟨ad316, A316_3, c316_3, e316, hx316_0, hx316_1, hx316_2, hx316_3, hl316_3, hi316_3⟩ := at_T38 HR0_1.out x11_3 p316 q316)
                    cases e316
                    (replace hx316_0 := (HB.out.cell (World.block_lt_of_cell? w _ hx316_0)).trans hx316_0); (replace hx316_1 := (HB.out.cell (World.block_lt_of_cell? w _ hx316_1)).trans hx316_1); (replace hx316_2 := (HB.out.cell (World.block_lt_of_cell? w _ hx316_2)).trans hx316_2); (replace hx316_3 := (HB.out.cell (World.block_lt_of_cell? w _ hx316_3)).trans hx316_3); (have HR316_3 := Aside0.mk hi316_3); (have HC316_3 := Aside0.mk hl316_3); (clear hi316_3 hl316_3); (replace p316 := eq_true p316); (replace q316 := eq_true q316)
                    go_wp2
                    go_meet
                    case rel => exact ⟨_, (false), (by first | rfl | (simp; done) | (simp [*]; done)), H', ⟨by have := HJ3.out; have := HJ18.out; have := HK3.out; first | omega | exact Nat.le_refl _⟩, ⟨by (with_reducible repeat (first | refine blk_drewN ?_ _ | refine blk_drew ?_ | refine blk_alloc ?_ _)); exact BK309.out⟩, ⟨by repeat (first | (with_reducible first | exact HB.out | apply below_alloc | apply pw_below_drewN | apply below_drew1 | refine below_set ?_ GE309.out) | exact HB.out)⟩⟩
                  (rw [if_pos c30] at H); (have c30b0 : (((rd_T38 l0_1 x11_3).f0) == 1) = true := beq_iff_eq.mpr c30); (have c30b1 : (((rd_T38 l0_1 x11_3).f0) != 1) = false := bne_eq_false_iff_eq.mpr c30); (clear c30); (have H' := Aside0.mk H); (clear H); (have hcz31_0 : wr.cell? ⟨gb309, 0, none⟩ = some (.slice A0_0 l0_0.length c0_0) := (blk_cell BK309.out 0).trans rfl); (have hcz31_1 : wr.cell? ⟨gb309, 1, none⟩ = some (.slice A0_1 l0_1.length c0_1) := (blk_cell BK309.out 1).trans rfl); (have hfz31_0 := blk_frozen BK309.out 0); (have hfz31_1 := blk_frozen BK309.out 1); (have p316 : 0 ≤ (x11_3 : Int) := of_decide_eq_true (by first | (with_reducible assumption) | assumption)); (have q316 : x11_3 < (l0_1.length : Int) := of_decide_eq_true (by first | (with_reducible assumption) | assumption)); (obtain ⟨ad316, A316_3, c316_3, e316, hx316_0, hx316_1, hx316_2, hx316_3, hl316_3, hi316_3⟩ := at_T38 HR0_1.out x11_3 p316 q316)
                  cases e316
                  (replace hx316_0 := (HB.out.cell (World.block_lt_of_cell? w _ hx316_0)).trans hx316_0); (replace hx316_1 := (HB.out.cell (World.block_lt_of_cell? w _ hx316_1)).trans hx316_1); (replace hx316_2 := (HB.out.cell (World.block_lt_of_cell? w _ hx316_2)).trans hx316_2); (replace hx316_3 := (HB.out.cell (World.block_lt_of_cell? w _ hx316_3)).trans hx316_3); (have HR316_3 := Aside0.mk hi316_3); (have HC316_3 := Aside0.mk hl316_3); (clear hi316_3 hl316_3); (replace p316 := eq_true p316); (replace q316 := eq_true q316); (have p317 : 0 ≤ (x11_3 : Int) := of_decide_eq_true (by first | (with_reducible assumption) | assumption)); (have q317 : x11_3 < (l0_1.length : Int) := of_decide_eq_true (by first | (with_reducible assumption) | assumption)); (obtain ⟨ad317, A317_3, c317_3, e317, hx317_0, hx317_1, hx317_2, hx317_3, hl317_3, hi317_3⟩ := at_T38 HR0_1.out x11_3 p317 q317); (obtain rfl : ad316 = ad317 := (by injection e317)); (replace hx317_0 := (HB.out.cell (World.block_lt_of_cell? w _ hx317_0)).trans hx317_0); (replace hx317_1 := (HB.out.cell (World.block_lt_of_cell? w _ hx317_1)).trans hx317_1); (replace hx317_2 := (HB.out.cell (World.block_lt_of_cell? w _ hx317_2)).trans hx317_2); (replace hx317_3 := (HB.out.cell (World.block_lt_of_cell? w _ hx317_3)).trans hx317_3); (have HR317_3 := Aside0.mk hi317_3); (have HC317_3 := Aside0.mk hl317_3); (clear hi317_3 hl317_3); (replace p317 := eq_true p317); (replace q317 := eq_true q317); (have ea_ := Option.some.inj (hx316_3.symm.trans hx317_3)); (injection ea_ with ea_ en_ ec_); (subst ea_); (subst ec_); (clear en_)
                  go_wp2
                  go_meet
                  case rel => exact ⟨_, ((((rd_T38 l0_1 x11_3).f1) == a1)), (by first | rfl | (simp; done) | (simp [*]; done)), H', ⟨by have := HJ3.out; have := HJ18.out; have := HK3.out; first | omega | exact Nat.le_refl _⟩, ⟨by (with_reducible repeat (first | refine blk_drewN ?_ _ | refine blk_drew ?_ | refine blk_alloc ?_ _)); exact BK309.out⟩, ⟨by repeat (first | (with_reducible first | exact HB.out | apply below_alloc | apply pw_below_drewN | apply below_drew1 | refine below_set ?_ GE309.out) | exact HB.out)⟩⟩
                case rest =>
                  (clear HC27); (try clear c1); (try clear c2); (try clear p2); (try clear c3); (try clear p3); (try clear q3); (try clear hx3); (try clear c6); (try clear c7); (try clear c12); (try clear c13); (try clear c15); (try clear c19); (try clear c22); (try clear c23); (try clear c26); (try clear c26b0); (try clear c29); (try clear c29b0); (try clear c30); (try clear c30b0); (try clear c30b1); (try clear c31); (try clear p31); (try clear q31); (try clear hx31); (try clear hcz11_0); (try clear hcz11_1); (try clear hcz13_0); (try clear hcz13_1); (try clear hcz20_0); (try clear hcz20_1); (try clear hcz28_0); (try clear hcz28_1); (try clear hcz31_0); (try clear hcz31_1); (try clear hcz32_0); (try clear hcz32_1); (try clear hcz9_0); (try clear hcz9_1); (try clear hfz11_0); (try clear hfz11_1); (try clear hfz13_0); (try clear hfz13_1); (try clear hfz20_0); (try clear hfz20_1); (try clear hfz28_0); (try clear hfz28_1); (try clear hfz31_0); (try clear hfz31_1); (try clear hfz32_0); (try clear hfz32_1); (try clear hfz9_0); (try clear hfz9_1); (try clear hx316_0); (try clear hx316_1); (try clear hx316_2); (try clear hx316_3); (try clear hx317_0); (try clear hx317_1); (try clear hx317_2); (try clear hx317_3); (try clear p2); (try clear p316); (try clear p317); (try clear q316); (try clear q317); (obtain ⟨kq, x68_26, rfl, HA, HJ26, BK309, HB⟩ := hcut)
                  cases kq with
                  | zero => exact absurd HA.out (by simp [estoverslaw11_DurableOrdered.j3])
                  | succ kj26 =>
                    (have H := HA.out); (clear HA); (simp only [estoverslaw11_DurableOrdered.j3] at H)
                    by_cases c33 : x68_26 = true
                    rotate_left
                    · replace c33 := Bool.eq_false_iff.mpr c33
                      (subst c33); (have H1 : (if 0 ≤ x11_3 then (if x11_3 < (l0_1.length : Int) then (if ((rd_T38 l0_1 x11_3).f0) = 1 then (if ((rd_T38 l0_1 x11_3).f1) = a2 then (estoverslaw11_DurableOrdered.l0 kj26 a1 a2 x9_3 (wrap64 (x11_3 + 1)) (wrap64 (x11_3 + 1)) l0_0 l0_1) else (estoverslaw11_DurableOrdered.l0 kj26 a1 a2 x9_3 x10_3 (wrap64 (x11_3 + 1)) l0_0 l0_1)) else (estoverslaw11_DurableOrdered.l0 kj26 a1 a2 x9_3 x10_3 (wrap64 (x11_3 + 1)) l0_0 l0_1)) else (none)) else (none)) = some r := by rw [if_neg (show ¬ (false = true) by decide)] at H; exact H); (clear H); (have H := H1); (clear H1)
                      by_cases c41 : 0 ≤ x11_3
                      rotate_left
                      · rw [if_neg c41] at H
                        exact absurd H (by simp)
                      (rw [if_pos c41] at H); (have c41b0 : decide (0 ≤ x11_3) = true := decide_eq_true c41); (clear c41)
                      by_cases c42 : x11_3 < (l0_1.length : Int)
                      rotate_left
                      · rw [if_neg c42] at H
                        exact absurd H (by simp)
                      (rw [if_pos c42] at H); (have c42b0 : decide (x11_3 < (l0_1.length : Int)) = true := decide_eq_true c42); (clear c42)
                      by_cases c43 : ((rd_T38 l0_1 x11_3).f0) = 1
                      rotate_left
                      · rw [if_neg c43] at H
                        (have c43b0 : (((rd_T38 l0_1 x11_3).f0) == 1) = false := beq_eq_false_iff_ne.mpr c43); (have c43b1 : (((rd_T38 l0_1 x11_3).f0) != 1) = true := bne_iff_ne.mpr c43); (have H' := Aside0.mk H); (clear H); (have hcz47_0 : wc.cell? ⟨gb309, 0, none⟩ = some (.slice A0_0 l0_0.length c0_0) := (blk_cell BK309.out 0).trans rfl); (have hcz47_1 : wc.cell? ⟨gb309, 1, none⟩ = some (.slice A0_1 l0_1.length c0_1) := (blk_cell BK309.out 1).trans rfl); (have hfz47_0 := blk_frozen BK309.out 0); (have hfz47_1 := blk_frozen BK309.out 1); (have p321 : 0 ≤ (x11_3 : Int) := of_decide_eq_true (by first | (with_reducible assumption) | assumption)); (have q321 : x11_3 < (l0_1.length : Int) := of_decide_eq_true (by first | (with_reducible assumption) | assumption)); (obtain ⟨ad321, A321_3, c321_3, e321, hx321_0, hx321_1, hx321_2, hx321_3, hl321_3, hi321_3⟩ := at_T38 HR0_1.out x11_3 p321 q321)
                        cases e321
                        (replace hx321_0 := (HB.out.cell (World.block_lt_of_cell? w _ hx321_0)).trans hx321_0); (replace hx321_1 := (HB.out.cell (World.block_lt_of_cell? w _ hx321_1)).trans hx321_1); (replace hx321_2 := (HB.out.cell (World.block_lt_of_cell? w _ hx321_2)).trans hx321_2); (replace hx321_3 := (HB.out.cell (World.block_lt_of_cell? w _ hx321_3)).trans hx321_3); (have HR321_3 := Aside0.mk hi321_3); (have HC321_3 := Aside0.mk hl321_3); (clear hi321_3 hl321_3); (replace p321 := eq_true p321); (replace q321 := eq_true q321)
                        go_wp2
                        go_roundg kj26
                        case measure => have := HJ3.out; have := HJ18.out; have := HK3.out; have := HJ26.out; omega
                        case rel => exact ⟨(x9_3), (x10_3), (wrap64 (x11_3 + 1)), (by first | rfl | (simp; done) | (simp [*]; done)), (by first | rfl | (simp; done) | (simp [*]; done)), (by first | rfl | (simp; done) | (simp [*]; done)), H', ⟨by have := HJ3.out; have := HJ18.out; have := HK3.out; have := HJ26.out; omega⟩, ⟨by (with_reducible repeat (first | refine blk_drewN ?_ _ | refine blk_drew ?_ | refine blk_alloc ?_ _)); exact BK309.out⟩, ⟨by repeat (first | (with_reducible first | exact HB.out | apply below_alloc | apply pw_below_drewN | apply below_drew1 | refine below_set ?_ GE309.out) | exact HB.out)⟩⟩
                      (rw [if_pos c43] at H); (have c43b0 : (((rd_T38 l0_1 x11_3).f0) == 1) = true := beq_iff_eq.mpr c43); (have c43b1 : (((rd_T38 l0_1 x11_3).f0) != 1) = false := bne_eq_false_iff_eq.mpr c43); (clear c43)
                      by_cases c44 : ((rd_T38 l0_1 x11_3).f1) = a2
                      rotate_left
                      · rw [if_neg c44] at H
                        (have c44b0 : (((rd_T38 l0_1 x11_3).f1) == a2) = false := beq_eq_false_iff_ne.mpr c44); (have c44b1 : (((rd_T38 l0_1 x11_3).f1) != a2) = true := bne_iff_ne.mpr c44); (have H' := Aside0.mk H); (clear H); (have hcz46_0 : wc.cell? ⟨gb309, 0, none⟩ = some (.slice A0_0 l0_0.length c0_0) := (blk_cell BK309.out 0).trans rfl); (have hcz46_1 : wc.cell? ⟨gb309, 1, none⟩ = some (.slice A0_1 l0_1.length c0_1) := (blk_cell BK309.out 1).trans rfl); (have hfz46_0 := blk_frozen BK309.out 0); (have hfz46_1 := blk_frozen BK309.out 1); (have p321 : 0 ≤ (x11_3 : Int) := of_decide_eq_true (by first | (with_reducible assumption) | assumption)); (have q321 : x11_3 < (l0_1.length : Int) := of_decide_eq_true (by first | (with_reducible assumption) | assumption)); (obtain ⟨ad321, A321_3, c321_3, e321, hx321_0, hx321_1, hx321_2, hx321_3, hl321_3, hi321_3⟩ := at_T38 HR0_1.out x11_3 p321 q321)
                        cases e321
                        (replace hx321_0 := (HB.out.cell (World.block_lt_of_cell? w _ hx321_0)).trans hx321_0); (replace hx321_1 := (HB.out.cell (World.block_lt_of_cell? w _ hx321_1)).trans hx321_1); (replace hx321_2 := (HB.out.cell (World.block_lt_of_cell? w _ hx321_2)).trans hx321_2); (replace hx321_3 := (HB.out.cell (World.block_lt_of_cell? w _ hx321_3)).trans hx321_3); (have HR321_3 := Aside0.mk hi321_3); (have HC321_3 := Aside0.mk hl321_3); (clear hi321_3 hl321_3); (replace p321 := eq_true p321); (replace q321 := eq_true q321); (have p322 : 0 ≤ (x11_3 : Int) := of_decide_eq_true (by first | (with_reducible assumption) | assumption)); (have q322 : x11_3 < (l0_1.length : Int) := of_decide_eq_true (by first | (with_reducible assumption) | assumption)); (obtain ⟨ad322, A322_3, c322_3, e322, hx322_0, hx322_1, hx322_2, hx322_3, hl322_3, hi322_3⟩ := at_T38 HR0_1.out x11_3 p322 q322); (obtain rfl : ad321 = ad322 := (by injection e322)); (replace hx322_0 := (HB.out.cell (World.block_lt_of_cell? w _ hx322_0)).trans hx322_0); (replace hx322_1 := (HB.out.cell (World.block_lt_of_cell? w _ hx322_1)).trans hx322_1); (replace hx322_2 := (HB.out.cell (World.block_lt_of_cell? w _ hx322_2)).trans hx322_2); (replace hx322_3 := (HB.out.cell (World.block_lt_of_cell? w _ hx322_3)).trans hx322_3); (have HR322_3 := Aside0.mk hi322_3); (have HC322_3 := Aside0.mk hl322_3); (clear hi322_3 hl322_3); (replace p322 := eq_true p322); (replace q322 := eq_true q322); (have ea_ := Option.some.inj (hx321_3.symm.trans hx322_3)); (injection ea_ with ea_ en_ ec_); (subst ea_); (subst ec_); (clear en_)
                        go_wp2
                        go_roundg kj26
                        case measure => have := HJ3.out; have := HJ18.out; have := HK3.out; have := HJ26.out; omega
                        case rel => exact ⟨(x9_3), (x10_3), (wrap64 (x11_3 + 1)), (by first | rfl | (simp; done) | (simp [*]; done)), (by first | rfl | (simp; done) | (simp [*]; done)), (by first | rfl | (simp; done) | (simp [*]; done)), H', ⟨by have := HJ3.out; have := HJ18.out; have := HK3.out; have := HJ26.out; omega⟩, ⟨by (with_reducible repeat (first | refine blk_drewN ?_ _ | refine blk_drew ?_ | refine blk_alloc ?_ _)); exact BK309.out⟩, ⟨by repeat (first | (with_reducible first | exact HB.out | apply below_alloc | apply pw_below_drewN | apply below_drew1 | refine below_set ?_ GE309.out) | exact HB.out)⟩⟩
                      (rw [if_pos c44] at H); (have c44b0 : (((rd_T38 l0_1 x11_3).f1) == a2) = true := beq_iff_eq.mpr c44); (have c44b1 : (((rd_T38 l0_1 x11_3).f1) != a2) = false := bne_eq_false_iff_eq.mpr c44); (clear c44); (have H' := Aside0.mk H); (clear H); (have hcz45_0 : wc.cell? ⟨gb309, 0, none⟩ = some (.slice A0_0 l0_0.length c0_0) := (blk_cell BK309.out 0).trans rfl); (have hcz45_1 : wc.cell? ⟨gb309, 1, none⟩ = some (.slice A0_1 l0_1.length c0_1) := (blk_cell BK309.out 1).trans rfl); (have hfz45_0 := blk_frozen BK309.out 0); (have hfz45_1 := blk_frozen BK309.out 1); (have p321 : 0 ≤ (x11_3 : Int) := of_decide_eq_true (by first | (with_reducible assumption) | assumption)); (have q321 : x11_3 < (l0_1.length : Int) := of_decide_eq_true (by first | (with_reducible assumption) | assumption)); (obtain ⟨ad321, A321_3, c321_3, e321, hx321_0, hx321_1, hx321_2, hx321_3, hl321_3, hi321_3⟩ := at_T38 HR0_1.out x11_3 p321 q321)
                      cases e321
                      (replace hx321_0 := (HB.out.cell (World.block_lt_of_cell? w _ hx321_0)).trans hx321_0); (replace hx321_1 := (HB.out.cell (World.block_lt_of_cell? w _ hx321_1)).trans hx321_1); (replace hx321_2 := (HB.out.cell (World.block_lt_of_cell? w _ hx321_2)).trans hx321_2); (replace hx321_3 := (HB.out.cell (World.block_lt_of_cell? w _ hx321_3)).trans hx321_3); (have HR321_3 := Aside0.mk hi321_3); (have HC321_3 := Aside0.mk hl321_3); (clear hi321_3 hl321_3); (replace p321 := eq_true p321); (replace q321 := eq_true q321); (have p322 : 0 ≤ (x11_3 : Int) := of_decide_eq_true (by first | (with_reducible assumption) | assumption)); (have q322 : x11_3 < (l0_1.length : Int) := of_decide_eq_true (by first | (with_reducible assumption) | assumption)); (obtain ⟨ad322, A322_3, c322_3, e322, hx322_0, hx322_1, hx322_2, hx322_3, hl322_3, hi322_3⟩ := at_T38 HR0_1.out x11_3 p322 q322); (obtain rfl : ad321 = ad322 := (by injection e322)); (replace hx322_0 := (HB.out.cell (World.block_lt_of_cell? w _ hx322_0)).trans hx322_0); (replace hx322_1 := (HB.out.cell (World.block_lt_of_cell? w _ hx322_1)).trans hx322_1); (replace hx322_2 := (HB.out.cell (World.block_lt_of_cell? w _ hx322_2)).trans hx322_2); (replace hx322_3 := (HB.out.cell (World.block_lt_of_cell? w _ hx322_3)).trans hx322_3); (have HR322_3 := Aside0.mk hi322_3); (have HC322_3 := Aside0.mk hl322_3); (clear hi322_3 hl322_3); (replace p322 := eq_true p322); (replace q322 := eq_true q322); (have ea_ := Option.some.inj (hx321_3.symm.trans hx322_3)); (injection ea_ with ea_ en_ ec_); (subst ea_); (subst ec_); (clear en_)
                      go_wp2
                      go_roundg kj26
                      case measure => have := HJ3.out; have := HJ18.out; have := HK3.out; have := HJ26.out; omega
                      case rel => exact ⟨(x9_3), (wrap64 (x11_3 + 1)), (wrap64 (x11_3 + 1)), (by first | rfl | (simp; done) | (simp [*]; done)), (by first | rfl | (simp; done) | (simp [*]; done)), (by first | rfl | (simp; done) | (simp [*]; done)), H', ⟨by have := HJ3.out; have := HJ18.out; have := HK3.out; have := HJ26.out; omega⟩, ⟨by (with_reducible repeat (first | refine blk_drewN ?_ _ | refine blk_drew ?_ | refine blk_alloc ?_ _)); exact BK309.out⟩, ⟨by repeat (first | (with_reducible first | exact HB.out | apply below_alloc | apply pw_below_drewN | apply below_drew1 | refine below_set ?_ GE309.out) | exact HB.out)⟩⟩
                    (subst c33); (have H1 : (if 0 ≤ x11_3 then (if x11_3 < (l0_1.length : Int) then (if ((rd_T38 l0_1 x11_3).f0) = 1 then (if ((rd_T38 l0_1 x11_3).f1) = a2 then (estoverslaw11_DurableOrdered.l0 kj26 a1 a2 ((rd_T38 l0_1 x11_3).f2) (wrap64 (x11_3 + 1)) (wrap64 (x11_3 + 1)) l0_0 l0_1) else (estoverslaw11_DurableOrdered.l0 kj26 a1 a2 ((rd_T38 l0_1 x11_3).f2) x10_3 (wrap64 (x11_3 + 1)) l0_0 l0_1)) else (estoverslaw11_DurableOrdered.l0 kj26 a1 a2 ((rd_T38 l0_1 x11_3).f2) x10_3 (wrap64 (x11_3 + 1)) l0_0 l0_1)) else (none)) else (none)) = some r := by rw [if_pos rfl] at H; exact H); (clear H); (have H := H1); (clear H1)
                    by_cases c34 : 0 ≤ x11_3
                    rotate_left
                    · rw [if_neg c34] at H
                      exact absurd H (by simp)
                    (rw [if_pos c34] at H); (have c34b0 : decide (0 ≤ x11_3) = true := decide_eq_true c34); (clear c34)
                    by_cases c35 : x11_3 < (l0_1.length : Int)
                    rotate_left
                    · rw [if_neg c35] at H
                      exact absurd H (by simp)
                    (rw [if_pos c35] at H); (have c35b0 : decide (x11_3 < (l0_1.length : Int)) = true := decide_eq_true c35); (clear c35)
                    by_cases c36 : ((rd_T38 l0_1 x11_3).f0) = 1
                    rotate_left
                    · rw [if_neg c36] at H
                      (have c36b0 : (((rd_T38 l0_1 x11_3).f0) == 1) = false := beq_eq_false_iff_ne.mpr c36); (have c36b1 : (((rd_T38 l0_1 x11_3).f0) != 1) = true := bne_iff_ne.mpr c36); (have H' := Aside0.mk H); (clear H); (have hcz40_0 : wc.cell? ⟨gb309, 0, none⟩ = some (.slice A0_0 l0_0.length c0_0) := (blk_cell BK309.out 0).trans rfl); (have hcz40_1 : wc.cell? ⟨gb309, 1, none⟩ = some (.slice A0_1 l0_1.length c0_1) := (blk_cell BK309.out 1).trans rfl); (have hfz40_0 := blk_frozen BK309.out 0); (have hfz40_1 := blk_frozen BK309.out 1); (have p318 : 0 ≤ (x11_3 : Int) := of_decide_eq_true (by first | (with_reducible assumption) | assumption)); (have q318 : x11_3 < (l0_1.length : Int) := of_decide_eq_true (by first | (with_reducible assumption) | assumption)); (obtain ⟨ad318, A318_3, c318_3, e318, hx318_0, hx318_1, hx318_2, hx318_3, hl318_3, hi318_3⟩ := at_T38 HR0_1.out x11_3 p318 q318)
                      cases e318
                      (replace hx318_0 := (HB.out.cell (World.block_lt_of_cell? w _ hx318_0)).trans hx318_0); (replace hx318_1 := (HB.out.cell (World.block_lt_of_cell? w _ hx318_1)).trans hx318_1); (replace hx318_2 := (HB.out.cell (World.block_lt_of_cell? w _ hx318_2)).trans hx318_2); (replace hx318_3 := (HB.out.cell (World.block_lt_of_cell? w _ hx318_3)).trans hx318_3); (have HR318_3 := Aside0.mk hi318_3); (have HC318_3 := Aside0.mk hl318_3); (clear hi318_3 hl318_3); (replace p318 := eq_true p318); (replace q318 := eq_true q318); (have p319 : 0 ≤ (x11_3 : Int) := of_decide_eq_true (by first | (with_reducible assumption) | assumption)); (have q319 : x11_3 < (l0_1.length : Int) := of_decide_eq_true (by first | (with_reducible assumption) | assumption)); (obtain ⟨ad319, A319_3, c319_3, e319, hx319_0, hx319_1, hx319_2, hx319_3, hl319_3, hi319_3⟩ := at_T38 HR0_1.out x11_3 p319 q319); (obtain rfl : ad318 = ad319 := (by injection e319)); (replace hx319_0 := (HB.out.cell (World.block_lt_of_cell? w _ hx319_0)).trans hx319_0); (replace hx319_1 := (HB.out.cell (World.block_lt_of_cell? w _ hx319_1)).trans hx319_1); (replace hx319_2 := (HB.out.cell (World.block_lt_of_cell? w _ hx319_2)).trans hx319_2); (replace hx319_3 := (HB.out.cell (World.block_lt_of_cell? w _ hx319_3)).trans hx319_3); (have HR319_3 := Aside0.mk hi319_3); (have HC319_3 := Aside0.mk hl319_3); (clear hi319_3 hl319_3); (replace p319 := eq_true p319); (replace q319 := eq_true q319); (have ea_ := Option.some.inj (hx318_3.symm.trans hx319_3)); (injection ea_ with ea_ en_ ec_); (subst ea_); (subst ec_); (clear en_)
                      go_wp2
                      go_roundg kj26
                      case measure => have := HJ3.out; have := HJ18.out; have := HK3.out; have := HJ26.out; omega
                      case rel => exact ⟨((rd_T38 l0_1 x11_3).f2), (x10_3), (wrap64 (x11_3 + 1)), (by first | rfl | (simp; done) | (simp [*]; done)), (by first | rfl | (simp; done) | (simp [*]; done)), (by first | rfl | (simp; done) | (simp [*]; done)), H', ⟨by have := HJ3.out; have := HJ18.out; have := HK3.out; have := HJ26.out; omega⟩, ⟨by (with_reducible repeat (first | refine blk_drewN ?_ _ | refine blk_drew ?_ | refine blk_alloc ?_ _)); exact BK309.out⟩, ⟨by repeat (first | (with_reducible first | exact HB.out | apply below_alloc | apply pw_below_drewN | apply below_drew1 | refine below_set ?_ GE309.out) | exact HB.out)⟩⟩
                    (rw [if_pos c36] at H); (have c36b0 : (((rd_T38 l0_1 x11_3).f0) == 1) = true := beq_iff_eq.mpr c36); (have c36b1 : (((rd_T38 l0_1 x11_3).f0) != 1) = false := bne_eq_false_iff_eq.mpr c36); (clear c36)
                    by_cases c37 : ((rd_T38 l0_1 x11_3).f1) = a2
                    rotate_left
                    · rw [if_neg c37] at H
                      (have c37b0 : (((rd_T38 l0_1 x11_3).f1) == a2) = false := beq_eq_false_iff_ne.mpr c37); (have c37b1 : (((rd_T38 l0_1 x11_3).f1) != a2) = true := bne_iff_ne.mpr c37); (have H' := Aside0.mk H); (clear H); (have hcz39_0 : wc.cell? ⟨gb309, 0, none⟩ = some (.slice A0_0 l0_0.length c0_0) := (blk_cell BK309.out 0).trans rfl); (have hcz39_1 : wc.cell? ⟨gb309, 1, none⟩ = some (.slice A0_1 l0_1.length c0_1) := (blk_cell BK309.out 1).trans rfl); (have hfz39_0 := blk_frozen BK309.out 0); (have hfz39_1 := blk_frozen BK309.out 1); (have p318 : 0 ≤ (x11_3 : Int) := of_decide_eq_true (by first | (with_reducible assumption) | assumption)); (have q318 : x11_3 < (l0_1.length : Int) := of_decide_eq_true (by first | (with_reducible assumption) | assumption)); (obtain ⟨ad318, A318_3, c318_3, e318, hx318_0, hx318_1, hx318_2, hx318_3, hl318_3, hi318_3⟩ := at_T38 HR0_1.out x11_3 p318 q318)
                      cases e318
                      (replace hx318_0 := (HB.out.cell (World.block_lt_of_cell? w _ hx318_0)).trans hx318_0); (replace hx318_1 := (HB.out.cell (World.block_lt_of_cell? w _ hx318_1)).trans hx318_1); (replace hx318_2 := (HB.out.cell (World.block_lt_of_cell? w _ hx318_2)).trans hx318_2); (replace hx318_3 := (HB.out.cell (World.block_lt_of_cell? w _ hx318_3)).trans hx318_3); (have HR318_3 := Aside0.mk hi318_3); (have HC318_3 := Aside0.mk hl318_3); (clear hi318_3 hl318_3); (replace p318 := eq_true p318); (replace q318 := eq_true q318); (have p319 : 0 ≤ (x11_3 : Int) := of_decide_eq_true (by first | (with_reducible assumption) | assumption)); (have q319 : x11_3 < (l0_1.length : Int) := of_decide_eq_true (by first | (with_reducible assumption) | assumption)); (obtain ⟨ad319, A319_3, c319_3, e319, hx319_0, hx319_1, hx319_2, hx319_3, hl319_3, hi319_3⟩ := at_T38 HR0_1.out x11_3 p319 q319); (obtain rfl : ad318 = ad319 := (by injection e319)); (replace hx319_0 := (HB.out.cell (World.block_lt_of_cell? w _ hx319_0)).trans hx319_0); (replace hx319_1 := (HB.out.cell (World.block_lt_of_cell? w _ hx319_1)).trans hx319_1); (replace hx319_2 := (HB.out.cell (World.block_lt_of_cell? w _ hx319_2)).trans hx319_2); (replace hx319_3 := (HB.out.cell (World.block_lt_of_cell? w _ hx319_3)).trans hx319_3); (have HR319_3 := Aside0.mk hi319_3); (have HC319_3 := Aside0.mk hl319_3); (clear hi319_3 hl319_3); (replace p319 := eq_true p319); (replace q319 := eq_true q319); (have ea_ := Option.some.inj (hx318_3.symm.trans hx319_3)); (injection ea_ with ea_ en_ ec_); (subst ea_); (subst ec_); (clear en_); (have p320 : 0 ≤ (x11_3 : Int) := of_decide_eq_true (by first | (with_reducible assumption) | assumption)); (have q320 : x11_3 < (l0_1.length : Int) := of_decide_eq_true (by first | (with_reducible assumption) | assumption)); (obtain ⟨ad320, A320_3, c320_3, e320, hx320_0, hx320_1, hx320_2, hx320_3, hl320_3, hi320_3⟩ := at_T38 HR0_1.out x11_3 p320 q320); (obtain rfl : ad318 = ad320 := (by injection e320)); (replace hx320_0 := (HB.out.cell (World.block_lt_of_cell? w _ hx320_0)).trans hx320_0); (replace hx320_1 := (HB.out.cell (World.block_lt_of_cell? w _ hx320_1)).trans hx320_1); (replace hx320_2 := (HB.out.cell (World.block_lt_of_cell? w _ hx320_2)).trans hx320_2); (replace hx320_3 := (HB.out.cell (World.block_lt_of_cell? w _ hx320_3)).trans hx320_3); (have HR320_3 := Aside0.mk hi320_3); (have HC320_3 := Aside0.mk hl320_3); (clear hi320_3 hl320_3); (replace p320 := eq_true p320); (replace q320 := eq_true q320); (have ea_ := Option.some.inj (hx318_3.symm.trans hx320_3)); (injection ea_ with ea_ en_ ec_); (subst ea_); (subst ec_); (clear en_)
                      go_wp2
                      go_roundg kj26
                      case measure => have := HJ3.out; have := HJ18.out; have := HK3.out; have := HJ26.out; omega
                      case rel => exact ⟨((rd_T38 l0_1 x11_3).f2), (x10_3), (wrap64 (x11_3 + 1)), (by first | rfl | (simp; done) | (simp [*]; done)), (by first | rfl | (simp; done) | (simp [*]; done)), (by first | rfl | (simp; done) | (simp [*]; done)), H', ⟨by have := HJ3.out; have := HJ18.out; have := HK3.out; have := HJ26.out; omega⟩, ⟨by (with_reducible repeat (first | refine blk_drewN ?_ _ | refine blk_drew ?_ | refine blk_alloc ?_ _)); exact BK309.out⟩, ⟨by repeat (first | (with_reducible first | exact HB.out | apply below_alloc | apply pw_below_drewN | apply below_drew1 | refine below_set ?_ GE309.out) | exact HB.out)⟩⟩
                    (rw [if_pos c37] at H); (have c37b0 : (((rd_T38 l0_1 x11_3).f1) == a2) = true := beq_iff_eq.mpr c37); (have c37b1 : (((rd_T38 l0_1 x11_3).f1) != a2) = false := bne_eq_false_iff_eq.mpr c37); (clear c37); (have H' := Aside0.mk H); (clear H); (have hcz38_0 : wc.cell? ⟨gb309, 0, none⟩ = some (.slice A0_0 l0_0.length c0_0) := (blk_cell BK309.out 0).trans rfl); (have hcz38_1 : wc.cell? ⟨gb309, 1, none⟩ = some (.slice A0_1 l0_1.length c0_1) := (blk_cell BK309.out 1).trans rfl); (have hfz38_0 := blk_frozen BK309.out 0); (have hfz38_1 := blk_frozen BK309.out 1); (have p318 : 0 ≤ (x11_3 : Int) := of_decide_eq_true (by first | (with_reducible assumption) | assumption)); (have q318 : x11_3 < (l0_1.length : Int) := of_decide_eq_true (by first | (with_reducible assumption) | assumption)); (obtain ⟨ad318, A318_3, c318_3, e318, hx318_0, hx318_1, hx318_2, hx318_3, hl318_3, hi318_3⟩ := at_T38 HR0_1.out x11_3 p318 q318)
                    cases e318
                    (replace hx318_0 := (HB.out.cell (World.block_lt_of_cell? w _ hx318_0)).trans hx318_0); (replace hx318_1 := (HB.out.cell (World.block_lt_of_cell? w _ hx318_1)).trans hx318_1); (replace hx318_2 := (HB.out.cell (World.block_lt_of_cell? w _ hx318_2)).trans hx318_2); (replace hx318_3 := (HB.out.cell (World.block_lt_of_cell? w _ hx318_3)).trans hx318_3); (have HR318_3 := Aside0.mk hi318_3); (have HC318_3 := Aside0.mk hl318_3); (clear hi318_3 hl318_3); (replace p318 := eq_true p318); (replace q318 := eq_true q318); (have p319 : 0 ≤ (x11_3 : Int) := of_decide_eq_true (by first | (with_reducible assumption) | assumption)); (have q319 : x11_3 < (l0_1.length : Int) := of_decide_eq_true (by first | (with_reducible assumption) | assumption)); (obtain ⟨ad319, A319_3, c319_3, e319, hx319_0, hx319_1, hx319_2, hx319_3, hl319_3, hi319_3⟩ := at_T38 HR0_1.out x11_3 p319 q319); (obtain rfl : ad318 = ad319 := (by injection e319)); (replace hx319_0 := (HB.out.cell (World.block_lt_of_cell? w _ hx319_0)).trans hx319_0); (replace hx319_1 := (HB.out.cell (World.block_lt_of_cell? w _ hx319_1)).trans hx319_1); (replace hx319_2 := (HB.out.cell (World.block_lt_of_cell? w _ hx319_2)).trans hx319_2); (replace hx319_3 := (HB.out.cell (World.block_lt_of_cell? w _ hx319_3)).trans hx319_3); (have HR319_3 := Aside0.mk hi319_3); (have HC319_3 := Aside0.mk hl319_3); (clear hi319_3 hl319_3); (replace p319 := eq_true p319); (replace q319 := eq_true q319); (have ea_ := Option.some.inj (hx318_3.symm.trans hx319_3)); (injection ea_ with ea_ en_ ec_); (subst ea_); (subst ec_); (clear en_); (have p320 : 0 ≤ (x11_3 : Int) := of_decide_eq_true (by first | (with_reducible assumption) | assumption)); (have q320 : x11_3 < (l0_1.length : Int) := of_decide_eq_true (by first | (with_reducible assumption) | assumption)); (obtain ⟨ad320, A320_3, c320_3, e320, hx320_0, hx320_1, hx320_2, hx320_3, hl320_3, hi320_3⟩ := at_T38 HR0_1.out x11_3 p320 q320); (obtain rfl : ad318 = ad320 := (by injection e320)); (replace hx320_0 := (HB.out.cell (World.block_lt_of_cell? w _ hx320_0)).trans hx320_0); (replace hx320_1 := (HB.out.cell (World.block_lt_of_cell? w _ hx320_1)).trans hx320_1); (replace hx320_2 := (HB.out.cell (World.block_lt_of_cell? w _ hx320_2)).trans hx320_2); (replace hx320_3 := (HB.out.cell (World.block_lt_of_cell? w _ hx320_3)).trans hx320_3); (have HR320_3 := Aside0.mk hi320_3); (have HC320_3 := Aside0.mk hl320_3); (clear hi320_3 hl320_3); (replace p320 := eq_true p320); (replace q320 := eq_true q320); (have ea_ := Option.some.inj (hx318_3.symm.trans hx320_3)); (injection ea_ with ea_ en_ ec_); (subst ea_); (subst ec_); (clear en_)
                    go_wp2
                    go_roundg kj26
                    case measure => have := HJ3.out; have := HJ18.out; have := HK3.out; have := HJ26.out; omega
                    case rel => exact ⟨((rd_T38 l0_1 x11_3).f2), (wrap64 (x11_3 + 1)), (wrap64 (x11_3 + 1)), (by first | rfl | (simp; done) | (simp [*]; done)), (by first | rfl | (simp; done) | (simp [*]; done)), (by first | rfl | (simp; done) | (simp [*]; done)), H', ⟨by have := HJ3.out; have := HJ18.out; have := HK3.out; have := HJ26.out; omega⟩, ⟨by (with_reducible repeat (first | refine blk_drewN ?_ _ | refine blk_drew ?_ | refine blk_alloc ?_ _)); exact BK309.out⟩, ⟨by repeat (first | (with_reducible first | exact HB.out | apply below_alloc | apply pw_below_drewN | apply below_drew1 | refine below_set ?_ GE309.out) | exact HB.out)⟩⟩
              (rw [if_neg c26] at H); (have c26b0 : decide (x11_3 < (l0_1.length : Int)) = false := decide_eq_false c26); (clear c26); (have HC48 := Aside0.mk H); (clear H); (have hcz49_0 : wr.cell? ⟨gb309, 0, none⟩ = some (.slice A0_0 l0_0.length c0_0) := (blk_cell BK309.out 0).trans rfl); (have hcz49_1 : wr.cell? ⟨gb309, 1, none⟩ = some (.slice A0_1 l0_1.length c0_1) := (blk_cell BK309.out 1).trans rfl); (have hfz49_0 := blk_frozen BK309.out 0); (have hfz49_1 := blk_frozen BK309.out 1)
              go_upto_region 14 with (fail)
              go_cut [99] (fun v99 wc => ∃ (kq : Nat) (x99_47 : Bool), v99 = .bool x99_47 ∧ Aside0 (estoverslaw11_DurableOrdered.j4 kq a1 x9_3 x10_3 x99_47 l0_0 l0_1 = some r) ∧ Aside0 (kq ≤ k3) ∧ Aside0 (wc.heap[gb309]? = some (.cells #[(.slice A0_0 l0_0.length c0_0), (.slice A0_1 l0_1.length c0_1)] 25 (0, 0))) ∧ Aside0 (Below w.heap.size w wc))
              case first =>
                (have H := HC48.out); (clear HC48)
                by_cases c50 : x9_3 < 0
                · rw [if_pos c50] at H
                  (have c50b0 : decide (x9_3 < 0) = true := decide_eq_true c50); (clear c50)
                  (first | rw [c50b0] | (simp only [i64_w, i32_w]; rw [c50b0]) | skip)
                  (have H' := Aside0.mk H); (clear H)
                  go_wp2
                  go_meet
                  case rel => exact ⟨_, (true), (by first | rfl | (simp; done) | (simp [*]; done)), H', ⟨by have := HJ3.out; have := HJ18.out; have := HK3.out; first | omega | exact Nat.le_refl _⟩, ⟨by (with_reducible repeat (first | refine blk_drewN ?_ _ | refine blk_drew ?_ | refine blk_alloc ?_ _)); exact BK309.out⟩, ⟨by repeat (first | (with_reducible first | exact HB.out | apply below_alloc | apply pw_below_drewN | apply below_drew1 | refine below_set ?_ GE309.out) | exact HB.out)⟩⟩
                (rw [if_neg c50] at H); (have c50b0 : decide (x9_3 < 0) = false := decide_eq_false c50); (clear c50)
                (first | rw [c50b0] | (simp only [i64_w, i32_w]; rw [c50b0]) | skip)
                (have H' := Aside0.mk H); (clear H)
                go_wp2
                go_meet
                case rel => exact ⟨_, (decide (x10_3 < 0)), (by first | rfl | (simp; done) | (simp [*]; done)), H', ⟨by have := HJ3.out; have := HJ18.out; have := HK3.out; first | omega | exact Nat.le_refl _⟩, ⟨by (with_reducible repeat (first | refine blk_drewN ?_ _ | refine blk_drew ?_ | refine blk_alloc ?_ _)); exact BK309.out⟩, ⟨by repeat (first | (with_reducible first | exact HB.out | apply below_alloc | apply pw_below_drewN | apply below_drew1 | refine below_set ?_ GE309.out) | exact HB.out)⟩⟩
              case rest =>
                (clear HC48); (try clear c1); (try clear c2); (try clear p2); (try clear c3); (try clear p3); (try clear q3); (try clear hx3); (try clear c4); (try clear c5); (try clear c6); (try clear p6); (try clear c7); (try clear c12); (try clear c13); (try clear c15); (try clear c19); (try clear c22); (try clear c23); (try clear c26); (try clear c26b0); (try clear c29); (try clear c29b0); (try clear c30); (try clear c30b0); (try clear c30b1); (try clear c31); (try clear p31); (try clear q31); (try clear hx31); (try clear c32); (try clear p32); (try clear q32); (try clear hx32); (try clear c33); (try clear c34); (try clear c34b0); (try clear c35); (try clear c35b0); (try clear c36); (try clear c36b0); (try clear c36b1); (try clear c37); (try clear c37b0); (try clear c37b1); (try clear c41); (try clear c41b0); (try clear c42); (try clear c42b0); (try clear c43); (try clear c43b0); (try clear c43b1); (try clear c44); (try clear c44b0); (try clear c44b1); (try clear c50); (try clear c50b0); (try clear hcz11_0); (try clear hcz11_1); (try clear hcz13_0); (try clear hcz13_1); (try clear hcz20_0); (try clear hcz20_1); (try clear hcz28_0); (try clear hcz28_1); (try clear hcz31_0); (try clear hcz31_1); (try clear hcz32_0); (try clear hcz32_1); (try clear hcz38_0); (try clear hcz38_1); (try clear hcz39_0); (try clear hcz39_1); (try clear hcz40_0); (try clear hcz40_1); (try clear hcz45_0); (try clear hcz45_1); (try clear hcz46_0); (try clear hcz46_1); (try clear hcz47_0); (try clear hcz47_1); (try clear hcz49_0); (try clear hcz49_1); (try clear hcz9_0); (try clear hcz9_1); (try clear hfz11_0); (try clear hfz11_1); (try clear hfz13_0); (try clear hfz13_1); (try clear hfz20_0); (try clear hfz20_1); (try clear hfz28_0); (try clear hfz28_1); (try clear hfz31_0); (try clear hfz31_1); (try clear hfz32_0); (try clear hfz32_1); (try clear hfz38_0); (try clear hfz38_1); (try clear hfz39_0); (try clear hfz39_1); (try clear hfz40_0); (try clear hfz40_1); (try clear hfz45_0); (try clear hfz45_1); (try clear hfz46_0); (try clear hfz46_1); (try clear hfz47_0); (try clear hfz47_1); (try clear hfz49_0); (try clear hfz49_1); (try clear hfz9_0); (try clear hfz9_1); (try clear hx316_0); (try clear hx316_1); (try clear hx316_2); (try clear hx316_3); (try clear hx317_0); (try clear hx317_1); (try clear hx317_2); (try clear hx317_3); (try clear hx318_0); (try clear hx318_1); (try clear hx318_2); (try clear hx318_3); (try clear hx319_0); (try clear hx319_1); (try clear hx319_2); (try clear hx319_3); (try clear hx320_0); (try clear hx320_1); (try clear hx320_2); (try clear hx320_3); (try clear hx321_0); (try clear hx321_1); (try clear hx321_2); (try clear hx321_3); (try clear hx322_0); (try clear hx322_1); (try clear hx322_2); (try clear hx322_3); (try clear p2); (try clear p3); (try clear p31); (try clear p316); (try clear p317); (try clear p318); (try clear p319); (try clear p320); (try clear p321); (try clear p322); (try clear q3); (try clear q31); (try clear q316); (try clear q317); (try clear q318); (try clear q319); (try clear q320); (try clear q321); (try clear q322); (obtain ⟨kq, x99_47, rfl, HA, HJ47, BK309, HB⟩ := hcut)
                cases kq with
                | zero => exact absurd HA.out (by simp [estoverslaw11_DurableOrdered.j4])
                | succ kj47 =>
                  (have H := HA.out); (clear HA); (simp only [estoverslaw11_DurableOrdered.j4] at H)
                  by_cases c51 : x99_47 = true
                  · rw [if_pos c51] at H
                    exact absurd ((Option.some.inj H).trans HRT.out) (by decide)
                  (replace c51 := Bool.eq_false_iff.mpr c51); (subst c51); (have H1 : (estoverslaw11_DurableOrdered.l1 kj47 a1 x9_3 x10_3 l0_0 l0_1) = some r := by rw [if_neg (show ¬ (false = true) by decide)] at H; exact H); (clear H); (have H := H1); (clear H1); (have H' := Aside0.mk H); (clear H)
                  go_wp2
                  go_loopg [12] kj47 (fun kq v12 w' => ∃ (x12_5 : Int), v12 = .int .i64 x12_5 ∧ Aside0 (estoverslaw11_DurableOrdered.l1 kq a1 x9_3 x12_5 l0_0 l0_1 = some r) ∧ Aside0 (kq ≤ kj47) ∧ Aside0 (w'.heap[gb309]? = some (.cells #[(.slice A0_0 l0_0.length c0_0), (.slice A0_1 l0_1.length c0_1)] 25 (0, 0))) ∧ Aside0 (Below w.heap.size w w'))
                  case atStart => exact ⟨(x10_3), (by first | rfl | (simp; done) | (simp [*]; done)), H', ⟨Nat.le_refl _⟩, ⟨by (with_reducible repeat (first | refine blk_drewN ?_ _ | refine blk_drew ?_ | refine blk_alloc ?_ _)); exact BK309.out⟩, ⟨by repeat (first | (with_reducible first | exact HB.out | apply below_alloc | apply pw_below_drewN | apply below_drew1 | refine below_set ?_ GE309.out) | exact HB.out)⟩⟩
                  case round =>
                    (clear H'); (try clear c1); (try clear c2); (try clear p2); (try clear c3); (try clear p3); (try clear q3); (try clear hx3); (try clear c4); (try clear c5); (try clear c6); (try clear p6); (try clear c7); (try clear c12); (try clear c13); (try clear c15); (try clear c19); (try clear c22); (try clear c23); (try clear c26); (try clear c26b0); (try clear c29); (try clear c29b0); (try clear c30); (try clear c30b0); (try clear c30b1); (try clear c31); (try clear p31); (try clear q31); (try clear hx31); (try clear c32); (try clear p32); (try clear q32); (try clear hx32); (try clear c33); (try clear c34); (try clear c34b0); (try clear c35); (try clear c35b0); (try clear c36); (try clear c36b0); (try clear c36b1); (try clear c37); (try clear c37b0); (try clear c37b1); (try clear c41); (try clear c41b0); (try clear c42); (try clear c42b0); (try clear c43); (try clear c43b0); (try clear c43b1); (try clear c44); (try clear c44b0); (try clear c44b1); (try clear c50); (try clear c50b0); (try clear c51); (try clear hcz11_0); (try clear hcz11_1); (try clear hcz13_0); (try clear hcz13_1); (try clear hcz20_0); (try clear hcz20_1); (try clear hcz28_0); (try clear hcz28_1); (try clear hcz31_0); (try clear hcz31_1); (try clear hcz32_0); (try clear hcz32_1); (try clear hcz38_0); (try clear hcz38_1); (try clear hcz39_0); (try clear hcz39_1); (try clear hcz40_0); (try clear hcz40_1); (try clear hcz45_0); (try clear hcz45_1); (try clear hcz46_0); (try clear hcz46_1); (try clear hcz47_0); (try clear hcz47_1); (try clear hcz49_0); (try clear hcz49_1); (try clear hcz9_0); (try clear hcz9_1); (try clear hfz11_0); (try clear hfz11_1); (try clear hfz13_0); (try clear hfz13_1); (try clear hfz20_0); (try clear hfz20_1); (try clear hfz28_0); (try clear hfz28_1); (try clear hfz31_0); (try clear hfz31_1); (try clear hfz32_0); (try clear hfz32_1); (try clear hfz38_0); (try clear hfz38_1); (try clear hfz39_0); (try clear hfz39_1); (try clear hfz40_0); (try clear hfz40_1); (try clear hfz45_0); (try clear hfz45_1); (try clear hfz46_0); (try clear hfz46_1); (try clear hfz47_0); (try clear hfz47_1); (try clear hfz49_0); (try clear hfz49_1); (try clear hfz9_0); (try clear hfz9_1); (try clear hx316_0); (try clear hx316_1); (try clear hx316_2); (try clear hx316_3); (try clear hx317_0); (try clear hx317_1); (try clear hx317_2); (try clear hx317_3); (try clear hx318_0); (try clear hx318_1); (try clear hx318_2); (try clear hx318_3); (try clear hx319_0); (try clear hx319_1); (try clear hx319_2); (try clear hx319_3); (try clear hx320_0); (try clear hx320_1); (try clear hx320_2); (try clear hx320_3); (try clear hx321_0); (try clear hx321_1); (try clear hx321_2); (try clear hx321_3); (try clear hx322_0); (try clear hx322_1); (try clear hx322_2); (try clear hx322_3); (try clear p2); (try clear p3); (try clear p31); (try clear p316); (try clear p317); (try clear p318); (try clear p319); (try clear p32); (try clear p320); (try clear p321); (try clear p322); (try clear p6); (try clear q3); (try clear q31); (try clear q316); (try clear q317); (try clear q318); (try clear q319); (try clear q32); (try clear q320); (try clear q321); (try clear q322); (obtain ⟨x12_5, rfl, HA, HK5, BK309, HB⟩ := hrel)
                    cases gk with
                    | zero => exact absurd HA.out (by simp [estoverslaw11_DurableOrdered.l1])
                    | succ k5 =>
                      (have H := HA.out); (clear HA); (simp only [estoverslaw11_DurableOrdered.l1] at H)
                      by_cases c52 : x12_5 ≤ (l0_1.length : Int)
                      rotate_left
                      · rw [if_neg c52] at H
                        (have c52b0 : decide (x12_5 ≤ (l0_1.length : Int)) = false := decide_eq_false c52); (clear c52); (replace H := Option.bind_eq_some_iff.mp H); (obtain ⟨t323, A750, H⟩ := H); (replace H : (some t323) = some r := H); (have A75 := Aside0.mk A750); (clear A750); (obtain rfl := Option.some.inj H); (have hcz76_0 : wr.cell? ⟨gb309, 0, none⟩ = some (.slice A0_0 l0_0.length c0_0) := (blk_cell BK309.out 0).trans rfl); (have hcz76_1 : wr.cell? ⟨gb309, 1, none⟩ = some (.slice A0_1 l0_1.length c0_1) := (blk_cell BK309.out 1).trans rfl); (have hfz76_0 := blk_frozen BK309.out 0); (have hfz76_1 := blk_frozen BK309.out 1)
                        go_wp2_with (first | ((with_reducible refine gate_callee (f := 13) rfl ?_); refine goesL_ (some 141) rfl rfl Try.func13 (by kernel_rfl) rfl #[] rfl (by (try simp only [List.map_toArray, List.map_cons, List.map_nil]); first | done | rfl | (simp only [List.length_drop, List.length_take]; rfl)) ?_; (with_reducible refine (estoverslaw11_awake.calls k5  t323 _ A75.out).mono ?_); rintro e w77 ⟨rfl, hb⟩; refine ⟨_, rfl, ?_⟩; have n0_ := Aside0.mk (blk_below (g := gb309) (o := .cells #[.slice A0_0 l0_0.length c0_0, .slice A0_1 l0_1.length c0_1] 25 (0, 0)) (by (with_reducible repeat (first | refine blk_drewN ?_ _ | refine blk_drew ?_ | refine blk_alloc ?_ _)); exact BK309.out) hb); have n1_ := Aside0.mk (below_step (by repeat (first | (with_reducible first | exact HB.out | apply below_alloc | apply pw_below_drewN | apply below_drew1 | refine below_set ?_ GE309.out) | exact HB.out)) hb); clear BK309; clear HB; have BK309 := n0_; have HB := n1_; clear n0_ n1_; (try clear hb); (try clear hb2); (try clear hk); (try clear hi)))
                        go_ret
                        exact ⟨by first | rfl | (simp [errW_none, errW_some] <;> rfl) | (simp [*, errW_none, errW_some] <;> rfl), by repeat (first | (with_reducible first | exact HB.out | apply below_alloc | apply pw_below_drewN | apply below_drew1 | refine below_set ?_ GE309.out) | exact HB.out)⟩
                      (rw [if_pos c52] at H); (have c52b0 : decide (x12_5 ≤ (l0_1.length : Int)) = true := decide_eq_true c52); (clear c52)
                      by_cases c53 : 0 ≤ x12_5
                      rotate_left
                      · rw [if_neg c53] at H
                        exact absurd H (by simp)
                      (rw [if_pos c53] at H); (have c53b0 := eq_true c53); (have c53b1 : decide (0 ≤ x12_5) = true := decide_eq_true c53); (clear c53); (have c54b0 := eq_true (of_decide_eq_true (by first | (with_reducible assumption) | assumption) : x12_5 ≤ (l0_1.length : Int))); (obtain ⟨y324, hy324⟩ : ∃ y_ : List (S38), y_ = (l0_1.take (x12_5 : Int).toNat) := ⟨_, rfl⟩); (replace H : ((durable_Choices.f l0_0 y324 x9_3).bind fun bt328 => (if bt328.2 = 0 then (estoverslaw11_DurableOrdered.j6 k5 a1 x9_3 x12_5 bt328.1 ((bt328.1.length : Int) == 0) l0_0 l0_1) else (estoverslaw11_DurableOrdered.j6 k5 a1 x9_3 x12_5 bt328.1 true l0_0 l0_1))) = some r := by first | (rw [hy324]; with_reducible exact H) | (have H2_ := (Option.bind_some _ _).symm.trans H; rw [hy324]; with_reducible exact H2_) | (have H2_ := (Option.bind_some _ _).symm.trans H; with_reducible exact H2_) | with_reducible exact H | (rw [hy324]; exact H) | exact H); (have Ny324 := Aside0.mk hy324); (clear hy324); (replace H := Option.bind_eq_some_iff.mp H); (obtain ⟨⟨t328, t329⟩, A550, H⟩ := H); (replace H : (if t329 = 0 then (estoverslaw11_DurableOrdered.j6 k5 a1 x9_3 x12_5 t328 ((t328.length : Int) == 0) l0_0 l0_1) else (estoverslaw11_DurableOrdered.j6 k5 a1 x9_3 x12_5 t328 true l0_0 l0_1)) = some r := H); (have A55 := Aside0.mk A550); (clear A550); (have HC56 := Aside0.mk H); (clear H); (have hcz57_0 : wr.cell? ⟨gb309, 0, none⟩ = some (.slice A0_0 l0_0.length c0_0) := (blk_cell BK309.out 0).trans rfl); (have hcz57_1 : wr.cell? ⟨gb309, 1, none⟩ = some (.slice A0_1 l0_1.length c0_1) := (blk_cell BK309.out 1).trans rfl); (have hfz57_0 := blk_frozen BK309.out 0); (have hfz57_1 := blk_frozen BK309.out 1)
                      try go_wp2
                      (have n0_ := Aside0.mk (blk_drew BK309.out)); (have n1_ := Aside0.mk (below_drew1 HB.out)); (clear BK309); (clear HB); (have BK309 := n0_); (have HB := n1_); (clear n0_ n1_); (have q59 : (x12_5 : Int) ≤ ((l0_1.length : Int) : Int) := of_decide_eq_true (by first | (with_reducible assumption) | assumption)); (obtain ⟨i059, hi059, _, hsz59, _⟩ := info_parts info38); (have hroom59 : l0_1.length ≤ c0_1 := HC0_1.out); (have hC59 : Kd.C k38 _ A0_1 l0_1.length l0_1 := HR0_1.out); (have hcut59 := cut_to (P := Try.prog) 23 38 .i64 Try.underlying23 hi059 A0_1 l0_1.length c0_1 x12_5 (of_decide_eq_true (by first | (with_reducible assumption) | assumption)) q59 hroom59); (have hr59 := Kd.C_take (m := (x12_5 : Int).toNat) hC59 (by omega)); (have hy59 : y324.length = (x12_5 : Int).toNat := (by rw [Ny324.out, List.length_take]; omega)); (rw [← Ny324.out] at hr59); (rw [← hy59] at hcut59); (have HR327 := Aside0.mk hr59); (have HC327 := Aside0.mk (show y324.length ≤ c0_1 from by omega)); (clear hr59 hC59 hroom59 hi059 hsz59); (have KY59 := Aside0.mk hy59); (clear hy59); (replace q59 := eq_true q59)
                      refine start_ (n := 13) (S := fun w' => w'.cell? ⟨gb309, 0, none⟩ = some (.slice A0_0 l0_0.length c0_0) ∧ w'.cell? ⟨gb309, 1, none⟩ = some (.slice A0_1 l0_1.length c0_1)) (ds := []) #[false, false, false, false, false, false, false, false, false, false, false, false, false] (by kernel_rfl) rfl rfl ⟨(blk_cell BK309.out 0).trans rfl, (blk_cell BK309.out 1).trans rfl⟩ (fun hHeld => ?_); refine with_tabW estoverslaw11_DurableOrdered.tab19 estoverslaw11_DurableOrdered.bits19 (fun HT_ HW_ => ?_)
                      generalize wr.drew = w58 at BK309 HB HR327 hHeld ⊢
                      refine pure_ (i := 0) (N := some 109) (v := ?_) (a' := ?_) #[true, false, false, false, false, false, false, false, false, false, false, false, false] rfl rfl (any_of HT_.out (by kernel_rfl)) (fun _ _ _ h => h) (Or.inl ⟨by rfl, ?_⟩) ?_ ?_
                      rotate_left
                      · intro w'
                        go_simp
                        with_reducible rfl
                      rotate_left
                      · simp only [Act.put, List.setIfInBounds_toArray, List.set_cons_zero, List.set_cons_succ, i64_w, i32_w]
                        rfl
                      refine pure_ (i := 2) (N := some 111) (v := ?_) (a' := ?_) #[true, false, true, false, false, false, false, false, false, false, false, false, false] rfl rfl (any_of HT_.out (by kernel_rfl)) (fun _ _ _ h => h) (Or.inl ⟨by rfl, ?_⟩) ?_ ?_
                      rotate_left
                      · intro w'
                        go_simp
                        with_reducible rfl
                      rotate_left
                      · simp only [Act.put, List.setIfInBounds_toArray, List.set_cons_zero, List.set_cons_succ, i64_w, i32_w]
                        rfl
                      refine pure_ (i := 4) (N := some 113) (v := ?_) (a' := ?_) #[true, false, true, false, true, false, false, false, false, false, false, false, false] rfl rfl (any_of HT_.out (by kernel_rfl)) (fun _ _ _ h => h) (Or.inl ⟨by rfl, ?_⟩) ?_ ?_
                      rotate_left
                      · intro w'
                        go_simp
                        with_reducible rfl
                      rotate_left
                      · simp only [Act.put, List.setIfInBounds_toArray, List.set_cons_zero, List.set_cons_succ, i64_w, i32_w]
                        rfl
                      refine pure_ (i := 6) (N := some 115) (v := ?_) (a' := ?_) #[true, false, true, false, true, false, true, false, false, false, false, false, false] rfl rfl (any_of HT_.out (by kernel_rfl)) (fun _ _ _ h => h) (Or.inl ⟨by rfl, ?_⟩) ?_ ?_
                      rotate_left
                      · intro w'
                        go_simp
                        with_reducible rfl
                      rotate_left
                      · simp only [Act.put, List.setIfInBounds_toArray, List.set_cons_zero, List.set_cons_succ, i64_w, i32_w]
                        rfl
                      refine take_ (i := 1) (N := some 110) (v := ?_) (a' := ?_) #[true, true, true, false, true, false, true, false, false, false, false, false, false] rfl rfl (take_ofW HT_.out HW_.out (by kernel_rfl)) (fun _ _ _ h => h) (Or.inl ⟨by rfl, ?_⟩) hHeld ?_ ?_
                      rotate_left
                      · rintro w' ⟨s0, s1⟩
                        go_simp
                        with_reducible rfl
                      rotate_left
                      · simp only [Act.put, List.setIfInBounds_toArray, List.set_cons_zero, List.set_cons_succ, i64_w, i32_w]
                        rfl
                      refine take_ (i := 3) (N := some 112) (v := ?_) (a' := ?_) #[true, true, true, true, true, false, true, false, false, false, false, false, false] rfl rfl (take_ofW HT_.out HW_.out (by kernel_rfl)) (fun _ _ _ h => h) (Or.inl ⟨by rfl, ?_⟩) hHeld ?_ ?_
                      rotate_left
                      · rintro w' ⟨s0, s1⟩
                        go_simp
                        with_reducible rfl
                      rotate_left
                      · simp only [Act.put, List.setIfInBounds_toArray, List.set_cons_zero, List.set_cons_succ, i64_w, i32_w]
                        rfl
                      refine pure_ (i := 5) (N := some 114) (v := ?_) (a' := ?_) #[true, true, true, true, true, true, true, false, false, false, false, false, false] rfl rfl (any_of HT_.out (by kernel_rfl)) (fun _ _ _ h => h) (Or.inl ⟨by rfl, ?_⟩) ?_ ?_
                      rotate_left
                      · intro w'
                        go_simp
                        with_reducible rfl
                      rotate_left
                      · simp only [Act.put, List.setIfInBounds_toArray, List.set_cons_zero, List.set_cons_succ, i64_w, i32_w]
                        rfl
                      refine one_ (i := 7) (N := some 116) #[true, true, true, true, true, true, true, true, false, false, false, false, false] rfl rfl (one_of HT_.out (by kernel_rfl)) (by decide) (fun K hK => ?_)
                      refine goes_ Try.func21 (by kernel_rfl) rfl #[.slice A0_0 l0_0.length c0_0, .slice A0_1 y324.length c0_1, .int .i64 x9_3] (by rfl) rfl rfl (by (try simp only [List.map_toArray, List.map_cons, List.map_nil]); first | done | rfl | (simp only [List.length_drop, List.length_take]; rfl)) ?_
                      with_reducible refine (durable_Choices.calls _ _ l0_0 _ _ y324 x9_3 t328 t329 _ ?side1 ?side2 ?side3 ?side4 A55.out).mono ?_
                      (case side1 => repeat (first | exact (Kd.C_below HR0_0.out HB.out) | (with_reducible refine Kd.C_alloc ?_ _) | (with_reducible refine Kd.C_drewN ?_ _) | (with_reducible refine Kd.C_drew ?_)))
                      (case side2 => exact HC0_0.out)
                      (case side3 => repeat (first | exact (Kd.C_below HR327.out HB.out) | (with_reducible refine Kd.C_alloc ?_ _) | (with_reducible refine Kd.C_drewN ?_ _) | (with_reducible refine Kd.C_drew ?_)))
                      (case side4 => exact HC327.out)
                      rintro e w60 ⟨v330, rfl, ho0, hb⟩
                      refine ⟨_, rfl, ?_⟩
                      (have n0_ := Aside0.mk (Kd.S_lower ho0 (below_size (by repeat (first | (with_reducible first | exact HB.out | apply below_alloc | apply pw_below_drewN | apply below_drew1 | refine below_set ?_ GE309.out) | exact HB.out))))); (have n1_ := Aside0.mk (blk_below (g := gb309) (o := .cells #[.slice A0_0 l0_0.length c0_0, .slice A0_1 l0_1.length c0_1] 25 (0, 0)) (by (with_reducible repeat (first | refine blk_drewN ?_ _ | refine blk_drew ?_ | refine blk_alloc ?_ _)); exact BK309.out) hb)); (have n2_ := Aside0.mk (below_step (by repeat (first | (with_reducible first | exact HB.out | apply below_alloc | apply pw_below_drewN | apply below_drew1 | refine below_set ?_ GE309.out) | exact HB.out)) hb)); (clear BK309); (clear HB); (have HO331 := n0_); (have BK309 := n1_); (have HB := n2_); (clear n0_ n1_ n2_)
                      (try clear hb)
                      (try clear hb2)
                      (try clear hk)
                      (try clear hi)
                      (try clear ho0)
                      refine hK.out _ _ ⟨(blk_cell BK309.out 0).trans rfl, (blk_cell BK309.out 1).trans rfl⟩ (fun hHeld => ?_)
                      clear hK K
                      refine norm_ (a' := ?_) ?_ ?_
                      rotate_left
                      · show Act.put _ (some 116) _ = _
                        simp only [Act.put, List.setIfInBounds_toArray, List.set_cons_zero, List.set_cons_succ, i64_w, i32_w]
                        rfl
                      refine pure_ (i := 8) (N := some 108) (v := ?_) (a' := ?_) #[true, true, true, true, true, true, true, true, true, false, false, false, false] rfl rfl (any_of HT_.out (by kernel_rfl)) (fun _ _ _ h => h) (Or.inl ⟨by rfl, ?_⟩) ?_ ?_
                      rotate_left
                      · intro w'
                        go_simp
                        with_reducible rfl
                      rotate_left
                      · simp only [Act.put, List.setIfInBounds_toArray, List.set_cons_zero, List.set_cons_succ, i64_w, i32_w]
                        rfl
                      refine pure_ (i := 9) (N := some 117) (v := ?_) (a' := ?_) #[true, true, true, true, true, true, true, true, true, true, false, false, false] rfl rfl (any_of HT_.out (by kernel_rfl)) (fun _ _ _ h => h) (Or.inl ⟨by rfl, ?_⟩) ?_ ?_
                      rotate_left
                      · intro w'
                        go_simp
                        with_reducible rfl
                      rotate_left
                      · simp only [Act.put, List.setIfInBounds_toArray, List.set_cons_zero, List.set_cons_succ, i64_w, i32_w]
                        rfl
                      refine pure_ (i := 10) (N := some 118) (v := ?_) (a' := ?_) #[true, true, true, true, true, true, true, true, true, true, true, false, false] rfl rfl (any_of HT_.out (by kernel_rfl)) (fun _ _ _ h => h) (Or.inl ⟨by rfl, ?_⟩) ?_ ?_
                      rotate_left
                      · intro w'
                        go_simp
                        with_reducible rfl
                      rotate_left
                      · simp only [Act.put, List.setIfInBounds_toArray, List.set_cons_zero, List.set_cons_succ, i64_w, i32_w]
                        rfl
                      refine pure_ (i := 11) (N := some 13) (v := ?_) (a' := ?_) #[true, true, true, true, true, true, true, true, true, true, true, true, false] rfl rfl (any_of HT_.out (by kernel_rfl)) (fun _ _ _ h => h) (Or.inl ⟨by rfl, ?_⟩) ?_ ?_
                      rotate_left
                      · intro w'
                        go_simp
                        with_reducible rfl
                      rotate_left
                      · simp only [Act.put, List.setIfInBounds_toArray, List.set_cons_zero, List.set_cons_succ, i64_w, i32_w]
                        rfl
                      refine pure_ (i := 12) (N := some 14) (v := ?_) (a' := ?_) #[true, true, true, true, true, true, true, true, true, true, true, true, true] rfl rfl (any_of HT_.out (by kernel_rfl)) (fun _ _ _ h => h) (Or.inl ⟨by rfl, ?_⟩) ?_ ?_
                      rotate_left
                      · intro w'
                        go_simp
                        with_reducible rfl
                      rotate_left
                      · simp only [Act.put, List.setIfInBounds_toArray, List.set_cons_zero, List.set_cons_succ, i64_w, i32_w]
                        rfl
                      refine done_ (done_of HT_.out (by kernel_rfl)) ?_
                      go_upto_region 20 with (fail)
                      go_cut [125] (fun v125 wc => ∃ (kq : Nat) (x125_55 : Bool), v125 = .bool x125_55 ∧ Aside0 (estoverslaw11_DurableOrdered.j6 kq a1 x9_3 x12_5 t328 x125_55 l0_0 l0_1 = some r) ∧ Aside0 (kq ≤ k5) ∧ Aside0 (Kd.S (Kd.slice 5 (Kd.int .u8)) 36 wc w.heap.size (fun _ => True) v330 t328) ∧ Aside0 (wc.heap[gb309]? = some (.cells #[(.slice A0_0 l0_0.length c0_0), (.slice A0_1 l0_1.length c0_1)] 25 (0, 0))) ∧ Aside0 (Below w.heap.size w wc))
                      case first =>
                        (have H := HC56.out); (clear HC56)
                        by_cases c61 : t329 = 0
                        rotate_left
                        · rw [if_neg c61] at H
                          (have c61b0 : (t329 == 0) = false := beq_eq_false_iff_ne.mpr c61); (have c61b1 : (t329 != 0) = true := bne_iff_ne.mpr c61)
                          (first | rw [c61b0] | (simp only [i64_w, i32_w]; rw [c61b0]) | skip)
                          (have H' := Aside0.mk H); (clear H)
                          go_wp2
                          go_meet
                          case rel => exact ⟨_, (true), (by first | rfl | (simp; done) | (simp [*]; done)), H', ⟨by have := HJ3.out; have := HJ18.out; have := HK3.out; have := HJ47.out; have := HK5.out; first | omega | exact Nat.le_refl _⟩, ⟨by (with_reducible repeat (first | apply Kd.S_alloc | apply Kd.S_drewN | apply Kd.S_drew)); exact HO331.out⟩, ⟨by (with_reducible repeat (first | refine blk_drewN ?_ _ | refine blk_drew ?_ | refine blk_alloc ?_ _)); exact BK309.out⟩, ⟨by repeat (first | (with_reducible first | exact HB.out | apply below_alloc | apply pw_below_drewN | apply below_drew1 | refine below_set ?_ GE309.out) | exact HB.out)⟩⟩
                        (rw [if_pos c61] at H); (have c61b0 : (t329 == 0) = true := beq_iff_eq.mpr c61); (have c61b1 : (t329 != 0) = false := bne_eq_false_iff_eq.mpr c61); (clear c61)
                        (first | rw [c61b0] | (simp only [i64_w, i32_w]; rw [c61b0]) | skip)
                        (have H' := Aside0.mk H); (clear H); (obtain ⟨Ao62, co62, eo62⟩ := Kd.S_slice HO331.out); (subst eo62)
                        go_wp2
                        go_meet
                        case rel => exact ⟨_, (((t328.length : Int) == 0)), (by first | rfl | (simp; done) | (simp [*]; done)), H', ⟨by have := HJ3.out; have := HJ18.out; have := HK3.out; have := HJ47.out; have := HK5.out; first | omega | exact Nat.le_refl _⟩, ⟨by (with_reducible repeat (first | apply Kd.S_alloc | apply Kd.S_drewN | apply Kd.S_drew)); exact HO331.out⟩, ⟨by (with_reducible repeat (first | refine blk_drewN ?_ _ | refine blk_drew ?_ | refine blk_alloc ?_ _)); exact BK309.out⟩, ⟨by repeat (first | (with_reducible first | exact HB.out | apply below_alloc | apply pw_below_drewN | apply below_drew1 | refine below_set ?_ GE309.out) | exact HB.out)⟩⟩
                      case rest =>
                        (clear HC56); (try clear c1); (try clear c2); (try clear p2); (try clear c3); (try clear p3); (try clear q3); (try clear hx3); (try clear c4); (try clear c5); (try clear q5); (try clear c6); (try clear p6); (try clear c7); (try clear c12); (try clear c13); (try clear c15); (try clear c19); (try clear c21); (try clear c22); (try clear c23); (try clear c26); (try clear c26b0); (try clear c29); (try clear c29b0); (try clear c30); (try clear c30b0); (try clear c30b1); (try clear c31); (try clear p31); (try clear q31); (try clear hx31); (try clear c32); (try clear p32); (try clear q32); (try clear hx32); (try clear c33); (try clear c34); (try clear c34b0); (try clear c35); (try clear c35b0); (try clear c36); (try clear c36b0); (try clear c36b1); (try clear c37); (try clear c37b0); (try clear c37b1); (try clear c41); (try clear c41b0); (try clear c42); (try clear c42b0); (try clear c43); (try clear c43b0); (try clear c43b1); (try clear c44); (try clear c44b0); (try clear c44b1); (try clear c50); (try clear c50b0); (try clear c51); (try clear c52); (try clear c52b0); (try clear c53); (try clear c53b0); (try clear c53b1); (try clear c54); (try clear c54b0); (try clear q59); (try clear c61); (try clear c61b0); (try clear c61b1); (try clear hcz11_0); (try clear hcz11_1); (try clear hcz13_0); (try clear hcz13_1); (try clear hcz20_0); (try clear hcz20_1); (try clear hcz28_0); (try clear hcz28_1); (try clear hcz31_0); (try clear hcz31_1); (try clear hcz32_0); (try clear hcz32_1); (try clear hcz38_0); (try clear hcz38_1); (try clear hcz39_0); (try clear hcz39_1); (try clear hcz40_0); (try clear hcz40_1); (try clear hcz45_0); (try clear hcz45_1); (try clear hcz46_0); (try clear hcz46_1); (try clear hcz47_0); (try clear hcz47_1); (try clear hcz49_0); (try clear hcz49_1); (try clear hcz57_0); (try clear hcz57_1); (try clear hcz9_0); (try clear hcz9_1); (try clear hfz11_0); (try clear hfz11_1); (try clear hfz13_0); (try clear hfz13_1); (try clear hfz20_0); (try clear hfz20_1); (try clear hfz28_0); (try clear hfz28_1); (try clear hfz31_0); (try clear hfz31_1); (try clear hfz32_0); (try clear hfz32_1); (try clear hfz38_0); (try clear hfz38_1); (try clear hfz39_0); (try clear hfz39_1); (try clear hfz40_0); (try clear hfz40_1); (try clear hfz45_0); (try clear hfz45_1); (try clear hfz46_0); (try clear hfz46_1); (try clear hfz47_0); (try clear hfz47_1); (try clear hfz49_0); (try clear hfz49_1); (try clear hfz57_0); (try clear hfz57_1); (try clear hfz9_0); (try clear hfz9_1); (try clear hx316_0); (try clear hx316_1); (try clear hx316_2); (try clear hx316_3); (try clear hx317_0); (try clear hx317_1); (try clear hx317_2); (try clear hx317_3); (try clear hx318_0); (try clear hx318_1); (try clear hx318_2); (try clear hx318_3); (try clear hx319_0); (try clear hx319_1); (try clear hx319_2); (try clear hx319_3); (try clear hx320_0); (try clear hx320_1); (try clear hx320_2); (try clear hx320_3); (try clear hx321_0); (try clear hx321_1); (try clear hx321_2); (try clear hx321_3); (try clear hx322_0); (try clear hx322_1); (try clear hx322_2); (try clear hx322_3); (try clear p2); (try clear p3); (try clear p31); (try clear p316); (try clear p317); (try clear p318); (try clear p319); (try clear p32); (try clear p320); (try clear p321); (try clear p322); (try clear p6); (try clear q3); (try clear q31); (try clear q316); (try clear q317); (try clear q318); (try clear q319); (try clear q32); (try clear q320); (try clear q321); (try clear q322); (try clear q59); (obtain ⟨kq, x125_55, rfl, HA, HJ55, HO_13, BK309, HB⟩ := hcut)
                        cases kq with
                        | zero => exact absurd HA.out (by simp [estoverslaw11_DurableOrdered.j6])
                        | succ kj55 =>
                          (have H := HA.out); (clear HA); (simp only [estoverslaw11_DurableOrdered.j6] at H)
                          by_cases c63 : x125_55 = true
                          · rw [if_pos c63] at H
                            exact absurd ((Option.some.inj H).trans HRT.out) (by decide)
                          (replace c63 := Bool.eq_false_iff.mpr c63); (subst c63); (have H1 : (estoverslaw11_DurableOrdered.l2 kj55 a1 x9_3 x12_5 t328 0 l0_0 l0_1) = some r := by rw [if_neg (show ¬ (false = true) by decide)] at H; exact H); (clear H); (have H := H1); (clear H1); (have H' := Aside0.mk H); (clear H)
                          go_wp2
                          go_loopg [15] kj55 (fun kq v15 w' => ∃ (x15_7 : Int), v15 = .int .i64 x15_7 ∧ Aside0 (estoverslaw11_DurableOrdered.l2 kq a1 x9_3 x12_5 t328 x15_7 l0_0 l0_1 = some r) ∧ Aside0 (kq ≤ kj55) ∧ Aside0 (Kd.S (Kd.slice 5 (Kd.int .u8)) 36 w' w.heap.size (fun _ => True) v330 t328) ∧ Aside0 (w'.heap[gb309]? = some (.cells #[(.slice A0_0 l0_0.length c0_0), (.slice A0_1 l0_1.length c0_1)] 25 (0, 0))) ∧ Aside0 (Below w.heap.size w w'))
                          case atStart => exact ⟨(0), (by first | rfl | (simp; done) | (simp [*]; done)), H', ⟨Nat.le_refl _⟩, ⟨by (with_reducible repeat (first | apply Kd.S_alloc | apply Kd.S_drewN | apply Kd.S_drew)); exact HO_13.out⟩, ⟨by (with_reducible repeat (first | refine blk_drewN ?_ _ | refine blk_drew ?_ | refine blk_alloc ?_ _)); exact BK309.out⟩, ⟨by repeat (first | (with_reducible first | exact HB.out | apply below_alloc | apply pw_below_drewN | apply below_drew1 | refine below_set ?_ GE309.out) | exact HB.out)⟩⟩
                          case round =>
                            (clear H'); (try clear c1); (try clear c2); (try clear p2); (try clear c3); (try clear p3); (try clear q3); (try clear hx3); (try clear c4); (try clear c5); (try clear q5); (try clear c6); (try clear p6); (try clear c7); (try clear c12); (try clear c13); (try clear c15); (try clear c19); (try clear c21); (try clear c22); (try clear c23); (try clear c26); (try clear c26b0); (try clear c29); (try clear c29b0); (try clear c30); (try clear c30b0); (try clear c30b1); (try clear c31); (try clear p31); (try clear q31); (try clear hx31); (try clear c32); (try clear p32); (try clear q32); (try clear hx32); (try clear c33); (try clear c34); (try clear c34b0); (try clear c35); (try clear c35b0); (try clear c36); (try clear c36b0); (try clear c36b1); (try clear c37); (try clear c37b0); (try clear c37b1); (try clear c41); (try clear c41b0); (try clear c42); (try clear c42b0); (try clear c43); (try clear c43b0); (try clear c43b1); (try clear c44); (try clear c44b0); (try clear c44b1); (try clear c50); (try clear c50b0); (try clear c51); (try clear c52); (try clear c52b0); (try clear c53); (try clear c53b0); (try clear c53b1); (try clear c54); (try clear c54b0); (try clear q59); (try clear c61); (try clear c61b0); (try clear c61b1); (try clear c63); (try clear hcz11_0); (try clear hcz11_1); (try clear hcz13_0); (try clear hcz13_1); (try clear hcz20_0); (try clear hcz20_1); (try clear hcz28_0); (try clear hcz28_1); (try clear hcz31_0); (try clear hcz31_1); (try clear hcz32_0); (try clear hcz32_1); (try clear hcz38_0); (try clear hcz38_1); (try clear hcz39_0); (try clear hcz39_1); (try clear hcz40_0); (try clear hcz40_1); (try clear hcz45_0); (try clear hcz45_1); (try clear hcz46_0); (try clear hcz46_1); (try clear hcz47_0); (try clear hcz47_1); (try clear hcz49_0); (try clear hcz49_1); (try clear hcz57_0); (try clear hcz57_1); (try clear hcz9_0); (try clear hcz9_1); (try clear hfz11_0); (try clear hfz11_1); (try clear hfz13_0); (try clear hfz13_1); (try clear hfz20_0); (try clear hfz20_1); (try clear hfz28_0); (try clear hfz28_1); (try clear hfz31_0); (try clear hfz31_1); (try clear hfz32_0); (try clear hfz32_1); (try clear hfz38_0); (try clear hfz38_1); (try clear hfz39_0); (try clear hfz39_1); (try clear hfz40_0); (try clear hfz40_1); (try clear hfz45_0); (try clear hfz45_1); (try clear hfz46_0); (try clear hfz46_1); (try clear hfz47_0); (try clear hfz47_1); (try clear hfz49_0); (try clear hfz49_1); (try clear hfz57_0); (try clear hfz57_1); (try clear hfz9_0); (try clear hfz9_1); (try clear hx316_0); (try clear hx316_1); (try clear hx316_2); (try clear hx316_3); (try clear hx317_0); (try clear hx317_1); (try clear hx317_2); (try clear hx317_3); (try clear hx318_0); (try clear hx318_1); (try clear hx318_2); (try clear hx318_3); (try clear hx319_0); (try clear hx319_1); (try clear hx319_2); (try clear hx319_3); (try clear hx320_0); (try clear hx320_1); (try clear hx320_2); (try clear hx320_3); (try clear hx321_0); (try clear hx321_1); (try clear hx321_2); (try clear hx321_3); (try clear hx322_0); (try clear hx322_1); (try clear hx322_2); (try clear hx322_3); (try clear p2); (try clear p3); (try clear p31); (try clear p316); (try clear p317); (try clear p318); (try clear p319); (try clear p32); (try clear p320); (try clear p321); (try clear p322); (try clear p6); (try clear q3); (try clear q31); (try clear q316); (try clear q317); (try clear q318); (try clear q319); (try clear q32); (try clear q320); (try clear q321); (try clear q322); (try clear q5); (try clear q59); (obtain ⟨x15_7, rfl, HA, HK7, HO_13, BK309, HB⟩ := hrel)
                            cases gk with
                            | zero => exact absurd HA.out (by simp [estoverslaw11_DurableOrdered.l2])
                            | succ k7 =>
                              (have H := HA.out); (clear HA); (simp only [estoverslaw11_DurableOrdered.l2] at H)
                              by_cases c64 : x15_7 < (t328.length : Int)
                              rotate_left
                              · rw [if_neg c64] at H
                                (have c64b0 : decide (x15_7 < (t328.length : Int)) = false := decide_eq_false c64); (clear c64); (have H' := Aside0.mk H); (clear H); (obtain ⟨Ao74, co74, eo74⟩ := Kd.S_slice HO_13.out); (subst eo74)
                                go_wp2
                                go_roundg k7
                                case measure => have := HJ3.out; have := HJ18.out; have := HK3.out; have := HJ47.out; have := HK5.out; have := HJ55.out; have := HK7.out; omega
                                case rel => exact ⟨(wrap64 (x12_5 + 1)), (by first | rfl | (simp; done) | (simp [*]; done)), H', ⟨by have := HJ3.out; have := HJ18.out; have := HK3.out; have := HJ47.out; have := HK5.out; have := HJ55.out; have := HK7.out; omega⟩, ⟨by (with_reducible repeat (first | refine blk_drewN ?_ _ | refine blk_drew ?_ | refine blk_alloc ?_ _)); exact BK309.out⟩, ⟨by repeat (first | (with_reducible first | exact HB.out | apply below_alloc | apply pw_below_drewN | apply below_drew1 | refine below_set ?_ GE309.out) | exact HB.out)⟩⟩
                              (rw [if_pos c64] at H); (have c64b0 : decide (x15_7 < (t328.length : Int)) = true := decide_eq_true c64); (clear c64)
                              by_cases c65 : 0 ≤ x15_7
                              rotate_left
                              · rw [if_neg c65] at H
                                exact absurd H (by simp)
                              (rw [if_pos c65] at H); (have c65b0 : decide (0 ≤ x15_7) = true := decide_eq_true c65); (clear c65); (replace H := Option.bind_eq_some_iff.mp H); (obtain ⟨t333, A660, H⟩ := H); (replace H : (if t333 = true then (estoverslaw11_DurableOrdered.l2 k7 a1 x9_3 x12_5 t328 (wrap64 (x15_7 + 1)) l0_0 l0_1) else (some false)) = some r := H); (have A66 := Aside0.mk A660); (clear A660)
                              by_cases c67 : t333 = true
                              rotate_left
                              · rw [if_neg c67] at H
                                exact absurd ((Option.some.inj H).trans HRT.out) (by decide)
                              (subst c67); (have H1 : (estoverslaw11_DurableOrdered.l2 k7 a1 x9_3 x12_5 t328 (wrap64 (x15_7 + 1)) l0_0 l0_1) = some r := by rw [if_pos rfl] at H; exact H); (clear H); (have H := H1); (clear H1); (have H' := Aside0.mk H); (clear H); (obtain ⟨Ao68, co68, eo68⟩ := Kd.S_slice HO_13.out); (subst eo68)
                              try go_wp2
                              (have n0_ := Aside0.mk (Kd.S_drew HO_13.out)); (have n1_ := Aside0.mk (blk_drew BK309.out)); (have n2_ := Aside0.mk (below_drew1 HB.out)); (clear HO_13); (clear BK309); (clear HB); (have HO_13 := n0_); (have BK309 := n1_); (have HB := n2_); (clear n0_ n1_ n2_); (have p332 : 0 ≤ (x15_7 : Int) := of_decide_eq_true (by first | (with_reducible assumption) | assumption)); (have q332 : x15_7 < (t328.length : Int) := of_decide_eq_true (by first | (with_reducible assumption) | assumption)); (obtain ⟨ad332, A332_0, c332_0, e332, hx332_0, hl332_0, hi332_0⟩ := at_L1 (Kd.S_reads' HO_13.out).2.2 x15_7 p332 q332)
                              cases e332
                              (obtain ⟨ce332, hce332, hMe332, hcc332⟩ := Kd.S_get HO_13.out [] x15_7 p332 (by first | exact q332 | exact of_decide_eq_true (by first | (with_reducible assumption) | assumption) | (have e_ := (Kd.S_reads' HO_13.out).1; omega))); (obtain ⟨ve332_0, rfl, ge332_0⟩ := hMe332); (have hv332_0 := hcc332 0 _ rfl); (rw [Nat.add_zero, show ((Kd.slice 5 (Kd.int .u8))).sz = 1 from rfl, Nat.mul_one] at hv332_0); (replace hv332_0 := Option.some.inj (hv332_0.symm.trans hx332_0)); (rw [hv332_0] at ge332_0); (have HL332_0 := Aside0.mk (show Kd.R (Kd.int .u8) 5 _ _ _ _ (rd_L1 t328 x15_7) from ge332_0)); (clear hv332_0 ge332_0); (clear hcc332 hce332); (have HR332_0 := Aside0.mk hi332_0); (have HC332_0 := Aside0.mk hl332_0); (clear hi332_0 hl332_0); (replace p332 := eq_true p332); (replace q332 := eq_true q332)
                              refine start_ (n := 9) (S := fun w' => w'.cell? ⟨gb309, 0, none⟩ = some (.slice A0_0 l0_0.length c0_0) ∧ w'.cell? ⟨gb309, 1, none⟩ = some (.slice A0_1 l0_1.length c0_1) ∧ w'.cell? (ad332.add (x15_7).toNat) = some (.slice A332_0 (rd_L1 t328 x15_7).length c332_0)) (ds := []) #[false, false, false, false, false, false, false, false, false] (by kernel_rfl) rfl rfl ⟨(blk_cell BK309.out 0).trans rfl, (blk_cell BK309.out 1).trans rfl, hx332_0⟩ (fun hHeld => ?_); refine with_tabW estoverslaw11_DurableOrdered.tab25 estoverslaw11_DurableOrdered.bits25 (fun HT_ HW_ => ?_)
                              generalize wr.drew = w69 at HO_13 BK309 HB HL332_0 HR332_0 hx332_0 hHeld ⊢
                              refine pure_ (i := 0) (N := some 132) (v := ?_) (a' := ?_) #[true, false, false, false, false, false, false, false, false] rfl rfl (any_of HT_.out (by kernel_rfl)) (fun _ _ _ h => h) (Or.inl ⟨by rfl, ?_⟩) ?_ ?_
                              rotate_left
                              · intro w'
                                go_simp
                                with_reducible rfl
                              rotate_left
                              · simp only [Act.put, List.setIfInBounds_toArray, List.set_cons_zero, List.set_cons_succ, i64_w, i32_w]
                                rfl
                              refine pure_ (i := 2) (N := some 134) (v := ?_) (a' := ?_) #[true, false, true, false, false, false, false, false, false] rfl rfl (any_of HT_.out (by kernel_rfl)) (fun _ _ _ h => h) (Or.inl ⟨by rfl, ?_⟩) ?_ ?_
                              rotate_left
                              · intro w'
                                go_simp
                                with_reducible rfl
                              rotate_left
                              · simp only [Act.put, List.setIfInBounds_toArray, List.set_cons_zero, List.set_cons_succ, i64_w, i32_w]
                                rfl
                              refine pure_ (i := 3) (N := some 135) (v := ?_) (a' := ?_) #[true, false, true, true, false, false, false, false, false] rfl rfl (any_of HT_.out (by kernel_rfl)) (fun _ _ _ h => h) (Or.inl ⟨by rfl, ?_⟩) ?_ ?_
                              rotate_left
                              · intro w'
                                go_simp
                                with_reducible rfl
                              rotate_left
                              · simp only [Act.put, List.setIfInBounds_toArray, List.set_cons_zero, List.set_cons_succ, i64_w, i32_w]
                                rfl
                              refine pure_ (i := 4) (N := some 136) (v := ?_) (a' := ?_) #[true, false, true, true, true, false, false, false, false] rfl rfl (any_of HT_.out (by kernel_rfl)) (fun _ _ _ h => h) (Or.inl ⟨by rfl, ?_⟩) ?_ ?_
                              rotate_left
                              · intro w'
                                go_simp
                                with_reducible rfl
                              rotate_left
                              · simp only [Act.put, List.setIfInBounds_toArray, List.set_cons_zero, List.set_cons_succ, i64_w, i32_w]
                                rfl
                              refine pure_ (i := 5) (N := some 137) (v := ?_) (a' := ?_) #[true, false, true, true, true, true, false, false, false] rfl rfl (any_of HT_.out (by kernel_rfl)) (fun _ _ _ h => h) (Or.inl ⟨by rfl, ?_⟩) ?_ ?_
                              rotate_left
                              · intro w'
                                go_simp
                                with_reducible rfl
                              rotate_left
                              · simp only [Act.put, List.setIfInBounds_toArray, List.set_cons_zero, List.set_cons_succ, i64_w, i32_w]
                                rfl
                              refine take_ (i := 1) (N := some 133) (v := ?_) (a' := ?_) #[true, true, true, true, true, true, false, false, false] rfl rfl (take_ofW HT_.out HW_.out (by kernel_rfl)) (fun _ _ _ h => h) (Or.inl ⟨by rfl, ?_⟩) hHeld ?_ ?_
                              rotate_left
                              · rintro w' ⟨s0, s1, s2⟩
                                go_simp
                                with_reducible rfl
                              rotate_left
                              · simp only [Act.put, List.setIfInBounds_toArray, List.set_cons_zero, List.set_cons_succ, i64_w, i32_w]
                                rfl
                              refine take_ (i := 6) (N := some 138) (v := ?_) (a' := ?_) #[true, true, true, true, true, true, true, false, false] rfl rfl (take_ofW HT_.out HW_.out (by kernel_rfl)) (fun _ _ _ h => h) (Or.inl ⟨by rfl, ?_⟩) hHeld ?_ ?_
                              rotate_left
                              · rintro w' ⟨s0, s1, s2⟩
                                go_simp
                                with_reducible rfl
                              rotate_left
                              · simp only [Act.put, List.setIfInBounds_toArray, List.set_cons_zero, List.set_cons_succ, i64_w, i32_w]
                                rfl
                              refine one_ (i := 7) (N := some 139) #[true, true, true, true, true, true, true, true, false] rfl rfl (one_of HT_.out (by kernel_rfl)) (by decide) (fun K hK => ?_)
                              refine goes_ Try.func22 (by kernel_rfl) rfl #[.slice A0_1 l0_1.length c0_1, .int .i64 a1, .slice A332_0 (rd_L1 t328 x15_7).length c332_0] (by rfl) rfl rfl (by (try simp only [List.map_toArray, List.map_cons, List.map_nil]); first | done | rfl | (simp only [List.length_drop, List.length_take]; rfl)) ?_
                              with_reducible refine (estoverslaw11_settled.calls k7 (fun k_ => k_ < w.heap.size) _ _ l0_1 a1 _ _ (rd_L1 t328 x15_7) true _ ?side1 ?side2 ?side3 A66.out).mono ?_
                              (case side1 => exact Kd.V_mk HC0_1.out (Kd.F_below (Kd.C_F k38_heap HR0_1.out) (by repeat (first | (with_reducible first | exact HB.out | apply below_alloc | apply pw_below_drewN | apply below_drew1 | refine below_set ?_ GE309.out) | exact HB.out))))
                              (case side2 => repeat (first | exact (by repeat (first | (with_reducible exact HR332_0.out) | (with_reducible refine Kd.C_alloc ?_ _) | (with_reducible refine Kd.C_drewN ?_ _) | (with_reducible refine Kd.C_drew ?_) | exact HR332_0.out)) | (with_reducible refine Kd.C_alloc ?_ _) | (with_reducible refine Kd.C_drewN ?_ _) | (with_reducible refine Kd.C_drew ?_)))
                              (case side3 => exact HC332_0.out)
                              rintro e w70 ⟨rfl, hb⟩
                              have HS2_ := (hb.cell (World.block_lt_of_cell? _ _ (hHeld.2.2))).trans (hHeld.2.2)
                              refine ⟨_, rfl, ?_⟩
                              (have n0_ := Aside0.mk (Kd.S_below (by (with_reducible repeat (first | apply Kd.S_alloc | apply Kd.S_drewN | apply Kd.S_drew)); exact HO_13.out) hb)); (have n1_ := Aside0.mk (Kd.R_below (by (with_reducible repeat (first | apply Kd.R_alloc | apply Kd.R_drewN | apply Kd.R_drew)); exact HL332_0.out) hb)); (have n2_ := Aside0.mk (blk_below (g := gb309) (o := .cells #[.slice A0_0 l0_0.length c0_0, .slice A0_1 l0_1.length c0_1] 25 (0, 0)) (by (with_reducible repeat (first | refine blk_drewN ?_ _ | refine blk_drew ?_ | refine blk_alloc ?_ _)); exact BK309.out) hb)); (have n3_ := Aside0.mk (Kd.C_below (by repeat (first | (with_reducible exact HR332_0.out) | (with_reducible refine Kd.C_alloc ?_ _) | (with_reducible refine Kd.C_drewN ?_ _) | (with_reducible refine Kd.C_drew ?_) | exact HR332_0.out)) hb)); (have n4_ := Aside0.mk (below_step (by repeat (first | (with_reducible first | exact HB.out | apply below_alloc | apply pw_below_drewN | apply below_drew1 | refine below_set ?_ GE309.out) | exact HB.out)) hb)); (clear HO_13); (clear HL332_0); (clear BK309); (clear HR332_0); (clear HB); (have HO_13 := n0_); (have HL332_0 := n1_); (have BK309 := n2_); (have HR332_0 := n3_); (have HB := n4_); (clear n0_ n1_ n2_ n3_ n4_)
                              (try clear hb)
                              (try clear hb2)
                              (try clear hk)
                              (try clear hi)
                              refine hK.out _ _ ⟨(blk_cell BK309.out 0).trans rfl, (blk_cell BK309.out 1).trans rfl, HS2_⟩ (fun hHeld => ?_)
                              clear hK K
                              refine norm_ (a' := ?_) ?_ ?_
                              rotate_left
                              · show Act.put _ (some 139) _ = _
                                simp only [Act.put, List.setIfInBounds_toArray, List.set_cons_zero, List.set_cons_succ, i64_w, i32_w]
                                rfl
                              refine pure_ (i := 8) (N := some 140) (v := ?_) (a' := ?_) #[true, true, true, true, true, true, true, true, true] rfl rfl (any_of HT_.out (by kernel_rfl)) (fun _ _ _ h => h) (Or.inl ⟨by rfl, ?_⟩) ?_ ?_
                              rotate_left
                              · intro w'
                                go_simp
                                with_reducible rfl
                              rotate_left
                              · simp only [Act.put, List.setIfInBounds_toArray, List.set_cons_zero, List.set_cons_succ, i64_w, i32_w]
                                rfl
                              refine done_ (done_of HT_.out (by kernel_rfl)) ?_
                              try go_wp2
                              go_roundg k7
                              case measure => have := HJ3.out; have := HJ18.out; have := HK3.out; have := HJ47.out; have := HK5.out; have := HJ55.out; have := HK7.out; omega
                              case rel => exact ⟨(wrap64 (x15_7 + 1)), (by first | rfl | (simp; done) | (simp [*]; done)), H', ⟨by have := HJ3.out; have := HJ18.out; have := HK3.out; have := HJ47.out; have := HK5.out; have := HJ55.out; have := HK7.out; omega⟩, ⟨by (with_reducible repeat (first | apply Kd.S_alloc | apply Kd.S_drewN | apply Kd.S_drew)); exact HO_13.out⟩, ⟨by (with_reducible repeat (first | refine blk_drewN ?_ _ | refine blk_drew ?_ | refine blk_alloc ?_ _)); exact BK309.out⟩, ⟨by repeat (first | (with_reducible first | exact HB.out | apply below_alloc | apply pw_below_drewN | apply below_drew1 | refine below_set ?_ GE309.out) | exact HB.out)⟩⟩
end Go.Proofs.Ytghmkmpgfpkfmaa.X
