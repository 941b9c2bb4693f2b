-- Written for this claim by a program of this session (wip/px.py) with the kit's print; the contracts of GIVEN functions are proved by hand.
import Derived.Test.YtjaondnglmimaaaX0
import Derived.Test.YtjaondnglmimaaaX2
import Derived.Test.YtjaondnglmimaaaX3
import Derived.Test.YtjaondnglmimaaaGiven
namespace Go.Proofs.Ytjaondnglmimaaa.X
open Go.RowKit Go.Proofs.YtjaondnglmimaaaW.PrintWords Go.Proofs.YtjaondnglmimaaaW.PrintLast Go.Proofs.YtjaondnglmimaaaW.PrintMore
attribute [local go_sem] max2_int min2_int max_two min_two max_three min_three max_four min_four   -- for this text's walks alone
set_option linter.unusedVariables false
set_option linter.unusedSimpArgs false

/-! ### estoverslaw32_SlotsReferences: function 4 -/
mutual
def estoverslaw32_SlotsReferences.j0 : Nat → Int → List (S34) → Bool → Option (Bool)
  | 0, _, _, _ => none
  | k + 1, x0, x1, x35 => if x35 = true then ((estoverslaw32_awake.f k).bind fun t189 => (some t189)) else ((slots_New.f (Int.tmod (wrap64 (x0)) 9)).bind fun bt190 => (if bt190.2 = 0 then (if 0 ≤ (bt190.1.length : Int) then (if ((bt190.1.length : Int) : Int).toNat ≤ 35184372088832 then (if ((bt190.1.length : Int) : Int).toNat ≤ 281474976710656 then (estoverslaw32_SlotsReferences.l0 k bt190.1 (List.replicate ((bt190.1.length : Int) : Int).toNat 0) (List.replicate ((bt190.1.length : Int) : Int).toNat false) x1 (x1.length : Int) 0) else (none)) else (none)) else (none)) else (some false)))
def estoverslaw32_SlotsReferences.l0 : Nat → List (S41) → List Int → List Bool → List (S34) → Int → Int → Option (Bool)
  | 0, _, _, _, _, _, _ => none
  | k + 1, x5, x7, x8, x52, x53, x54 => if x54 < x53 then (if 0 ≤ x54 then (if x54 < (x52.length : Int) then (if ((rd_T34 x52 x54).f1) ≥ 0 then (if ((rd_T34 x52 x54).f1) < (x7.length : Int) then (if 0 ≤ ((rd_T34 x52 x54).f1) then (if ((rd_T34 x52 x54).f1) < (x8.length : Int) then (estoverslaw32_SlotsReferences.j2 k x5 x7 x8 ((rd_T34 x52 x54).f1) (rdOf false x8 ((rd_T34 x52 x54).f1)) x52 x53 x54 ((rd_T34 x52 x54).f0) ((rd_T34 x52 x54).f1) ((rd_T34 x52 x54).f2)) else (none)) else (none)) else (estoverslaw32_SlotsReferences.j2 k x5 x7 x8 ((rd_T34 x52 x54).f1) false x52 x53 x54 ((rd_T34 x52 x54).f0) ((rd_T34 x52 x54).f1) ((rd_T34 x52 x54).f2))) else (estoverslaw32_SlotsReferences.j2 k x5 x7 x8 ((rd_T34 x52 x54).f1) false x52 x53 x54 ((rd_T34 x52 x54).f0) ((rd_T34 x52 x54).f1) ((rd_T34 x52 x54).f2))) else (none)) else (none)) else (some true)
def estoverslaw32_SlotsReferences.j2 : Nat → List (S41) → List Int → List Bool → Int → Bool → List (S34) → Int → Int → Int → Int → Int → Option (Bool)
  | 0, _, _, _, _, _, _, _, _, _, _, _ => none
  | k + 1, x5, x7, x8, x11, x12, x52, x53, x54, x202000, x202001, x202002 => if x202000 = 0 then ((slots_Alloc.f x5).bind fun bt203 => (estoverslaw32_SlotsReferences.l1 k x5 x7 x8 bt203.1 bt203.2.1 bt203.2.2 0 x52 x53 x54)) else (if x202000 = 1 then ((slots_Dup.f x5 x11).bind fun bt211 => (if ((bt211.2 == 0) != x12) = true then (some false) else (if x12 = true then (if 0 ≤ x11 then (if x11 < (x7.length : Int) then (estoverslaw32_SlotsReferences.j10 k bt211.1 (x7.set (x11 : Int).toNat (wrap64 ((rd x7 x11) + 1))) x8 x52 x53 x54) else (none)) else (none)) else (estoverslaw32_SlotsReferences.j10 k x5 x7 x8 x52 x53 x54)))) else (if x202000 = 2 then (estoverslaw32_SlotsReferences.j6 k x5 x7 x8 x11 x12 x52 x53 x54 x202000 (x202000 == 2) x202000 x202001 x202002) else (estoverslaw32_SlotsReferences.j6 k x5 x7 x8 x11 x12 x52 x53 x54 x202000 (x202000 == 3) x202000 x202001 x202002)))
def estoverslaw32_SlotsReferences.j10 : Nat → List (S41) → List Int → List Bool → List (S34) → Int → Int → Option (Bool)
  | 0, _, _, _, _, _, _ => none
  | k + 1, x5, x7, x8, x52, x53, x54 => if (x5.length : Int) = (x7.length : Int) then ((slots_Check.f x5).bind fun t233 => (estoverslaw32_SlotsReferences.j11 k x5 x7 x8 x52 x53 x54 (t233 != 0))) else (estoverslaw32_SlotsReferences.j11 k x5 x7 x8 x52 x53 x54 true)
def estoverslaw32_SlotsReferences.j11 : Nat → List (S41) → List Int → List Bool → List (S34) → Int → Int → Bool → Option (Bool)
  | 0, _, _, _, _, _, _, _ => none
  | k + 1, x5, x7, x8, x52, x53, x54, x230 => if x230 = true then (some false) else (estoverslaw32_SlotsReferences.l2 k x5 x7 x8 0 x52 x53 x54 x5 (x5.length : Int) 0)
def estoverslaw32_SlotsReferences.l2 : Nat → List (S41) → List Int → List Bool → Int → List (S34) → Int → Int → List (S41) → Int → Int → Option (Bool)
  | 0, _, _, _, _, _, _, _, _, _, _ => none
  | k + 1, x5, x7, x8, x26, x52, x53, x54, x231, x232, x233 => if x233 < x232 then (if 0 ≤ x233 then (if x233 < (x231.length : Int) then (if x233 < (x7.length : Int) then (if ((rd_T41 x231 x233).f1) = (rd x7 x233) then ((slots_IsFree.f x5 x233).bind fun t238 => (if x233 < (x8.length : Int) then (estoverslaw32_SlotsReferences.j13 k x5 x7 x8 x26 x233 x52 x53 x54 x231 x232 x233 (t238 == (rdOf false x8 x233))) else (none))) else (estoverslaw32_SlotsReferences.j13 k x5 x7 x8 x26 x233 x52 x53 x54 x231 x232 x233 true)) else (none)) else (none)) else (none)) else ((slots_Used.f k x5).bind fun t234 => (if x26 = t234 then (estoverslaw32_SlotsReferences.l0 k x5 x7 x8 x52 x53 (wrap64 (x54 + 1))) else (some false)))
def estoverslaw32_SlotsReferences.j13 : Nat → List (S41) → List Int → List Bool → Int → Int → List (S34) → Int → Int → List (S41) → Int → Int → Bool → Option (Bool)
  | 0, _, _, _, _, _, _, _, _, _, _, _, _ => none
  | k + 1, x5, x7, x8, x26, x27, x52, x53, x54, x231, x232, x233, x254 => if x254 = true then (some false) else (if 0 ≤ x27 then (if x27 < (x8.length : Int) then (if rdOf false x8 x27 = true then (estoverslaw32_SlotsReferences.l2 k x5 x7 x8 (wrap64 (x26 + 1)) x52 x53 x54 x231 x232 (wrap64 (x233 + 1))) else (estoverslaw32_SlotsReferences.l2 k x5 x7 x8 x26 x52 x53 x54 x231 x232 (wrap64 (x233 + 1)))) else (none)) else (none))
def estoverslaw32_SlotsReferences.j4 : Nat → List (S41) → List Int → List Bool → List (S41) → Int → Int → Int → List (S34) → Int → Int → Option (Bool)
  | 0, _, _, _, _, _, _, _, _, _, _ => none
  | k + 1, x5, x7, x8, x13, x14, x15, x16, x52, x53, x54 => if ((x15 == 0) != (decide (x16 < (x8.length : Int)))) = true then (estoverslaw32_SlotsReferences.j5 k x5 x7 x8 x13 x15 x16 x52 x53 x54 true) else (if x15 = 0 then (estoverslaw32_SlotsReferences.j5 k x5 x7 x8 x13 x15 x16 x52 x53 x54 (x14 != x16)) else (estoverslaw32_SlotsReferences.j5 k x5 x7 x8 x13 x15 x16 x52 x53 x54 false))
def estoverslaw32_SlotsReferences.j5 : Nat → List (S41) → List Int → List Bool → List (S41) → Int → Int → List (S34) → Int → Int → Bool → Option (Bool)
  | 0, _, _, _, _, _, _, _, _, _, _ => none
  | k + 1, x5, x7, x8, x13, x15, x16, x52, x53, x54, x111 => if x111 = true then (some false) else (if x15 = 0 then (if 0 ≤ x16 then (if x16 < (x8.length : Int) then (if x16 < (x7.length : Int) then (estoverslaw32_SlotsReferences.j10 k x13 (x7.set (x16 : Int).toNat 0) (x8.set (x16 : Int).toNat true) x52 x53 x54) else (none)) else (none)) else (none)) else (estoverslaw32_SlotsReferences.j10 k x5 x7 x8 x52 x53 x54))
def estoverslaw32_SlotsReferences.l1 : Nat → List (S41) → List Int → List Bool → List (S41) → Int → Int → Int → List (S34) → Int → Int → Option (Bool)
  | 0, _, _, _, _, _, _, _, _, _, _ => none
  | k + 1, x5, x7, x8, x13, x14, x15, x16, x52, x53, x54 => if x16 < (x8.length : Int) then (if 0 ≤ x16 then (if rdOf false x8 x16 = true then (estoverslaw32_SlotsReferences.l1 k x5 x7 x8 x13 x14 x15 (wrap64 (x16 + 1)) x52 x53 x54) else (estoverslaw32_SlotsReferences.j4 k x5 x7 x8 x13 x14 x15 x16 x52 x53 x54)) else (none)) else (estoverslaw32_SlotsReferences.j4 k x5 x7 x8 x13 x14 x15 x16 x52 x53 x54)
def estoverslaw32_SlotsReferences.j6 : Nat → List (S41) → List Int → List Bool → Int → Bool → List (S34) → Int → Int → Int → Bool → Int → Int → Int → Option (Bool)
  | 0, _, _, _, _, _, _, _, _, _, _, _, _, _ => none
  | k + 1, x5, x7, x8, x11, x12, x52, x53, x54, x75, x141, x202000, x202001, x202002 => if x141 = true then ((slots_Drop.f x5 x11 (x202000 == 3)).bind fun bt217 => (if x12 = true then (if 0 ≤ x11 then (if x11 < (x7.length : Int) then (estoverslaw32_SlotsReferences.j7 k x5 x7 x8 x11 bt217.1 bt217.2.1 bt217.2.2 (decide ((rd x7 x11) > 0)) x52 x53 x54 x202000 x202001 x202002) else (none)) else (none)) else (estoverslaw32_SlotsReferences.j7 k x5 x7 x8 x11 bt217.1 bt217.2.1 bt217.2.2 false x52 x53 x54 x202000 x202001 x202002))) else (if x75 = 4 then ((slots_Release.f x5 x11).bind fun bt227 => (if x12 = true then (if 0 ≤ x11 then (if x11 < (x7.length : Int) then (estoverslaw32_SlotsReferences.j9 k x5 x7 x8 x11 bt227.1 bt227.2 ((rd x7 x11) == 0) x52 x53 x54) else (none)) else (none)) else (estoverslaw32_SlotsReferences.j9 k x5 x7 x8 x11 bt227.1 bt227.2 false x52 x53 x54))) else (estoverslaw32_SlotsReferences.j10 k x5 x7 x8 x52 x53 x54))
def estoverslaw32_SlotsReferences.j7 : Nat → List (S41) → List Int → List Bool → Int → List (S41) → Bool → Int → Bool → List (S34) → Int → Int → Int → Int → Int → Option (Bool)
  | 0, _, _, _, _, _, _, _, _, _, _, _, _, _, _ => none
  | k + 1, x5, x7, x8, x11, x19, x20, x21, x22, x52, x53, x54, x202000, x202001, x202002 => if ((x21 == 0) != x22) = true then (estoverslaw32_SlotsReferences.j8 k x5 x7 x8 x11 x19 x20 x22 x52 x53 x54 true) else (if x22 = true then (if 0 ≤ x11 then (if x11 < (x7.length : Int) then (if (rd x7 x11) = 1 then (estoverslaw32_SlotsReferences.j8 k x5 x7 x8 x11 x19 x20 x22 x52 x53 x54 (x20 != (x202000 == 2))) else (estoverslaw32_SlotsReferences.j8 k x5 x7 x8 x11 x19 x20 x22 x52 x53 x54 (x20 != false))) else (none)) else (none)) else (estoverslaw32_SlotsReferences.j8 k x5 x7 x8 x11 x19 x20 x22 x52 x53 x54 (x20 != false)))
def estoverslaw32_SlotsReferences.j8 : Nat → List (S41) → List Int → List Bool → Int → List (S41) → Bool → Bool → List (S34) → Int → Int → Bool → Option (Bool)
  | 0, _, _, _, _, _, _, _, _, _, _, _ => none
  | k + 1, x5, x7, x8, x11, x19, x20, x22, x52, x53, x54, x182 => if x182 = true then (some false) else (if x22 = true then (if 0 ≤ x11 then (if x11 < (x7.length : Int) then (if x11 < (x8.length : Int) then (estoverslaw32_SlotsReferences.j10 k x19 (x7.set (x11 : Int).toNat (wrap64 ((rd x7 x11) - 1))) (x8.set (x11 : Int).toNat (!x20)) x52 x53 x54) else (none)) else (none)) else (none)) else (estoverslaw32_SlotsReferences.j10 k x5 x7 x8 x52 x53 x54))
def estoverslaw32_SlotsReferences.j9 : Nat → List (S41) → List Int → List Bool → Int → List (S41) → Int → Bool → List (S34) → Int → Int → Option (Bool)
  | 0, _, _, _, _, _, _, _, _, _, _ => none
  | k + 1, x5, x7, x8, x11, x23, x24, x25, x52, x53, x54 => if ((x24 == 0) != x25) = true then (some false) else (if x25 = true then (if 0 ≤ x11 then (if x11 < (x8.length : Int) then (estoverslaw32_SlotsReferences.j10 k x23 x7 (x8.set (x11 : Int).toNat false) x52 x53 x54) else (none)) else (none)) else (estoverslaw32_SlotsReferences.j10 k x5 x7 x8 x52 x53 x54))
end
def estoverslaw32_SlotsReferences.f (k : Nat) (a0 : Int) (l1 : List (S34)) : Option (Bool) := (estoverslaw32_awake.f k).bind fun t188 => (if t188 = true then (estoverslaw32_SlotsReferences.j0 k a0 l1 (decide ((l1.length : Int) > 60))) else (estoverslaw32_SlotsReferences.j0 k a0 l1 true))
theorem estoverslaw32_SlotsReferences.mono_l : ∀ k, (∀ y0 y1 y2, LeO (estoverslaw32_SlotsReferences.j0 k y0 y1 y2) (estoverslaw32_SlotsReferences.j0 (k + 1) y0 y1 y2)) ∧ (∀ y0 y1 y2 y3 y4 y5, LeO (estoverslaw32_SlotsReferences.l0 k y0 y1 y2 y3 y4 y5) (estoverslaw32_SlotsReferences.l0 (k + 1) y0 y1 y2 y3 y4 y5)) ∧ (∀ y0 y1 y2 y3 y4 y5 y6 y7 y8 y9 y10, LeO (estoverslaw32_SlotsReferences.j2 k y0 y1 y2 y3 y4 y5 y6 y7 y8 y9 y10) (estoverslaw32_SlotsReferences.j2 (k + 1) y0 y1 y2 y3 y4 y5 y6 y7 y8 y9 y10)) ∧ (∀ y0 y1 y2 y3 y4 y5, LeO (estoverslaw32_SlotsReferences.j10 k y0 y1 y2 y3 y4 y5) (estoverslaw32_SlotsReferences.j10 (k + 1) y0 y1 y2 y3 y4 y5)) ∧ (∀ y0 y1 y2 y3 y4 y5 y6, LeO (estoverslaw32_SlotsReferences.j11 k y0 y1 y2 y3 y4 y5 y6) (estoverslaw32_SlotsReferences.j11 (k + 1) y0 y1 y2 y3 y4 y5 y6)) ∧ (∀ y0 y1 y2 y3 y4 y5 y6 y7 y8 y9, LeO (estoverslaw32_SlotsReferences.l2 k y0 y1 y2 y3 y4 y5 y6 y7 y8 y9) (estoverslaw32_SlotsReferences.l2 (k + 1) y0 y1 y2 y3 y4 y5 y6 y7 y8 y9)) ∧ (∀ y0 y1 y2 y3 y4 y5 y6 y7 y8 y9 y10 y11, LeO (estoverslaw32_SlotsReferences.j13 k y0 y1 y2 y3 y4 y5 y6 y7 y8 y9 y10 y11) (estoverslaw32_SlotsReferences.j13 (k + 1) y0 y1 y2 y3 y4 y5 y6 y7 y8 y9 y10 y11)) ∧ (∀ y0 y1 y2 y3 y4 y5 y6 y7 y8 y9, LeO (estoverslaw32_SlotsReferences.j4 k y0 y1 y2 y3 y4 y5 y6 y7 y8 y9) (estoverslaw32_SlotsReferences.j4 (k + 1) y0 y1 y2 y3 y4 y5 y6 y7 y8 y9)) ∧ (∀ y0 y1 y2 y3 y4 y5 y6 y7 y8 y9, LeO (estoverslaw32_SlotsReferences.j5 k y0 y1 y2 y3 y4 y5 y6 y7 y8 y9) (estoverslaw32_SlotsReferences.j5 (k + 1) y0 y1 y2 y3 y4 y5 y6 y7 y8 y9)) ∧ (∀ y0 y1 y2 y3 y4 y5 y6 y7 y8 y9, LeO (estoverslaw32_SlotsReferences.l1 k y0 y1 y2 y3 y4 y5 y6 y7 y8 y9) (estoverslaw32_SlotsReferences.l1 (k + 1) y0 y1 y2 y3 y4 y5 y6 y7 y8 y9)) ∧ (∀ y0 y1 y2 y3 y4 y5 y6 y7 y8 y9 y10 y11 y12, LeO (estoverslaw32_SlotsReferences.j6 k y0 y1 y2 y3 y4 y5 y6 y7 y8 y9 y10 y11 y12) (estoverslaw32_SlotsReferences.j6 (k + 1) y0 y1 y2 y3 y4 y5 y6 y7 y8 y9 y10 y11 y12)) ∧ (∀ y0 y1 y2 y3 y4 y5 y6 y7 y8 y9 y10 y11 y12 y13, LeO (estoverslaw32_SlotsReferences.j7 k y0 y1 y2 y3 y4 y5 y6 y7 y8 y9 y10 y11 y12 y13) (estoverslaw32_SlotsReferences.j7 (k + 1) y0 y1 y2 y3 y4 y5 y6 y7 y8 y9 y10 y11 y12 y13)) ∧ (∀ y0 y1 y2 y3 y4 y5 y6 y7 y8 y9 y10, LeO (estoverslaw32_SlotsReferences.j8 k y0 y1 y2 y3 y4 y5 y6 y7 y8 y9 y10) (estoverslaw32_SlotsReferences.j8 (k + 1) y0 y1 y2 y3 y4 y5 y6 y7 y8 y9 y10)) ∧ (∀ y0 y1 y2 y3 y4 y5 y6 y7 y8 y9, LeO (estoverslaw32_SlotsReferences.j9 k y0 y1 y2 y3 y4 y5 y6 y7 y8 y9) (estoverslaw32_SlotsReferences.j9 (k + 1) y0 y1 y2 y3 y4 y5 y6 y7 y8 y9))
  | 0 => ⟨fun _ _ _ r h => by simp [estoverslaw32_SlotsReferences.j0] at h, fun _ _ _ _ _ _ r h => by simp [estoverslaw32_SlotsReferences.l0] at h, fun _ _ _ _ _ _ _ _ _ _ _ r h => by simp [estoverslaw32_SlotsReferences.j2] at h, fun _ _ _ _ _ _ r h => by simp [estoverslaw32_SlotsReferences.j10] at h, fun _ _ _ _ _ _ _ r h => by simp [estoverslaw32_SlotsReferences.j11] at h, fun _ _ _ _ _ _ _ _ _ _ r h => by simp [estoverslaw32_SlotsReferences.l2] at h, fun _ _ _ _ _ _ _ _ _ _ _ _ r h => by simp [estoverslaw32_SlotsReferences.j13] at h, fun _ _ _ _ _ _ _ _ _ _ r h => by simp [estoverslaw32_SlotsReferences.j4] at h, fun _ _ _ _ _ _ _ _ _ _ r h => by simp [estoverslaw32_SlotsReferences.j5] at h, fun _ _ _ _ _ _ _ _ _ _ r h => by simp [estoverslaw32_SlotsReferences.l1] at h, fun _ _ _ _ _ _ _ _ _ _ _ _ _ r h => by simp [estoverslaw32_SlotsReferences.j6] at h, fun _ _ _ _ _ _ _ _ _ _ _ _ _ _ r h => by simp [estoverslaw32_SlotsReferences.j7] at h, fun _ _ _ _ _ _ _ _ _ _ _ r h => by simp [estoverslaw32_SlotsReferences.j8] at h, fun _ _ _ _ _ _ _ _ _ _ r h => by simp [estoverslaw32_SlotsReferences.j9] at h⟩
  | k + 1 => by
    obtain ⟨ih0, ih1, ih2, ih3, ih4, ih5, ih6, ih7, ih8, ih9, ih10, ih11, ih12, ih13⟩ := estoverslaw32_SlotsReferences.mono_l k
    refine ⟨?_, ?_, ?_, ?_, ?_, ?_, ?_, ?_, ?_, ?_, ?_, ?_, ?_, ?_⟩
    · intro y0 y1 y2
      unfold estoverslaw32_SlotsReferences.j0
      repeat' first
      | (with_reducible exact ih0 _ _ _)
      | (with_reducible exact ih1 _ _ _ _ _ _)
      | (with_reducible exact ih2 _ _ _ _ _ _ _ _ _ _ _)
      | (with_reducible exact ih3 _ _ _ _ _ _)
      | (with_reducible exact ih4 _ _ _ _ _ _ _)
      | (with_reducible exact ih5 _ _ _ _ _ _ _ _ _ _)
      | (with_reducible exact ih6 _ _ _ _ _ _ _ _ _ _ _ _)
      | (with_reducible exact ih7 _ _ _ _ _ _ _ _ _ _)
      | (with_reducible exact ih8 _ _ _ _ _ _ _ _ _ _)
      | (with_reducible exact ih9 _ _ _ _ _ _ _ _ _ _)
      | (with_reducible exact ih10 _ _ _ _ _ _ _ _ _ _ _ _ _)
      | (with_reducible exact ih11 _ _ _ _ _ _ _ _ _ _ _ _ _ _)
      | (with_reducible exact ih12 _ _ _ _ _ _ _ _ _ _ _)
      | (with_reducible exact ih13 _ _ _ _ _ _ _ _ _ _)
      | (with_reducible exact estoverslaw32_awake.mono _)
      | (with_reducible exact slots_Used.mono _ _)
      | (with_reducible exact LeO.refl _)
      | (with_reducible exact LeO.none _)
      | (with_reducible refine LeO.ite ?_ ?_)
      | (with_reducible refine LeO.bind ?_ (fun _ => ?_))
      | exact ih0 _ _ _
      | exact ih1 _ _ _ _ _ _
      | exact ih2 _ _ _ _ _ _ _ _ _ _ _
      | exact ih3 _ _ _ _ _ _
      | exact ih4 _ _ _ _ _ _ _
      | exact ih5 _ _ _ _ _ _ _ _ _ _
      | exact ih6 _ _ _ _ _ _ _ _ _ _ _ _
      | exact ih7 _ _ _ _ _ _ _ _ _ _
      | exact ih8 _ _ _ _ _ _ _ _ _ _
      | exact ih9 _ _ _ _ _ _ _ _ _ _
      | exact ih10 _ _ _ _ _ _ _ _ _ _ _ _ _
      | exact ih11 _ _ _ _ _ _ _ _ _ _ _ _ _ _
      | exact ih12 _ _ _ _ _ _ _ _ _ _ _
      | exact ih13 _ _ _ _ _ _ _ _ _ _
      | exact estoverslaw32_awake.mono _
      | exact slots_Used.mono _ _
      | exact LeO.none _
      | refine LeO.ite ?_ ?_
      | refine LeO.bind ?_ (fun _ => ?_)
    · intro y0 y1 y2 y3 y4 y5
      unfold estoverslaw32_SlotsReferences.l0
      repeat' first
      | (with_reducible exact ih0 _ _ _)
      | (with_reducible exact ih1 _ _ _ _ _ _)
      | (with_reducible exact ih2 _ _ _ _ _ _ _ _ _ _ _)
      | (with_reducible exact ih3 _ _ _ _ _ _)
      | (with_reducible exact ih4 _ _ _ _ _ _ _)
      | (with_reducible exact ih5 _ _ _ _ _ _ _ _ _ _)
      | (with_reducible exact ih6 _ _ _ _ _ _ _ _ _ _ _ _)
      | (with_reducible exact ih7 _ _ _ _ _ _ _ _ _ _)
      | (with_reducible exact ih8 _ _ _ _ _ _ _ _ _ _)
      | (with_reducible exact ih9 _ _ _ _ _ _ _ _ _ _)
      | (with_reducible exact ih10 _ _ _ _ _ _ _ _ _ _ _ _ _)
      | (with_reducible exact ih11 _ _ _ _ _ _ _ _ _ _ _ _ _ _)
      | (with_reducible exact ih12 _ _ _ _ _ _ _ _ _ _ _)
      | (with_reducible exact ih13 _ _ _ _ _ _ _ _ _ _)
      | (with_reducible exact estoverslaw32_awake.mono _)
      | (with_reducible exact slots_Used.mono _ _)
      | (with_reducible exact LeO.refl _)
      | (with_reducible exact LeO.none _)
      | (with_reducible refine LeO.ite ?_ ?_)
      | (with_reducible refine LeO.bind ?_ (fun _ => ?_))
      | exact ih0 _ _ _
      | exact ih1 _ _ _ _ _ _
      | exact ih2 _ _ _ _ _ _ _ _ _ _ _
      | exact ih3 _ _ _ _ _ _
      | exact ih4 _ _ _ _ _ _ _
      | exact ih5 _ _ _ _ _ _ _ _ _ _
      | exact ih6 _ _ _ _ _ _ _ _ _ _ _ _
      | exact ih7 _ _ _ _ _ _ _ _ _ _
      | exact ih8 _ _ _ _ _ _ _ _ _ _
      | exact ih9 _ _ _ _ _ _ _ _ _ _
      | exact ih10 _ _ _ _ _ _ _ _ _ _ _ _ _
      | exact ih11 _ _ _ _ _ _ _ _ _ _ _ _ _ _
      | exact ih12 _ _ _ _ _ _ _ _ _ _ _
      | exact ih13 _ _ _ _ _ _ _ _ _ _
      | exact estoverslaw32_awake.mono _
      | exact slots_Used.mono _ _
      | exact LeO.none _
      | refine LeO.ite ?_ ?_
      | refine LeO.bind ?_ (fun _ => ?_)
    · intro y0 y1 y2 y3 y4 y5 y6 y7 y8 y9 y10
      unfold estoverslaw32_SlotsReferences.j2
      repeat' first
      | (with_reducible exact ih0 _ _ _)
      | (with_reducible exact ih1 _ _ _ _ _ _)
      | (with_reducible exact ih2 _ _ _ _ _ _ _ _ _ _ _)
      | (with_reducible exact ih3 _ _ _ _ _ _)
      | (with_reducible exact ih4 _ _ _ _ _ _ _)
      | (with_reducible exact ih5 _ _ _ _ _ _ _ _ _ _)
      | (with_reducible exact ih6 _ _ _ _ _ _ _ _ _ _ _ _)
      | (with_reducible exact ih7 _ _ _ _ _ _ _ _ _ _)
      | (with_reducible exact ih8 _ _ _ _ _ _ _ _ _ _)
      | (with_reducible exact ih9 _ _ _ _ _ _ _ _ _ _)
      | (with_reducible exact ih10 _ _ _ _ _ _ _ _ _ _ _ _ _)
      | (with_reducible exact ih11 _ _ _ _ _ _ _ _ _ _ _ _ _ _)
      | (with_reducible exact ih12 _ _ _ _ _ _ _ _ _ _ _)
      | (with_reducible exact ih13 _ _ _ _ _ _ _ _ _ _)
      | (with_reducible exact estoverslaw32_awake.mono _)
      | (with_reducible exact slots_Used.mono _ _)
      | (with_reducible exact LeO.refl _)
      | (with_reducible exact LeO.none _)
      | (with_reducible refine LeO.ite ?_ ?_)
      | (with_reducible refine LeO.bind ?_ (fun _ => ?_))
      | exact ih0 _ _ _
      | exact ih1 _ _ _ _ _ _
      | exact ih2 _ _ _ _ _ _ _ _ _ _ _
      | exact ih3 _ _ _ _ _ _
      | exact ih4 _ _ _ _ _ _ _
      | exact ih5 _ _ _ _ _ _ _ _ _ _
      | exact ih6 _ _ _ _ _ _ _ _ _ _ _ _
      | exact ih7 _ _ _ _ _ _ _ _ _ _
      | exact ih8 _ _ _ _ _ _ _ _ _ _
      | exact ih9 _ _ _ _ _ _ _ _ _ _
      | exact ih10 _ _ _ _ _ _ _ _ _ _ _ _ _
      | exact ih11 _ _ _ _ _ _ _ _ _ _ _ _ _ _
      | exact ih12 _ _ _ _ _ _ _ _ _ _ _
      | exact ih13 _ _ _ _ _ _ _ _ _ _
      | exact estoverslaw32_awake.mono _
      | exact slots_Used.mono _ _
      | exact LeO.none _
      | refine LeO.ite ?_ ?_
      | refine LeO.bind ?_ (fun _ => ?_)
    · intro y0 y1 y2 y3 y4 y5
      unfold estoverslaw32_SlotsReferences.j10
      repeat' first
      | (with_reducible exact ih0 _ _ _)
      | (with_reducible exact ih1 _ _ _ _ _ _)
      | (with_reducible exact ih2 _ _ _ _ _ _ _ _ _ _ _)
      | (with_reducible exact ih3 _ _ _ _ _ _)
      | (with_reducible exact ih4 _ _ _ _ _ _ _)
      | (with_reducible exact ih5 _ _ _ _ _ _ _ _ _ _)
      | (with_reducible exact ih6 _ _ _ _ _ _ _ _ _ _ _ _)
      | (with_reducible exact ih7 _ _ _ _ _ _ _ _ _ _)
      | (with_reducible exact ih8 _ _ _ _ _ _ _ _ _ _)
      | (with_reducible exact ih9 _ _ _ _ _ _ _ _ _ _)
      | (with_reducible exact ih10 _ _ _ _ _ _ _ _ _ _ _ _ _)
      | (with_reducible exact ih11 _ _ _ _ _ _ _ _ _ _ _ _ _ _)
      | (with_reducible exact ih12 _ _ _ _ _ _ _ _ _ _ _)
      | (with_reducible exact ih13 _ _ _ _ _ _ _ _ _ _)
      | (with_reducible exact estoverslaw32_awake.mono _)
      | (with_reducible exact slots_Used.mono _ _)
      | (with_reducible exact LeO.refl _)
      | (with_reducible exact LeO.none _)
      | (with_reducible refine LeO.ite ?_ ?_)
      | (with_reducible refine LeO.bind ?_ (fun _ => ?_))
      | exact ih0 _ _ _
      | exact ih1 _ _ _ _ _ _
      | exact ih2 _ _ _ _ _ _ _ _ _ _ _
      | exact ih3 _ _ _ _ _ _
      | exact ih4 _ _ _ _ _ _ _
      | exact ih5 _ _ _ _ _ _ _ _ _ _
      | exact ih6 _ _ _ _ _ _ _ _ _ _ _ _
      | exact ih7 _ _ _ _ _ _ _ _ _ _
      | exact ih8 _ _ _ _ _ _ _ _ _ _
      | exact ih9 _ _ _ _ _ _ _ _ _ _
      | exact ih10 _ _ _ _ _ _ _ _ _ _ _ _ _
      | exact ih11 _ _ _ _ _ _ _ _ _ _ _ _ _ _
      | exact ih12 _ _ _ _ _ _ _ _ _ _ _
      | exact ih13 _ _ _ _ _ _ _ _ _ _
      | exact estoverslaw32_awake.mono _
      | exact slots_Used.mono _ _
      | exact LeO.none _
      | refine LeO.ite ?_ ?_
      | refine LeO.bind ?_ (fun _ => ?_)
    · intro y0 y1 y2 y3 y4 y5 y6
      unfold estoverslaw32_SlotsReferences.j11
      repeat' first
      | (with_reducible exact ih0 _ _ _)
      | (with_reducible exact ih1 _ _ _ _ _ _)
      | (with_reducible exact ih2 _ _ _ _ _ _ _ _ _ _ _)
      | (with_reducible exact ih3 _ _ _ _ _ _)
      | (with_reducible exact ih4 _ _ _ _ _ _ _)
      | (with_reducible exact ih5 _ _ _ _ _ _ _ _ _ _)
      | (with_reducible exact ih6 _ _ _ _ _ _ _ _ _ _ _ _)
      | (with_reducible exact ih7 _ _ _ _ _ _ _ _ _ _)
      | (with_reducible exact ih8 _ _ _ _ _ _ _ _ _ _)
      | (with_reducible exact ih9 _ _ _ _ _ _ _ _ _ _)
      | (with_reducible exact ih10 _ _ _ _ _ _ _ _ _ _ _ _ _)
      | (with_reducible exact ih11 _ _ _ _ _ _ _ _ _ _ _ _ _ _)
      | (with_reducible exact ih12 _ _ _ _ _ _ _ _ _ _ _)
      | (with_reducible exact ih13 _ _ _ _ _ _ _ _ _ _)
      | (with_reducible exact estoverslaw32_awake.mono _)
      | (with_reducible exact slots_Used.mono _ _)
      | (with_reducible exact LeO.refl _)
      | (with_reducible exact LeO.none _)
      | (with_reducible refine LeO.ite ?_ ?_)
      | (with_reducible refine LeO.bind ?_ (fun _ => ?_))
      | exact ih0 _ _ _
      | exact ih1 _ _ _ _ _ _
      | exact ih2 _ _ _ _ _ _ _ _ _ _ _
      | exact ih3 _ _ _ _ _ _
      | exact ih4 _ _ _ _ _ _ _
      | exact ih5 _ _ _ _ _ _ _ _ _ _
      | exact ih6 _ _ _ _ _ _ _ _ _ _ _ _
      | exact ih7 _ _ _ _ _ _ _ _ _ _
      | exact ih8 _ _ _ _ _ _ _ _ _ _
      | exact ih9 _ _ _ _ _ _ _ _ _ _
      | exact ih10 _ _ _ _ _ _ _ _ _ _ _ _ _
      | exact ih11 _ _ _ _ _ _ _ _ _ _ _ _ _ _
      | exact ih12 _ _ _ _ _ _ _ _ _ _ _
      | exact ih13 _ _ _ _ _ _ _ _ _ _
      | exact estoverslaw32_awake.mono _
      | exact slots_Used.mono _ _
      | exact LeO.none _
      | refine LeO.ite ?_ ?_
      | refine LeO.bind ?_ (fun _ => ?_)
    · intro y0 y1 y2 y3 y4 y5 y6 y7 y8 y9
      unfold estoverslaw32_SlotsReferences.l2
      repeat' first
      | (with_reducible exact ih0 _ _ _)
      | (with_reducible exact ih1 _ _ _ _ _ _)
      | (with_reducible exact ih2 _ _ _ _ _ _ _ _ _ _ _)
      | (with_reducible exact ih3 _ _ _ _ _ _)
      | (with_reducible exact ih4 _ _ _ _ _ _ _)
      | (with_reducible exact ih5 _ _ _ _ _ _ _ _ _ _)
      | (with_reducible exact ih6 _ _ _ _ _ _ _ _ _ _ _ _)
      | (with_reducible exact ih7 _ _ _ _ _ _ _ _ _ _)
      | (with_reducible exact ih8 _ _ _ _ _ _ _ _ _ _)
      | (with_reducible exact ih9 _ _ _ _ _ _ _ _ _ _)
      | (with_reducible exact ih10 _ _ _ _ _ _ _ _ _ _ _ _ _)
      | (with_reducible exact ih11 _ _ _ _ _ _ _ _ _ _ _ _ _ _)
      | (with_reducible exact ih12 _ _ _ _ _ _ _ _ _ _ _)
      | (with_reducible exact ih13 _ _ _ _ _ _ _ _ _ _)
      | (with_reducible exact estoverslaw32_awake.mono _)
      | (with_reducible exact slots_Used.mono _ _)
      | (with_reducible exact LeO.refl _)
      | (with_reducible exact LeO.none _)
      | (with_reducible refine LeO.ite ?_ ?_)
      | (with_reducible refine LeO.bind ?_ (fun _ => ?_))
      | exact ih0 _ _ _
      | exact ih1 _ _ _ _ _ _
      | exact ih2 _ _ _ _ _ _ _ _ _ _ _
      | exact ih3 _ _ _ _ _ _
      | exact ih4 _ _ _ _ _ _ _
      | exact ih5 _ _ _ _ _ _ _ _ _ _
      | exact ih6 _ _ _ _ _ _ _ _ _ _ _ _
      | exact ih7 _ _ _ _ _ _ _ _ _ _
      | exact ih8 _ _ _ _ _ _ _ _ _ _
      | exact ih9 _ _ _ _ _ _ _ _ _ _
      | exact ih10 _ _ _ _ _ _ _ _ _ _ _ _ _
      | exact ih11 _ _ _ _ _ _ _ _ _ _ _ _ _ _
      | exact ih12 _ _ _ _ _ _ _ _ _ _ _
      | exact ih13 _ _ _ _ _ _ _ _ _ _
      | exact estoverslaw32_awake.mono _
      | exact slots_Used.mono _ _
      | exact LeO.none _
      | refine LeO.ite ?_ ?_
      | refine LeO.bind ?_ (fun _ => ?_)
    · intro y0 y1 y2 y3 y4 y5 y6 y7 y8 y9 y10 y11
      unfold estoverslaw32_SlotsReferences.j13
      repeat' first
      | (with_reducible exact ih0 _ _ _)
      | (with_reducible exact ih1 _ _ _ _ _ _)
      | (with_reducible exact ih2 _ _ _ _ _ _ _ _ _ _ _)
      | (with_reducible exact ih3 _ _ _ _ _ _)
      | (with_reducible exact ih4 _ _ _ _ _ _ _)
      | (with_reducible exact ih5 _ _ _ _ _ _ _ _ _ _)
      | (with_reducible exact ih6 _ _ _ _ _ _ _ _ _ _ _ _)
      | (with_reducible exact ih7 _ _ _ _ _ _ _ _ _ _)
      | (with_reducible exact ih8 _ _ _ _ _ _ _ _ _ _)
      | (with_reducible exact ih9 _ _ _ _ _ _ _ _ _ _)
      | (with_reducible exact ih10 _ _ _ _ _ _ _ _ _ _ _ _ _)
      | (with_reducible exact ih11 _ _ _ _ _ _ _ _ _ _ _ _ _ _)
      | (with_reducible exact ih12 _ _ _ _ _ _ _ _ _ _ _)
      | (with_reducible exact ih13 _ _ _ _ _ _ _ _ _ _)
      | (with_reducible exact estoverslaw32_awake.mono _)
      | (with_reducible exact slots_Used.mono _ _)
      | (with_reducible exact LeO.refl _)
      | (with_reducible exact LeO.none _)
      | (with_reducible refine LeO.ite ?_ ?_)
      | (with_reducible refine LeO.bind ?_ (fun _ => ?_))
      | exact ih0 _ _ _
      | exact ih1 _ _ _ _ _ _
      | exact ih2 _ _ _ _ _ _ _ _ _ _ _
      | exact ih3 _ _ _ _ _ _
      | exact ih4 _ _ _ _ _ _ _
      | exact ih5 _ _ _ _ _ _ _ _ _ _
      | exact ih6 _ _ _ _ _ _ _ _ _ _ _ _
      | exact ih7 _ _ _ _ _ _ _ _ _ _
      | exact ih8 _ _ _ _ _ _ _ _ _ _
      | exact ih9 _ _ _ _ _ _ _ _ _ _
      | exact ih10 _ _ _ _ _ _ _ _ _ _ _ _ _
      | exact ih11 _ _ _ _ _ _ _ _ _ _ _ _ _ _
      | exact ih12 _ _ _ _ _ _ _ _ _ _ _
      | exact ih13 _ _ _ _ _ _ _ _ _ _
      | exact estoverslaw32_awake.mono _
      | exact slots_Used.mono _ _
      | exact LeO.none _
      | refine LeO.ite ?_ ?_
      | refine LeO.bind ?_ (fun _ => ?_)
    · intro y0 y1 y2 y3 y4 y5 y6 y7 y8 y9
      unfold estoverslaw32_SlotsReferences.j4
      repeat' first
      | (with_reducible exact ih0 _ _ _)
      | (with_reducible exact ih1 _ _ _ _ _ _)
      | (with_reducible exact ih2 _ _ _ _ _ _ _ _ _ _ _)
      | (with_reducible exact ih3 _ _ _ _ _ _)
      | (with_reducible exact ih4 _ _ _ _ _ _ _)
      | (with_reducible exact ih5 _ _ _ _ _ _ _ _ _ _)
      | (with_reducible exact ih6 _ _ _ _ _ _ _ _ _ _ _ _)
      | (with_reducible exact ih7 _ _ _ _ _ _ _ _ _ _)
      | (with_reducible exact ih8 _ _ _ _ _ _ _ _ _ _)
      | (with_reducible exact ih9 _ _ _ _ _ _ _ _ _ _)
      | (with_reducible exact ih10 _ _ _ _ _ _ _ _ _ _ _ _ _)
      | (with_reducible exact ih11 _ _ _ _ _ _ _ _ _ _ _ _ _ _)
      | (with_reducible exact ih12 _ _ _ _ _ _ _ _ _ _ _)
      | (with_reducible exact ih13 _ _ _ _ _ _ _ _ _ _)
      | (with_reducible exact estoverslaw32_awake.mono _)
      | (with_reducible exact slots_Used.mono _ _)
      | (with_reducible exact LeO.refl _)
      | (with_reducible exact LeO.none _)
      | (with_reducible refine LeO.ite ?_ ?_)
      | (with_reducible refine LeO.bind ?_ (fun _ => ?_))
      | exact ih0 _ _ _
      | exact ih1 _ _ _ _ _ _
      | exact ih2 _ _ _ _ _ _ _ _ _ _ _
      | exact ih3 _ _ _ _ _ _
      | exact ih4 _ _ _ _ _ _ _
      | exact ih5 _ _ _ _ _ _ _ _ _ _
      | exact ih6 _ _ _ _ _ _ _ _ _ _ _ _
      | exact ih7 _ _ _ _ _ _ _ _ _ _
      | exact ih8 _ _ _ _ _ _ _ _ _ _
      | exact ih9 _ _ _ _ _ _ _ _ _ _
      | exact ih10 _ _ _ _ _ _ _ _ _ _ _ _ _
      | exact ih11 _ _ _ _ _ _ _ _ _ _ _ _ _ _
      | exact ih12 _ _ _ _ _ _ _ _ _ _ _
      | exact ih13 _ _ _ _ _ _ _ _ _ _
      | exact estoverslaw32_awake.mono _
      | exact slots_Used.mono _ _
      | exact LeO.none _
      | refine LeO.ite ?_ ?_
      | refine LeO.bind ?_ (fun _ => ?_)
    · intro y0 y1 y2 y3 y4 y5 y6 y7 y8 y9
      unfold estoverslaw32_SlotsReferences.j5
      repeat' first
      | (with_reducible exact ih0 _ _ _)
      | (with_reducible exact ih1 _ _ _ _ _ _)
      | (with_reducible exact ih2 _ _ _ _ _ _ _ _ _ _ _)
      | (with_reducible exact ih3 _ _ _ _ _ _)
      | (with_reducible exact ih4 _ _ _ _ _ _ _)
      | (with_reducible exact ih5 _ _ _ _ _ _ _ _ _ _)
      | (with_reducible exact ih6 _ _ _ _ _ _ _ _ _ _ _ _)
      | (with_reducible exact ih7 _ _ _ _ _ _ _ _ _ _)
      | (with_reducible exact ih8 _ _ _ _ _ _ _ _ _ _)
      | (with_reducible exact ih9 _ _ _ _ _ _ _ _ _ _)
      | (with_reducible exact ih10 _ _ _ _ _ _ _ _ _ _ _ _ _)
      | (with_reducible exact ih11 _ _ _ _ _ _ _ _ _ _ _ _ _ _)
      | (with_reducible exact ih12 _ _ _ _ _ _ _ _ _ _ _)
      | (with_reducible exact ih13 _ _ _ _ _ _ _ _ _ _)
      | (with_reducible exact estoverslaw32_awake.mono _)
      | (with_reducible exact slots_Used.mono _ _)
      | (with_reducible exact LeO.refl _)
      | (with_reducible exact LeO.none _)
      | (with_reducible refine LeO.ite ?_ ?_)
      | (with_reducible refine LeO.bind ?_ (fun _ => ?_))
      | exact ih0 _ _ _
      | exact ih1 _ _ _ _ _ _
      | exact ih2 _ _ _ _ _ _ _ _ _ _ _
      | exact ih3 _ _ _ _ _ _
      | exact ih4 _ _ _ _ _ _ _
      | exact ih5 _ _ _ _ _ _ _ _ _ _
      | exact ih6 _ _ _ _ _ _ _ _ _ _ _ _
      | exact ih7 _ _ _ _ _ _ _ _ _ _
      | exact ih8 _ _ _ _ _ _ _ _ _ _
      | exact ih9 _ _ _ _ _ _ _ _ _ _
      | exact ih10 _ _ _ _ _ _ _ _ _ _ _ _ _
      | exact ih11 _ _ _ _ _ _ _ _ _ _ _ _ _ _
      | exact ih12 _ _ _ _ _ _ _ _ _ _ _
      | exact ih13 _ _ _ _ _ _ _ _ _ _
      | exact estoverslaw32_awake.mono _
      | exact slots_Used.mono _ _
      | exact LeO.none _
      | refine LeO.ite ?_ ?_
      | refine LeO.bind ?_ (fun _ => ?_)
    · intro y0 y1 y2 y3 y4 y5 y6 y7 y8 y9
      unfold estoverslaw32_SlotsReferences.l1
      repeat' first
      | (with_reducible exact ih0 _ _ _)
      | (with_reducible exact ih1 _ _ _ _ _ _)
      | (with_reducible exact ih2 _ _ _ _ _ _ _ _ _ _ _)
      | (with_reducible exact ih3 _ _ _ _ _ _)
      | (with_reducible exact ih4 _ _ _ _ _ _ _)
      | (with_reducible exact ih5 _ _ _ _ _ _ _ _ _ _)
      | (with_reducible exact ih6 _ _ _ _ _ _ _ _ _ _ _ _)
      | (with_reducible exact ih7 _ _ _ _ _ _ _ _ _ _)
      | (with_reducible exact ih8 _ _ _ _ _ _ _ _ _ _)
      | (with_reducible exact ih9 _ _ _ _ _ _ _ _ _ _)
      | (with_reducible exact ih10 _ _ _ _ _ _ _ _ _ _ _ _ _)
      | (with_reducible exact ih11 _ _ _ _ _ _ _ _ _ _ _ _ _ _)
      | (with_reducible exact ih12 _ _ _ _ _ _ _ _ _ _ _)
      | (with_reducible exact ih13 _ _ _ _ _ _ _ _ _ _)
      | (with_reducible exact estoverslaw32_awake.mono _)
      | (with_reducible exact slots_Used.mono _ _)
      | (with_reducible exact LeO.refl _)
      | (with_reducible exact LeO.none _)
      | (with_reducible refine LeO.ite ?_ ?_)
      | (with_reducible refine LeO.bind ?_ (fun _ => ?_))
      | exact ih0 _ _ _
      | exact ih1 _ _ _ _ _ _
      | exact ih2 _ _ _ _ _ _ _ _ _ _ _
      | exact ih3 _ _ _ _ _ _
      | exact ih4 _ _ _ _ _ _ _
      | exact ih5 _ _ _ _ _ _ _ _ _ _
      | exact ih6 _ _ _ _ _ _ _ _ _ _ _ _
      | exact ih7 _ _ _ _ _ _ _ _ _ _
      | exact ih8 _ _ _ _ _ _ _ _ _ _
      | exact ih9 _ _ _ _ _ _ _ _ _ _
      | exact ih10 _ _ _ _ _ _ _ _ _ _ _ _ _
      | exact ih11 _ _ _ _ _ _ _ _ _ _ _ _ _ _
      | exact ih12 _ _ _ _ _ _ _ _ _ _ _
      | exact ih13 _ _ _ _ _ _ _ _ _ _
      | exact estoverslaw32_awake.mono _
      | exact slots_Used.mono _ _
      | exact LeO.none _
      | refine LeO.ite ?_ ?_
      | refine LeO.bind ?_ (fun _ => ?_)
    · intro y0 y1 y2 y3 y4 y5 y6 y7 y8 y9 y10 y11 y12
      unfold estoverslaw32_SlotsReferences.j6
      repeat' first
      | (with_reducible exact ih0 _ _ _)
      | (with_reducible exact ih1 _ _ _ _ _ _)
      | (with_reducible exact ih2 _ _ _ _ _ _ _ _ _ _ _)
      | (with_reducible exact ih3 _ _ _ _ _ _)
      | (with_reducible exact ih4 _ _ _ _ _ _ _)
      | (with_reducible exact ih5 _ _ _ _ _ _ _ _ _ _)
      | (with_reducible exact ih6 _ _ _ _ _ _ _ _ _ _ _ _)
      | (with_reducible exact ih7 _ _ _ _ _ _ _ _ _ _)
      | (with_reducible exact ih8 _ _ _ _ _ _ _ _ _ _)
      | (with_reducible exact ih9 _ _ _ _ _ _ _ _ _ _)
      | (with_reducible exact ih10 _ _ _ _ _ _ _ _ _ _ _ _ _)
      | (with_reducible exact ih11 _ _ _ _ _ _ _ _ _ _ _ _ _ _)
      | (with_reducible exact ih12 _ _ _ _ _ _ _ _ _ _ _)
      | (with_reducible exact ih13 _ _ _ _ _ _ _ _ _ _)
      | (with_reducible exact estoverslaw32_awake.mono _)
      | (with_reducible exact slots_Used.mono _ _)
      | (with_reducible exact LeO.refl _)
      | (with_reducible exact LeO.none _)
      | (with_reducible refine LeO.ite ?_ ?_)
      | (with_reducible refine LeO.bind ?_ (fun _ => ?_))
      | exact ih0 _ _ _
      | exact ih1 _ _ _ _ _ _
      | exact ih2 _ _ _ _ _ _ _ _ _ _ _
      | exact ih3 _ _ _ _ _ _
      | exact ih4 _ _ _ _ _ _ _
      | exact ih5 _ _ _ _ _ _ _ _ _ _
      | exact ih6 _ _ _ _ _ _ _ _ _ _ _ _
      | exact ih7 _ _ _ _ _ _ _ _ _ _
      | exact ih8 _ _ _ _ _ _ _ _ _ _
      | exact ih9 _ _ _ _ _ _ _ _ _ _
      | exact ih10 _ _ _ _ _ _ _ _ _ _ _ _ _
      | exact ih11 _ _ _ _ _ _ _ _ _ _ _ _ _ _
      | exact ih12 _ _ _ _ _ _ _ _ _ _ _
      | exact ih13 _ _ _ _ _ _ _ _ _ _
      | exact estoverslaw32_awake.mono _
      | exact slots_Used.mono _ _
      | exact LeO.none _
      | refine LeO.ite ?_ ?_
      | refine LeO.bind ?_ (fun _ => ?_)
    · intro y0 y1 y2 y3 y4 y5 y6 y7 y8 y9 y10 y11 y12 y13
      unfold estoverslaw32_SlotsReferences.j7
      repeat' first
      | (with_reducible exact ih0 _ _ _)
      | (with_reducible exact ih1 _ _ _ _ _ _)
      | (with_reducible exact ih2 _ _ _ _ _ _ _ _ _ _ _)
      | (with_reducible exact ih3 _ _ _ _ _ _)
      | (with_reducible exact ih4 _ _ _ _ _ _ _)
      | (with_reducible exact ih5 _ _ _ _ _ _ _ _ _ _)
      | (with_reducible exact ih6 _ _ _ _ _ _ _ _ _ _ _ _)
      | (with_reducible exact ih7 _ _ _ _ _ _ _ _ _ _)
      | (with_reducible exact ih8 _ _ _ _ _ _ _ _ _ _)
      | (with_reducible exact ih9 _ _ _ _ _ _ _ _ _ _)
      | (with_reducible exact ih10 _ _ _ _ _ _ _ _ _ _ _ _ _)
      | (with_reducible exact ih11 _ _ _ _ _ _ _ _ _ _ _ _ _ _)
      | (with_reducible exact ih12 _ _ _ _ _ _ _ _ _ _ _)
      | (with_reducible exact ih13 _ _ _ _ _ _ _ _ _ _)
      | (with_reducible exact estoverslaw32_awake.mono _)
      | (with_reducible exact slots_Used.mono _ _)
      | (with_reducible exact LeO.refl _)
      | (with_reducible exact LeO.none _)
      | (with_reducible refine LeO.ite ?_ ?_)
      | (with_reducible refine LeO.bind ?_ (fun _ => ?_))
      | exact ih0 _ _ _
      | exact ih1 _ _ _ _ _ _
      | exact ih2 _ _ _ _ _ _ _ _ _ _ _
      | exact ih3 _ _ _ _ _ _
      | exact ih4 _ _ _ _ _ _ _
      | exact ih5 _ _ _ _ _ _ _ _ _ _
      | exact ih6 _ _ _ _ _ _ _ _ _ _ _ _
      | exact ih7 _ _ _ _ _ _ _ _ _ _
      | exact ih8 _ _ _ _ _ _ _ _ _ _
      | exact ih9 _ _ _ _ _ _ _ _ _ _
      | exact ih10 _ _ _ _ _ _ _ _ _ _ _ _ _
      | exact ih11 _ _ _ _ _ _ _ _ _ _ _ _ _ _
      | exact ih12 _ _ _ _ _ _ _ _ _ _ _
      | exact ih13 _ _ _ _ _ _ _ _ _ _
      | exact estoverslaw32_awake.mono _
      | exact slots_Used.mono _ _
      | exact LeO.none _
      | refine LeO.ite ?_ ?_
      | refine LeO.bind ?_ (fun _ => ?_)
    · intro y0 y1 y2 y3 y4 y5 y6 y7 y8 y9 y10
      unfold estoverslaw32_SlotsReferences.j8
      repeat' first
      | (with_reducible exact ih0 _ _ _)
      | (with_reducible exact ih1 _ _ _ _ _ _)
      | (with_reducible exact ih2 _ _ _ _ _ _ _ _ _ _ _)
      | (with_reducible exact ih3 _ _ _ _ _ _)
      | (with_reducible exact ih4 _ _ _ _ _ _ _)
      | (with_reducible exact ih5 _ _ _ _ _ _ _ _ _ _)
      | (with_reducible exact ih6 _ _ _ _ _ _ _ _ _ _ _ _)
      | (with_reducible exact ih7 _ _ _ _ _ _ _ _ _ _)
      | (with_reducible exact ih8 _ _ _ _ _ _ _ _ _ _)
      | (with_reducible exact ih9 _ _ _ _ _ _ _ _ _ _)
      | (with_reducible exact ih10 _ _ _ _ _ _ _ _ _ _ _ _ _)
      | (with_reducible exact ih11 _ _ _ _ _ _ _ _ _ _ _ _ _ _)
      | (with_reducible exact ih12 _ _ _ _ _ _ _ _ _ _ _)
      | (with_reducible exact ih13 _ _ _ _ _ _ _ _ _ _)
      | (with_reducible exact estoverslaw32_awake.mono _)
      | (with_reducible exact slots_Used.mono _ _)
      | (with_reducible exact LeO.refl _)
      | (with_reducible exact LeO.none _)
      | (with_reducible refine LeO.ite ?_ ?_)
      | (with_reducible refine LeO.bind ?_ (fun _ => ?_))
      | exact ih0 _ _ _
      | exact ih1 _ _ _ _ _ _
      | exact ih2 _ _ _ _ _ _ _ _ _ _ _
      | exact ih3 _ _ _ _ _ _
      | exact ih4 _ _ _ _ _ _ _
      | exact ih5 _ _ _ _ _ _ _ _ _ _
      | exact ih6 _ _ _ _ _ _ _ _ _ _ _ _
      | exact ih7 _ _ _ _ _ _ _ _ _ _
      | exact ih8 _ _ _ _ _ _ _ _ _ _
      | exact ih9 _ _ _ _ _ _ _ _ _ _
      | exact ih10 _ _ _ _ _ _ _ _ _ _ _ _ _
      | exact ih11 _ _ _ _ _ _ _ _ _ _ _ _ _ _
      | exact ih12 _ _ _ _ _ _ _ _ _ _ _
      | exact ih13 _ _ _ _ _ _ _ _ _ _
      | exact estoverslaw32_awake.mono _
      | exact slots_Used.mono _ _
      | exact LeO.none _
      | refine LeO.ite ?_ ?_
      | refine LeO.bind ?_ (fun _ => ?_)
    · intro y0 y1 y2 y3 y4 y5 y6 y7 y8 y9
      unfold estoverslaw32_SlotsReferences.j9
      repeat' first
      | (with_reducible exact ih0 _ _ _)
      | (with_reducible exact ih1 _ _ _ _ _ _)
      | (with_reducible exact ih2 _ _ _ _ _ _ _ _ _ _ _)
      | (with_reducible exact ih3 _ _ _ _ _ _)
      | (with_reducible exact ih4 _ _ _ _ _ _ _)
      | (with_reducible exact ih5 _ _ _ _ _ _ _ _ _ _)
      | (with_reducible exact ih6 _ _ _ _ _ _ _ _ _ _ _ _)
      | (with_reducible exact ih7 _ _ _ _ _ _ _ _ _ _)
      | (with_reducible exact ih8 _ _ _ _ _ _ _ _ _ _)
      | (with_reducible exact ih9 _ _ _ _ _ _ _ _ _ _)
      | (with_reducible exact ih10 _ _ _ _ _ _ _ _ _ _ _ _ _)
      | (with_reducible exact ih11 _ _ _ _ _ _ _ _ _ _ _ _ _ _)
      | (with_reducible exact ih12 _ _ _ _ _ _ _ _ _ _ _)
      | (with_reducible exact ih13 _ _ _ _ _ _ _ _ _ _)
      | (with_reducible exact estoverslaw32_awake.mono _)
      | (with_reducible exact slots_Used.mono _ _)
      | (with_reducible exact LeO.refl _)
      | (with_reducible exact LeO.none _)
      | (with_reducible refine LeO.ite ?_ ?_)
      | (with_reducible refine LeO.bind ?_ (fun _ => ?_))
      | exact ih0 _ _ _
      | exact ih1 _ _ _ _ _ _
      | exact ih2 _ _ _ _ _ _ _ _ _ _ _
      | exact ih3 _ _ _ _ _ _
      | exact ih4 _ _ _ _ _ _ _
      | exact ih5 _ _ _ _ _ _ _ _ _ _
      | exact ih6 _ _ _ _ _ _ _ _ _ _ _ _
      | exact ih7 _ _ _ _ _ _ _ _ _ _
      | exact ih8 _ _ _ _ _ _ _ _ _ _
      | exact ih9 _ _ _ _ _ _ _ _ _ _
      | exact ih10 _ _ _ _ _ _ _ _ _ _ _ _ _
      | exact ih11 _ _ _ _ _ _ _ _ _ _ _ _ _ _
      | exact ih12 _ _ _ _ _ _ _ _ _ _ _
      | exact ih13 _ _ _ _ _ _ _ _ _ _
      | exact estoverslaw32_awake.mono _
      | exact slots_Used.mono _ _
      | exact LeO.none _
      | refine LeO.ite ?_ ?_
      | refine LeO.bind ?_ (fun _ => ?_)
theorem estoverslaw32_SlotsReferences.mono : ∀ a0 a1 k, LeO (estoverslaw32_SlotsReferences.f k a0 a1) (estoverslaw32_SlotsReferences.f (k + 1) a0 a1) := by
  intro a0 a1 k
  obtain ⟨ih0, ih1, ih2, ih3, ih4, ih5, ih6, ih7, ih8, ih9, ih10, ih11, ih12, ih13⟩ := estoverslaw32_SlotsReferences.mono_l k
  unfold estoverslaw32_SlotsReferences.f
  repeat' first
      | (with_reducible exact ih0 _ _ _)
      | (with_reducible exact ih1 _ _ _ _ _ _)
      | (with_reducible exact ih2 _ _ _ _ _ _ _ _ _ _ _)
      | (with_reducible exact ih3 _ _ _ _ _ _)
      | (with_reducible exact ih4 _ _ _ _ _ _ _)
      | (with_reducible exact ih5 _ _ _ _ _ _ _ _ _ _)
      | (with_reducible exact ih6 _ _ _ _ _ _ _ _ _ _ _ _)
      | (with_reducible exact ih7 _ _ _ _ _ _ _ _ _ _)
      | (with_reducible exact ih8 _ _ _ _ _ _ _ _ _ _)
      | (with_reducible exact ih9 _ _ _ _ _ _ _ _ _ _)
      | (with_reducible exact ih10 _ _ _ _ _ _ _ _ _ _ _ _ _)
      | (with_reducible exact ih11 _ _ _ _ _ _ _ _ _ _ _ _ _ _)
      | (with_reducible exact ih12 _ _ _ _ _ _ _ _ _ _ _)
      | (with_reducible exact ih13 _ _ _ _ _ _ _ _ _ _)
      | (with_reducible exact estoverslaw32_awake.mono _)
      | (with_reducible exact slots_Used.mono _ _)
      | (with_reducible exact LeO.refl _)
      | (with_reducible exact LeO.none _)
      | (with_reducible refine LeO.ite ?_ ?_)
      | (with_reducible refine LeO.bind ?_ (fun _ => ?_))
      | exact ih0 _ _ _
      | exact ih1 _ _ _ _ _ _
      | exact ih2 _ _ _ _ _ _ _ _ _ _ _
      | exact ih3 _ _ _ _ _ _
      | exact ih4 _ _ _ _ _ _ _
      | exact ih5 _ _ _ _ _ _ _ _ _ _
      | exact ih6 _ _ _ _ _ _ _ _ _ _ _ _
      | exact ih7 _ _ _ _ _ _ _ _ _ _
      | exact ih8 _ _ _ _ _ _ _ _ _ _
      | exact ih9 _ _ _ _ _ _ _ _ _ _
      | exact ih10 _ _ _ _ _ _ _ _ _ _ _ _ _
      | exact ih11 _ _ _ _ _ _ _ _ _ _ _ _ _ _
      | exact ih12 _ _ _ _ _ _ _ _ _ _ _
      | exact ih13 _ _ _ _ _ _ _ _ _ _
      | exact estoverslaw32_awake.mono _
      | exact slots_Used.mono _ _
      | exact LeO.none _
      | refine LeO.ite ?_ ?_
      | refine LeO.bind ?_ (fun _ => ?_)
def estoverslaw32_SlotsReferences.T53 : Bool × List (List Nat × List Nat) := (true, [([], []), ([0], [0]), ([], []), ([], []), ([2, 3], [2, 3]), ([4], [4]), ([1, 5], [1, 5]), ([6], [6]), ([7], [7]), ([7], [7]), ([8, 9, 7, 7], [7, 8, 9]), ([7], [7]), ([7], [7]), ([11, 12, 7], [7, 11, 12]), ([13, 7], [7, 13]), ([10, 14, 7], [7, 10, 14]), ([7, 15], [7, 15])])
def estoverslaw32_SlotsReferences.B53 : List Nat := [0, 1, 0, 0, 12, 28, 63, 127, 255, 255, 1023, 255, 255, 6399, 14591, 32767, 65535]
theorem estoverslaw32_SlotsReferences.tab53 : rtab .any (opsOf Try.f4 53) = estoverslaw32_SlotsReferences.T53 := by kernel_rfl
theorem estoverslaw32_SlotsReferences.bits53 : waitsOk estoverslaw32_SlotsReferences.T53.2 estoverslaw32_SlotsReferences.B53 = true := by kernel_rfl
set_option maxHeartbeats 8000000 in
set_option maxRecDepth 100000 in
theorem estoverslaw32_SlotsReferences.calls1 (k : Nat) (a0 : Int) (A1 : Option Addr) (c1 : Nat) (l1 : List (S34)) (r : Bool) (w : World) (hr1 : Kd.C k34 w A1 l1.length l1) (hc1 : l1.length ≤ c1) (hr_ : r = true) (h : estoverslaw32_SlotsReferences.f k a0 l1 = some r) :
    Calls Try.prog 4 #[.int .u8 a0, .slice A1 l1.length c1] w fun e w' => e = .returned (.bool r) ∧ Below w.heap.size w w' := by
  have HRT := Aside0.mk hr_
  clear hr_
  have hu34 := Try.underlying34
  have hu41 := Try.underlying41
  have HR1 := Aside0.mk hr1
  have HC1 := Aside0.mk hc1
  clear hr1 hc1
  have HB := Aside0.mk (Below.refl w.heap.size w)
  have H : ((estoverslaw32_awake.f k).bind fun t188 => (if t188 = true then (estoverslaw32_SlotsReferences.j0 k a0 l1 (decide ((l1.length : Int) > 60))) else (estoverslaw32_SlotsReferences.j0 k a0 l1 true))) = some r := h
  clear h
  have HC3 := Aside0.mk H
  clear H
  go_enter Try.func4, Try.ntmps4
  go_upto_region 1 with (fail)
  go_cut [35] (fun v35 wc => ∃ (kq : Nat) (x35_2 : Bool), v35 = .bool x35_2 ∧ Aside0 (estoverslaw32_SlotsReferences.j0 kq a0 l1 x35_2 = some r) ∧ Aside0 (kq ≤ k) ∧ Aside0 (Below w.heap.size w wc))
  case first =>
    have H := HC3.out
    clear HC3
    replace H := Option.bind_eq_some_iff.mp H
    obtain ⟨t188, A40, H⟩ := H
    replace H : (if t188 = true then (estoverslaw32_SlotsReferences.j0 k a0 l1 (decide ((l1.length : Int) > 60))) else (estoverslaw32_SlotsReferences.j0 k a0 l1 true)) = some r := H
    have A4 := Aside0.mk A40
    clear A40
    by_cases c5 : t188 = true
    · subst c5
      (have H1 : (estoverslaw32_SlotsReferences.j0 k a0 l1 (decide ((l1.length : Int) > 60))) = some r := by rw [if_pos rfl] at H; exact H); (clear H); (have H := H1); (clear H1); (have H' := Aside0.mk H); (clear H)
      go_wp2_with (first | ((with_reducible refine gate_callee (f := 9) rfl ?_); refine goesL_ (some 29) rfl rfl Try.func9 (by kernel_rfl) rfl #[] rfl (by (try simp only [List.map_toArray, List.map_cons, List.map_nil]); first | done | rfl | (simp only [List.length_drop, List.length_take]; rfl)) ?_; (with_reducible refine (estoverslaw32_awake.calls k  true _ A4.out).mono ?_); rintro e w6 ⟨rfl, hb⟩; refine ⟨_, rfl, ?_⟩; have n0_ := Aside0.mk (below_step (by repeat (first | (with_reducible first | exact HB.out | apply below_alloc | apply pw_below_drewN | apply below_drew1) | exact HB.out)) hb); clear HB; have HB := n0_; clear n0_; (try clear hb); (try clear hb2); (try clear hk); (try clear hi)))
      go_meet
      case rel => exact ⟨_, (decide ((l1.length : Int) > 60)), (by first | rfl | (simp; done) | (simp [*]; done)), H', ⟨by first | omega | exact Nat.le_refl _⟩, ⟨by repeat (first | (with_reducible first | exact HB.out | apply below_alloc | apply pw_below_drewN | apply below_drew1) | exact HB.out)⟩⟩
    replace c5 := Bool.eq_false_iff.mpr c5
    subst c5
    have H1 : (estoverslaw32_SlotsReferences.j0 k a0 l1 true) = some r := by rw [if_neg (show ¬ (false = true) by decide)] at H; exact H
    clear H
    have H := H1
    clear H1
    have H' := Aside0.mk H
    clear H
    go_wp2_with (first | ((with_reducible refine gate_callee (f := 9) rfl ?_); refine goesL_ (some 29) rfl rfl Try.func9 (by kernel_rfl) rfl #[] rfl (by (try simp only [List.map_toArray, List.map_cons, List.map_nil]); first | done | rfl | (simp only [List.length_drop, List.length_take]; rfl)) ?_; (with_reducible refine (estoverslaw32_awake.calls k  false _ A4.out).mono ?_); rintro e w7 ⟨rfl, hb⟩; refine ⟨_, rfl, ?_⟩; have n0_ := Aside0.mk (below_step (by repeat (first | (with_reducible first | exact HB.out | apply below_alloc | apply pw_below_drewN | apply below_drew1) | exact HB.out)) hb); clear HB; have HB := n0_; clear n0_; (try clear hb); (try clear hb2); (try clear hk); (try clear hi)))
    go_meet
    case rel => exact ⟨_, (true), (by first | rfl | (simp; done) | (simp [*]; done)), H', ⟨by first | omega | exact Nat.le_refl _⟩, ⟨by repeat (first | (with_reducible first | exact HB.out | apply below_alloc | apply pw_below_drewN | apply below_drew1) | exact HB.out)⟩⟩
  case rest => as_aux_lemma =>
    clear HC3
    try clear c1
    try clear p2
    try clear c4
    try clear c5
    obtain ⟨kq, x35_2, rfl, HA, HJ2, HB⟩ := hcut
    cases kq with
    | zero => exact absurd HA.out (by simp [estoverslaw32_SlotsReferences.j0])
    | succ kj2 =>
      (have H := HA.out); (clear HA); (simp only [estoverslaw32_SlotsReferences.j0] at H)
      by_cases c8 : x35_2 = true
      · subst c8
        (have H1 : ((estoverslaw32_awake.f kj2).bind fun t189 => (some t189)) = some r := by rw [if_pos rfl] at H; exact H); (clear H); (have H := H1); (clear H1); (replace H := Option.bind_eq_some_iff.mp H); (obtain ⟨t189, A90, H⟩ := H); (replace H : (some t189) = some r := H); (have A9 := Aside0.mk A90); (clear A90); (obtain rfl := Option.some.inj H)
        go_wp2_with (first | ((with_reducible refine gate_callee (f := 9) rfl ?_); refine goesL_ (some 36) rfl rfl Try.func9 (by kernel_rfl) rfl #[] rfl (by (try simp only [List.map_toArray, List.map_cons, List.map_nil]); first | done | rfl | (simp only [List.length_drop, List.length_take]; rfl)) ?_; (with_reducible refine (estoverslaw32_awake.calls kj2  t189 _ A9.out).mono ?_); rintro e w10 ⟨rfl, hb⟩; refine ⟨_, rfl, ?_⟩; have n0_ := Aside0.mk (below_step (by repeat (first | (with_reducible first | exact HB.out | apply below_alloc | apply pw_below_drewN | apply below_drew1) | exact HB.out)) hb); clear HB; have HB := n0_; clear n0_; (try clear hb); (try clear hb2); (try clear hk); (try clear hi)))
        go_ret
        exact ⟨by first | rfl | (simp [errW_none, errW_some] <;> rfl) | (simp [*, errW_none, errW_some] <;> rfl), by repeat (first | (with_reducible first | exact HB.out | apply below_alloc | apply pw_below_drewN | apply below_drew1) | exact HB.out)⟩
      (replace c8 := Bool.eq_false_iff.mpr c8); (subst c8); (have H1 : ((slots_New.f (Int.tmod (wrap64 (a0)) 9)).bind fun bt190 => (if bt190.2 = 0 then (if 0 ≤ (bt190.1.length : Int) then (if ((bt190.1.length : Int) : Int).toNat ≤ 35184372088832 then (if ((bt190.1.length : Int) : Int).toNat ≤ 281474976710656 then (estoverslaw32_SlotsReferences.l0 kj2 bt190.1 (List.replicate ((bt190.1.length : Int) : Int).toNat 0) (List.replicate ((bt190.1.length : Int) : Int).toNat false) l1 (l1.length : Int) 0) else (none)) else (none)) else (none)) else (some false))) = some r := by rw [if_neg (show ¬ (false = true) by decide)] at H; exact H); (clear H); (have H := H1); (clear H1); (replace H := Option.bind_eq_some_iff.mp H); (obtain ⟨⟨t190, t191⟩, A110, H⟩ := H); (replace H : (if t191 = 0 then (if 0 ≤ (t190.length : Int) then (if ((t190.length : Int) : Int).toNat ≤ 35184372088832 then (if ((t190.length : Int) : Int).toNat ≤ 281474976710656 then (estoverslaw32_SlotsReferences.l0 kj2 t190 (List.replicate ((t190.length : Int) : Int).toNat 0) (List.replicate ((t190.length : Int) : Int).toNat false) l1 (l1.length : Int) 0) else (none)) else (none)) else (none)) else (some false)) = some r := H); (have A11 := Aside0.mk A110); (clear A110)
      by_cases c12 : t191 = 0
      rotate_left
      · rw [if_neg c12] at H
        exact absurd ((Option.some.inj H).trans HRT.out) (by decide)
      (rw [if_pos c12] at H); (have c12b0 : (t191 == 0) = true := beq_iff_eq.mpr c12); (have c12b1 : (t191 != 0) = false := bne_eq_false_iff_eq.mpr c12); (clear c12)
      by_cases c13 : 0 ≤ (t190.length : Int)
      rotate_left
      · rw [if_neg c13] at H
        exact absurd H (by simp)
      (rw [if_pos c13] at H); (have c13b0 := eq_true c13); (have c13b1 : decide (0 ≤ (t190.length : Int)) = true := decide_eq_true c13); (clear c13)
      by_cases c14 : ((t190.length : Int) : Int).toNat ≤ 35184372088832
      rotate_left
      · rw [if_neg c14] at H
        exact absurd H (by simp)
      (rw [if_pos c14] at H); (have c14b0 := eq_true c14); (have c14b1 : decide (((t190.length : Int) : Int).toNat ≤ 35184372088832) = true := decide_eq_true c14); (clear c14); (obtain ⟨y194, hy194⟩ : ∃ y_ : List Int, y_ = (List.replicate ((t190.length : Int) : Int).toNat 0) := ⟨_, rfl⟩); (replace H : (if ((t190.length : Int) : Int).toNat ≤ 281474976710656 then (estoverslaw32_SlotsReferences.l0 kj2 t190 y194 (List.replicate ((t190.length : Int) : Int).toNat false) l1 (l1.length : Int) 0) else (none)) = some r := by first | (rw [hy194]; with_reducible exact H) | (have H2_ := (Option.bind_some _ _).symm.trans H; rw [hy194]; with_reducible exact H2_) | (have H2_ := (Option.bind_some _ _).symm.trans H; with_reducible exact H2_) | with_reducible exact H | (rw [hy194]; exact H) | exact H); (have Ny194 := Aside0.mk hy194); (clear hy194)
      by_cases c15 : ((t190.length : Int) : Int).toNat ≤ 281474976710656
      rotate_left
      · rw [if_neg c15] at H
        exact absurd H (by simp)
      (rw [if_pos c15] at H); (have c15b0 := eq_true c15); (have c15b1 : decide (((t190.length : Int) : Int).toNat ≤ 281474976710656) = true := decide_eq_true c15); (clear c15); (obtain ⟨y197, hy197⟩ : ∃ y_ : List Bool, y_ = (List.replicate ((t190.length : Int) : Int).toNat false) := ⟨_, rfl⟩); (replace H : (estoverslaw32_SlotsReferences.l0 kj2 t190 y194 y197 l1 (l1.length : Int) 0) = some r := by first | (rw [hy197]; with_reducible exact H) | (have H2_ := (Option.bind_some _ _).symm.trans H; rw [hy197]; with_reducible exact H2_) | (have H2_ := (Option.bind_some _ _).symm.trans H; with_reducible exact H2_) | with_reducible exact H | (rw [hy197]; exact H) | exact H); (have Ny197 := Aside0.mk hy197); (clear hy197); (have H' := Aside0.mk H); (clear H)
      go_wp2_with (first | ((with_reducible refine gate_callee (f := 10) rfl ?_); refine goesL_ (some 41) rfl rfl Try.func10 (by kernel_rfl) rfl #[.int .i64 (Int.tmod (wrap64 (a0)) 9)] rfl (by (try simp only [List.map_toArray, List.map_cons, List.map_nil]); first | done | rfl | (simp only [List.length_drop, List.length_take]; rfl)) ?_; (with_reducible refine (slots_New.calls (Int.tmod (wrap64 (a0)) 9) t190 t191 _ A11.out).mono ?_); rintro e w16 ⟨v192, rfl, ho0, hb⟩; refine ⟨_, rfl, ?_⟩; have n0_ := Aside0.mk (Kd.R_lower ho0 (below_size (by repeat (first | (with_reducible first | exact HB.out | apply below_alloc | apply pw_below_drewN | apply below_drew1) | exact HB.out)))); have n1_ := Aside0.mk (below_step (by repeat (first | (with_reducible first | exact HB.out | apply below_alloc | apply pw_below_drewN | apply below_drew1) | exact HB.out)) hb); clear HB; have HO193 := n0_; have HB := n1_; clear n0_ n1_; (try clear hb); (try clear hb2); (try clear hk); (try clear hi); (try clear ho0); obtain ⟨Ao17, co17, eo17⟩ := Kd.R_slice HO193.out; subst eo17) | ((with_reducible refine gate_dst (N := 48) rfl ?_); (try (refine gate_guard (by rfl) ?_; dsimp only)); refine Kd.R_make (Kd.int .i64) _ 3 rfl (N := 48) rfl 31 _ _ rfl (t190.length : Int) rfl rfl Try.underlying31 (.int .i64 0) 8 info3 rfl (by decide) (by omega) 0 (ok := fun _ => True) (okp := fun _ => True) rfl (fun _ hk => hk) trivial (of_decide_eq_true (by first | (with_reducible assumption) | assumption)) (Nat.le_trans (Nat.mul_le_mul_right _ (of_decide_eq_true (by first | (with_reducible assumption) | assumption) : (t190.length : Int).toNat ≤ 35184372088832)) (by omega)) (Below.refl _ _) (Nat.le_refl _) ?_; intro v195 w18 ho19 hb hg_ hnew_; clear hg_ hnew_; (first | rw [← Ny194.out] at ho19 | (simp only [Int.reduceToNat] at ho19; rw [← Ny194.out] at ho19)); have n0_ := Aside0.mk (Kd.R_below (by (with_reducible repeat (first | apply Kd.R_alloc | apply Kd.R_drewN | apply Kd.R_drew)); exact HO193.out) hb); have n1_ := Aside0.mk (Kd.R_lower ho19 (below_size (by repeat (first | (with_reducible first | exact HB.out | apply below_alloc | apply pw_below_drewN | apply below_drew1) | exact HB.out)))); have n2_ := Aside0.mk (below_step (by repeat (first | (with_reducible first | exact HB.out | apply below_alloc | apply pw_below_drewN | apply below_drew1) | exact HB.out)) hb); clear HO193; clear HB; have HO193 := n0_; have HO196 := n1_; have HB := n2_; clear n0_ n1_ n2_; clear hb ho19) | ((with_reducible refine gate_dst (N := 51) rfl ?_); (try (refine gate_guard (by rfl) ?_; dsimp only)); refine Kd.R_make Kd.bool _ 4 rfl (N := 51) rfl 32 _ _ rfl (t190.length : Int) rfl rfl Try.underlying32 (.bool false) 1 info4 rfl (by decide) (by omega) false (ok := fun _ => True) (okp := fun _ => True) rfl (fun _ hk => hk) trivial (of_decide_eq_true (by first | (with_reducible assumption) | assumption)) (Nat.le_trans (Nat.mul_le_mul_right _ (of_decide_eq_true (by first | (with_reducible assumption) | assumption) : (t190.length : Int).toNat ≤ 281474976710656)) (by omega)) (Below.refl _ _) (Nat.le_refl _) ?_; intro v198 w20 ho21 hb hg_ hnew_; clear hg_ hnew_; (first | rw [← Ny197.out] at ho21 | (simp only [Int.reduceToNat] at ho21; rw [← Ny197.out] at ho21)); have n0_ := Aside0.mk (Kd.R_below (by (with_reducible repeat (first | apply Kd.R_alloc | apply Kd.R_drewN | apply Kd.R_drew)); exact HO193.out) hb); have n1_ := Aside0.mk (Kd.R_below (by (with_reducible repeat (first | apply Kd.R_alloc | apply Kd.R_drewN | apply Kd.R_drew)); exact HO196.out) hb); have n2_ := Aside0.mk (Kd.R_lower ho21 (below_size (by repeat (first | (with_reducible first | exact HB.out | apply below_alloc | apply pw_below_drewN | apply below_drew1) | exact HB.out)))); have n3_ := Aside0.mk (below_step (by repeat (first | (with_reducible first | exact HB.out | apply below_alloc | apply pw_below_drewN | apply below_drew1) | exact HB.out)) hb); clear HO193; clear HO196; clear HB; have HO193 := n0_; have HO196 := n1_; have HO199 := n2_; have HB := n3_; clear n0_ n1_ n2_ n3_; clear hb ho21))
      go_loopg [5, 54] kj2 (fun kq v5 v54 w' => ∃ (x5_2 : List (S41)) (x7_2 : List Int) (x8_2 : List Bool) (x54_2 : Int), v54 = .int .i64 x54_2 ∧ Aside0 (estoverslaw32_SlotsReferences.l0 kq x5_2 x7_2 x8_2 l1 (l1.length : Int) x54_2 = some r) ∧ Aside0 (kq ≤ kj2) ∧ Aside0 (Kd.R k41 41 w' w.heap.size (fun _ => True) v5 x5_2) ∧ Aside0 (Kd.R (Kd.int .i64) 3 w' w.heap.size (fun _ => True) v195 x7_2) ∧ Aside0 (Kd.R Kd.bool 4 w' w.heap.size (fun _ => True) v198 x8_2) ∧ Aside0 (Below w.heap.size w w'))
      case atStart => exact ⟨(t190), (y194), (y197), (0), (by first | rfl | (simp; done) | (simp [*]; done)), H', ⟨Nat.le_refl _⟩, ⟨by (with_reducible repeat (first | apply Kd.R_alloc | apply Kd.R_drewN | apply Kd.R_drew)); exact HO193.out⟩, ⟨by (with_reducible repeat (first | apply Kd.R_alloc | apply Kd.R_drewN | apply Kd.R_drew)); exact HO196.out⟩, ⟨by (with_reducible repeat (first | apply Kd.R_alloc | apply Kd.R_drewN | apply Kd.R_drew)); exact HO199.out⟩, ⟨by repeat (first | (with_reducible first | exact HB.out | apply below_alloc | apply pw_below_drewN | apply below_drew1) | exact HB.out)⟩⟩
      case round => as_aux_lemma =>
        (clear H'); (try clear c1); (try clear p2); (try clear c4); (try clear c5); (try clear p6); (try clear c8); (try clear c9); (try clear c10); (try clear c12); (try clear c12b0); (try clear c12b1); (try clear c13); (try clear c13b0); (try clear c13b1); (try clear c14); (try clear c14b0); (try clear c14b1); (try clear c15); (try clear c15b0); (try clear c15b1); (try clear p2); (obtain ⟨x5_2, x7_2, x8_2, x54_2, rfl, HA, HK2, HO_5, HO_7, HO_8, HB⟩ := hrel)
        cases gk with
        | zero => exact absurd HA.out (by simp [estoverslaw32_SlotsReferences.l0])
        | succ k2 =>
          (have H := HA.out); (clear HA); (simp only [estoverslaw32_SlotsReferences.l0] at H)
          by_cases c22 : x54_2 < (l1.length : Int)
          rotate_left
          · rw [if_neg c22] at H
            (have c22b0 : decide (x54_2 < (l1.length : Int)) = false := decide_eq_false c22); (clear c22); (obtain rfl := Option.some.inj H)
            go_wp2
            go_ret
            exact ⟨by first | rfl | (simp [errW_none, errW_some] <;> rfl) | (simp [*, errW_none, errW_some] <;> rfl), by repeat (first | (with_reducible first | exact HB.out | apply below_alloc | apply pw_below_drewN | apply below_drew1) | exact HB.out)⟩
          (rw [if_pos c22] at H); (have c22b0 : decide (x54_2 < (l1.length : Int)) = true := decide_eq_true c22); (clear c22)
          by_cases c23 : 0 ≤ x54_2
          rotate_left
          · rw [if_neg c23] at H
            exact absurd H (by simp)
          (rw [if_pos c23] at H); (have c23b0 : decide (0 ≤ x54_2) = true := decide_eq_true c23); (clear c23)
          by_cases c24 : x54_2 < (l1.length : Int)
          rotate_left
          · rw [if_neg c24] at H
            exact absurd H (by simp)
          (rw [if_pos c24] at H); (have c24b0 : decide (x54_2 < (l1.length : Int)) = true := decide_eq_true c24); (clear c24); (have HC25 := Aside0.mk H); (clear H); (have p200 : 0 ≤ (x54_2 : Int) := of_decide_eq_true (by first | (with_reducible assumption) | assumption)); (have q200 : x54_2 < (l1.length : Int) := of_decide_eq_true (by first | (with_reducible assumption) | assumption)); (obtain ⟨ad200, e200, hx200_0, hx200_1, hx200_2⟩ := at_T34 HR1.out x54_2 p200 q200)
          cases e200
          (replace hx200_0 := (HB.out.cell (World.block_lt_of_cell? w _ hx200_0)).trans hx200_0); (replace hx200_1 := (HB.out.cell (World.block_lt_of_cell? w _ hx200_1)).trans hx200_1); (replace hx200_2 := (HB.out.cell (World.block_lt_of_cell? w _ hx200_2)).trans hx200_2); (replace p200 := eq_true p200); (replace q200 := eq_true q200)
          go_upto_region 12 with (first | ((with_reducible refine gate_dst (N := 10) rfl ?_); (try (refine gate_guard (by rfl) ?_; dsimp only)); refine box_event ?hg (N := 10) ?hd (cs := #[.int .i64 0, .int .i64 0, .int .i64 0]) (t := 34) ?hr ?_; (case hd => rfl); (case hg => rfl); (case hr => first | (go_simp; done) | (go_simp; rfl)); intro gb201 hg w26 hbox hb; have n0_ := Aside0.mk (Kd.R_below (by (with_reducible repeat (first | apply Kd.R_alloc | apply Kd.R_drewN | apply Kd.R_drew)); exact HO_5.out) hb); have n1_ := Aside0.mk (Kd.R_below (by (with_reducible repeat (first | apply Kd.R_alloc | apply Kd.R_drewN | apply Kd.R_drew)); exact HO_7.out) hb); have n2_ := Aside0.mk (Kd.R_below (by (with_reducible repeat (first | apply Kd.R_alloc | apply Kd.R_drewN | apply Kd.R_drew)); exact HO_8.out) hb); have n3_ := Aside0.mk (below_step (by repeat (first | (with_reducible first | exact HB.out | apply below_alloc | apply pw_below_drewN | apply below_drew1) | exact HB.out)) hb); have n4_ := Aside0.mk (hbox); have n5_ := Aside0.mk ((by rw [hg]; exact (below_size (by repeat (first | (with_reducible first | exact HB.out | apply below_alloc | apply pw_below_drewN | apply below_drew1) | exact HB.out))) : w.heap.size ≤ gb201)); have n6_ := Aside0.mk ((by rw [hg]; exact (below_size (by repeat (first | (with_reducible first | exact HB.out | apply below_alloc | apply pw_below_drewN | apply below_drew1) | exact HB.out))) : w.heap.size ≤ gb201)); clear HO_5; clear HO_7; clear HO_8; clear HB; have HO_5 := n0_; have HO_7 := n1_; have HO_8 := n2_; have HB := n3_; have BK201 := n4_; have GW201 := n5_; have GE201 := n6_; clear n0_ n1_ n2_ n3_ n4_ n5_ n6_; clear hb hbox hg; have hcz27_0 : w26.cell? ⟨gb201, 0, none⟩ = some (.int .i64 0) := (blk_cell BK201.out 0).trans rfl; have hcz27_1 : w26.cell? ⟨gb201, 1, none⟩ = some (.int .i64 0) := (blk_cell BK201.out 1).trans rfl; have hcz27_2 : w26.cell? ⟨gb201, 2, none⟩ = some (.int .i64 0) := (blk_cell BK201.out 2).trans rfl; have hfz27_0 := blk_frozen BK201.out 0; have hfz27_1 := blk_frozen BK201.out 1; have hfz27_2 := blk_frozen BK201.out 2))
          (try simp only [Act.put, List.setIfInBounds_toArray, List.set_cons_zero, List.set_cons_succ])
          go_cut [12] (fun v12 wc => ∃ (kq : Nat) (x12_24 : Bool), v12 = .bool x12_24 ∧ Aside0 (estoverslaw32_SlotsReferences.j2 kq x5_2 x7_2 x8_2 ((rd_T34 l1 x54_2).f1) x12_24 l1 (l1.length : Int) x54_2 ((rd_T34 l1 x54_2).f0) ((rd_T34 l1 x54_2).f1) ((rd_T34 l1 x54_2).f2) = some r) ∧ Aside0 (kq ≤ k2) ∧ Aside0 (Kd.R k41 41 wc w.heap.size (fun _ => True) u5 x5_2) ∧ Aside0 (Kd.R (Kd.int .i64) 3 wc w.heap.size (fun _ => True) v195 x7_2) ∧ Aside0 (Kd.R Kd.bool 4 wc w.heap.size (fun _ => True) v198 x8_2) ∧ Aside0 (wc.heap[gb201]? = some (.cells #[.int .i64 ((rd_T34 l1 x54_2).f0), .int .i64 ((rd_T34 l1 x54_2).f1), .int .i64 ((rd_T34 l1 x54_2).f2)] 34 (0, 0))) ∧ Aside0 (Below w.heap.size w wc))
          case first =>
            (have H := HC25.out); (clear HC25)
            by_cases c28 : ((rd_T34 l1 x54_2).f1) ≥ 0
            rotate_left
            · rw [if_neg c28] at H
              (have c28b0 : decide (0 ≤ ((rd_T34 l1 x54_2).f1)) = false := decide_eq_false c28); (clear c28)
              (first | rw [c28b0] | (simp only [i64_w, i32_w]; rw [c28b0]) | skip)
              (have H' := Aside0.mk H); (clear H)
              go_wp2
              go_meet
              case rel => exact ⟨_, (false), (by first | rfl | (simp; done) | (simp [*]; done)), H', ⟨by have := HJ2.out; have := HK2.out; first | omega | exact Nat.le_refl _⟩, ⟨by (with_reducible repeat (first | apply Kd.R_alloc | apply Kd.R_drewN | apply Kd.R_drew)); exact Kd.R_mono (Kd.R_far (p := ⟨gb201, 2, none⟩) (Kd.R_far (p := ⟨gb201, 1, none⟩) (Kd.R_far (p := ⟨gb201, 0, none⟩) (Kd.R_types HO_5.out BK201.out (by decide)) (fun _ hk => hk.2) (.int .i64 ((rd_T34 l1 x54_2).f0))) (fun _ hk => hk.2) (.int .i64 ((rd_T34 l1 x54_2).f1))) (fun _ hk => hk.2) (.int .i64 ((rd_T34 l1 x54_2).f2))) (fun _ hk => trivial)⟩, ⟨by (with_reducible repeat (first | apply Kd.R_alloc | apply Kd.R_drewN | apply Kd.R_drew)); exact Kd.R_mono (Kd.R_far (p := ⟨gb201, 2, none⟩) (Kd.R_far (p := ⟨gb201, 1, none⟩) (Kd.R_far (p := ⟨gb201, 0, none⟩) (Kd.R_types HO_7.out BK201.out (by decide)) (fun _ hk => hk.2) (.int .i64 ((rd_T34 l1 x54_2).f0))) (fun _ hk => hk.2) (.int .i64 ((rd_T34 l1 x54_2).f1))) (fun _ hk => hk.2) (.int .i64 ((rd_T34 l1 x54_2).f2))) (fun _ hk => trivial)⟩, ⟨by (with_reducible repeat (first | apply Kd.R_alloc | apply Kd.R_drewN | apply Kd.R_drew)); exact Kd.R_mono (Kd.R_far (p := ⟨gb201, 2, none⟩) (Kd.R_far (p := ⟨gb201, 1, none⟩) (Kd.R_far (p := ⟨gb201, 0, none⟩) (Kd.R_types HO_8.out BK201.out (by decide)) (fun _ hk => hk.2) (.int .i64 ((rd_T34 l1 x54_2).f0))) (fun _ hk => hk.2) (.int .i64 ((rd_T34 l1 x54_2).f1))) (fun _ hk => hk.2) (.int .i64 ((rd_T34 l1 x54_2).f2))) (fun _ hk => trivial)⟩, ⟨by (with_reducible repeat (first | refine blk_drewN ?_ _ | refine blk_drew ?_ | refine blk_alloc ?_ _)); refine blk_put (cs := #[.int .i64 ((rd_T34 l1 x54_2).f0), .int .i64 ((rd_T34 l1 x54_2).f1), .int .i64 0]) ?_ 2 _ rfl; (with_reducible repeat (first | refine blk_drewN ?_ _ | refine blk_drew ?_ | refine blk_alloc ?_ _)); refine blk_put (cs := #[.int .i64 ((rd_T34 l1 x54_2).f0), .int .i64 0, .int .i64 0]) ?_ 1 _ rfl; (with_reducible repeat (first | refine blk_drewN ?_ _ | refine blk_drew ?_ | refine blk_alloc ?_ _)); refine blk_put (cs := #[.int .i64 0, .int .i64 0, .int .i64 0]) ?_ 0 _ rfl; (with_reducible repeat (first | refine blk_drewN ?_ _ | refine blk_drew ?_ | refine blk_alloc ?_ _)); exact BK201.out⟩, ⟨by repeat (first | (with_reducible first | exact HB.out | apply below_alloc | apply pw_below_drewN | apply below_drew1 | refine below_set ?_ GE201.out) | exact HB.out)⟩⟩
            (rw [if_pos c28] at H); (have c28b0 : decide (0 ≤ ((rd_T34 l1 x54_2).f1)) = true := decide_eq_true c28); (clear c28)
            (first | rw [c28b0] | (simp only [i64_w, i32_w]; rw [c28b0]) | skip)
            by_cases c29 : ((rd_T34 l1 x54_2).f1) < (x7_2.length : Int)
            rotate_left
            · rw [if_neg c29] at H
              (have c29b0 : decide (((rd_T34 l1 x54_2).f1) < (x7_2.length : Int)) = false := decide_eq_false c29); (clear c29); (have H' := Aside0.mk H); (clear H); (obtain ⟨Ao34, co34, eo34⟩ := Kd.R_slice HO_7.out); (subst eo34)
              go_wp2
              go_meet
              case rel => exact ⟨_, (false), (by first | rfl | (simp; done) | (simp [*]; done)), H', ⟨by have := HJ2.out; have := HK2.out; first | omega | exact Nat.le_refl _⟩, ⟨by (with_reducible repeat (first | apply Kd.R_alloc | apply Kd.R_drewN | apply Kd.R_drew)); exact Kd.R_mono (Kd.R_far (p := ⟨gb201, 2, none⟩) (Kd.R_far (p := ⟨gb201, 1, none⟩) (Kd.R_far (p := ⟨gb201, 0, none⟩) (Kd.R_types HO_5.out BK201.out (by decide)) (fun _ hk => hk.2) (.int .i64 ((rd_T34 l1 x54_2).f0))) (fun _ hk => hk.2) (.int .i64 ((rd_T34 l1 x54_2).f1))) (fun _ hk => hk.2) (.int .i64 ((rd_T34 l1 x54_2).f2))) (fun _ hk => trivial)⟩, ⟨by (with_reducible repeat (first | apply Kd.R_alloc | apply Kd.R_drewN | apply Kd.R_drew)); exact Kd.R_mono (Kd.R_far (p := ⟨gb201, 2, none⟩) (Kd.R_far (p := ⟨gb201, 1, none⟩) (Kd.R_far (p := ⟨gb201, 0, none⟩) (Kd.R_types HO_7.out BK201.out (by decide)) (fun _ hk => hk.2) (.int .i64 ((rd_T34 l1 x54_2).f0))) (fun _ hk => hk.2) (.int .i64 ((rd_T34 l1 x54_2).f1))) (fun _ hk => hk.2) (.int .i64 ((rd_T34 l1 x54_2).f2))) (fun _ hk => trivial)⟩, ⟨by (with_reducible repeat (first | apply Kd.R_alloc | apply Kd.R_drewN | apply Kd.R_drew)); exact Kd.R_mono (Kd.R_far (p := ⟨gb201, 2, none⟩) (Kd.R_far (p := ⟨gb201, 1, none⟩) (Kd.R_far (p := ⟨gb201, 0, none⟩) (Kd.R_types HO_8.out BK201.out (by decide)) (fun _ hk => hk.2) (.int .i64 ((rd_T34 l1 x54_2).f0))) (fun _ hk => hk.2) (.int .i64 ((rd_T34 l1 x54_2).f1))) (fun _ hk => hk.2) (.int .i64 ((rd_T34 l1 x54_2).f2))) (fun _ hk => trivial)⟩, ⟨by (with_reducible repeat (first | refine blk_drewN ?_ _ | refine blk_drew ?_ | refine blk_alloc ?_ _)); refine blk_put (cs := #[.int .i64 ((rd_T34 l1 x54_2).f0), .int .i64 ((rd_T34 l1 x54_2).f1), .int .i64 0]) ?_ 2 _ rfl; (with_reducible repeat (first | refine blk_drewN ?_ _ | refine blk_drew ?_ | refine blk_alloc ?_ _)); refine blk_put (cs := #[.int .i64 ((rd_T34 l1 x54_2).f0), .int .i64 0, .int .i64 0]) ?_ 1 _ rfl; (with_reducible repeat (first | refine blk_drewN ?_ _ | refine blk_drew ?_ | refine blk_alloc ?_ _)); refine blk_put (cs := #[.int .i64 0, .int .i64 0, .int .i64 0]) ?_ 0 _ rfl; (with_reducible repeat (first | refine blk_drewN ?_ _ | refine blk_drew ?_ | refine blk_alloc ?_ _)); exact BK201.out⟩, ⟨by repeat (first | (with_reducible first | exact HB.out | apply below_alloc | apply pw_below_drewN | apply below_drew1 | refine below_set ?_ GE201.out) | exact HB.out)⟩⟩
            (rw [if_pos c29] at H); (have c29b0 : decide (((rd_T34 l1 x54_2).f1) < (x7_2.length : Int)) = true := decide_eq_true c29); (clear c29)
            by_cases c30 : 0 ≤ ((rd_T34 l1 x54_2).f1)
            rotate_left
            · rw [if_neg c30] at H
              exact absurd H (by simp)
            (rw [if_pos c30] at H); (have c30b0 : decide (0 ≤ ((rd_T34 l1 x54_2).f1)) = true := decide_eq_true c30); (clear c30)
            by_cases c31 : ((rd_T34 l1 x54_2).f1) < (x8_2.length : Int)
            rotate_left
            · rw [if_neg c31] at H
              exact absurd H (by simp)
            (rw [if_pos c31] at H); (have c31b0 : decide (((rd_T34 l1 x54_2).f1) < (x8_2.length : Int)) = true := decide_eq_true c31); (clear c31); (have H' := Aside0.mk H); (clear H); (obtain ⟨Ao32, co32, eo32⟩ := Kd.R_slice HO_7.out); (subst eo32); (obtain ⟨Ao33, co33, eo33⟩ := Kd.R_slice HO_8.out); (subst eo33); (have p202 : 0 ≤ (((rd_T34 l1 x54_2).f1) : Int) := of_decide_eq_true (by first | (with_reducible assumption) | assumption)); (have q202 : ((rd_T34 l1 x54_2).f1) < (x8_2.length : Int) := of_decide_eq_true (by first | (with_reducible assumption) | assumption)); (obtain ⟨ad202, e202, hx202_0⟩ := Kd.at_bool (Kd.R_reads' HO_8.out).2.2 ((rd_T34 l1 x54_2).f1) p202 q202)
            cases e202
            (have hn202_0 : ad202.block ≠ gb201 := Kd.own_blk (Kd.R_ne HO_8.out BK201.out (by decide))); (have hn202_1 : ad202.block ≠ gb201 := Kd.own_blk (Kd.R_ne HO_8.out BK201.out (by decide))); (have hn202_2 : ad202.block ≠ gb201 := Kd.own_blk (Kd.R_ne HO_8.out BK201.out (by decide))); (replace hx202_0 := (cell_far (p := ⟨gb201, 0, none⟩) (by first | (rw [add_block]; exact hn202_0) | (show (Addr.add _ _).block ≠ _; rw [add_block]; exact hn202_0) | exact hn202_0) (.int .i64 ((rd_T34 l1 x54_2).f0))).trans hx202_0); (replace hx202_0 := (cell_far (p := ⟨gb201, 1, none⟩) (by first | (rw [add_block]; exact hn202_1) | (show (Addr.add _ _).block ≠ _; rw [add_block]; exact hn202_1) | exact hn202_1) (.int .i64 ((rd_T34 l1 x54_2).f1))).trans hx202_0); (replace hx202_0 := (cell_far (p := ⟨gb201, 2, none⟩) (by first | (rw [add_block]; exact hn202_2) | (show (Addr.add _ _).block ≠ _; rw [add_block]; exact hn202_2) | exact hn202_2) (.int .i64 ((rd_T34 l1 x54_2).f2))).trans hx202_0); (clear hn202_0); (clear hn202_1); (clear hn202_2); (replace p202 := eq_true p202); (replace q202 := eq_true q202)
            go_wp2
            go_meet
            case rel => exact ⟨_, (rdOf false x8_2 ((rd_T34 l1 x54_2).f1)), (by first | rfl | (simp; done) | (simp [*]; done)), H', ⟨by have := HJ2.out; have := HK2.out; first | omega | exact Nat.le_refl _⟩, ⟨by (with_reducible repeat (first | apply Kd.R_alloc | apply Kd.R_drewN | apply Kd.R_drew)); exact Kd.R_mono (Kd.R_far (p := ⟨gb201, 2, none⟩) (Kd.R_far (p := ⟨gb201, 1, none⟩) (Kd.R_far (p := ⟨gb201, 0, none⟩) (Kd.R_types HO_5.out BK201.out (by decide)) (fun _ hk => hk.2) (.int .i64 ((rd_T34 l1 x54_2).f0))) (fun _ hk => hk.2) (.int .i64 ((rd_T34 l1 x54_2).f1))) (fun _ hk => hk.2) (.int .i64 ((rd_T34 l1 x54_2).f2))) (fun _ hk => trivial)⟩, ⟨by (with_reducible repeat (first | apply Kd.R_alloc | apply Kd.R_drewN | apply Kd.R_drew)); exact Kd.R_mono (Kd.R_far (p := ⟨gb201, 2, none⟩) (Kd.R_far (p := ⟨gb201, 1, none⟩) (Kd.R_far (p := ⟨gb201, 0, none⟩) (Kd.R_types HO_7.out BK201.out (by decide)) (fun _ hk => hk.2) (.int .i64 ((rd_T34 l1 x54_2).f0))) (fun _ hk => hk.2) (.int .i64 ((rd_T34 l1 x54_2).f1))) (fun _ hk => hk.2) (.int .i64 ((rd_T34 l1 x54_2).f2))) (fun _ hk => trivial)⟩, ⟨by (with_reducible repeat (first | apply Kd.R_alloc | apply Kd.R_drewN | apply Kd.R_drew)); exact Kd.R_mono (Kd.R_far (p := ⟨gb201, 2, none⟩) (Kd.R_far (p := ⟨gb201, 1, none⟩) (Kd.R_far (p := ⟨gb201, 0, none⟩) (Kd.R_types HO_8.out BK201.out (by decide)) (fun _ hk => hk.2) (.int .i64 ((rd_T34 l1 x54_2).f0))) (fun _ hk => hk.2) (.int .i64 ((rd_T34 l1 x54_2).f1))) (fun _ hk => hk.2) (.int .i64 ((rd_T34 l1 x54_2).f2))) (fun _ hk => trivial)⟩, ⟨by (with_reducible repeat (first | refine blk_drewN ?_ _ | refine blk_drew ?_ | refine blk_alloc ?_ _)); refine blk_put (cs := #[.int .i64 ((rd_T34 l1 x54_2).f0), .int .i64 ((rd_T34 l1 x54_2).f1), .int .i64 0]) ?_ 2 _ rfl; (with_reducible repeat (first | refine blk_drewN ?_ _ | refine blk_drew ?_ | refine blk_alloc ?_ _)); refine blk_put (cs := #[.int .i64 ((rd_T34 l1 x54_2).f0), .int .i64 0, .int .i64 0]) ?_ 1 _ rfl; (with_reducible repeat (first | refine blk_drewN ?_ _ | refine blk_drew ?_ | refine blk_alloc ?_ _)); refine blk_put (cs := #[.int .i64 0, .int .i64 0, .int .i64 0]) ?_ 0 _ rfl; (with_reducible repeat (first | refine blk_drewN ?_ _ | refine blk_drew ?_ | refine blk_alloc ?_ _)); exact BK201.out⟩, ⟨by repeat (first | (with_reducible first | exact HB.out | apply below_alloc | apply pw_below_drewN | apply below_drew1 | refine below_set ?_ GE201.out) | exact HB.out)⟩⟩
          case rest => as_aux_lemma =>
            (clear HC25); (try clear c1); (try clear c2); (try clear p2); (try clear q2); (try clear hx2); (try clear c3); (try clear c4); (try clear c5); (try clear p6); (try clear c8); (try clear c9); (try clear c10); (try clear c12); (try clear c12b0); (try clear c12b1); (try clear c13); (try clear c13b0); (try clear c13b1); (try clear c14); (try clear c14b0); (try clear c14b1); (try clear c15); (try clear c15b0); (try clear c15b1); (try clear p20); (try clear q20); (try clear hx20); (try clear c22); (try clear c22b0); (try clear c23); (try clear c23b0); (try clear c24); (try clear c24b0); (try clear c28); (try clear c28b0); (try clear c29); (try clear c29b0); (try clear c30); (try clear c30b0); (try clear c31); (try clear c31b0); (try clear hcz27_0); (try clear hcz27_1); (try clear hcz27_2); (try clear hfz27_0); (try clear hfz27_1); (try clear hfz27_2); (try clear hx200_0); (try clear hx200_1); (try clear hx200_2); (try clear hx202_0); (try clear p2); (try clear p200); (try clear p202); (try clear p6); (try clear q200); (try clear q202); (obtain ⟨kq, x12_24, rfl, HA, HJ24, HO_5, HO_7, HO_8, BK201, HB⟩ := hcut)
            cases kq with
            | zero => exact absurd HA.out (by simp [estoverslaw32_SlotsReferences.j2])
            | succ kj24 =>
              (have H := HA.out); (clear HA); (simp only [estoverslaw32_SlotsReferences.j2] at H); (have HC35 := Aside0.mk H); (clear H); (have hcz36_0 : wc.cell? ⟨gb201, 0, none⟩ = some (.int .i64 ((rd_T34 l1 x54_2).f0)) := (blk_cell BK201.out 0).trans rfl); (have hcz36_1 : wc.cell? ⟨gb201, 1, none⟩ = some (.int .i64 ((rd_T34 l1 x54_2).f1)) := (blk_cell BK201.out 1).trans rfl); (have hcz36_2 : wc.cell? ⟨gb201, 2, none⟩ = some (.int .i64 ((rd_T34 l1 x54_2).f2)) := (blk_cell BK201.out 2).trans rfl); (have hfz36_0 := blk_frozen BK201.out 0); (have hfz36_1 := blk_frozen BK201.out 1); (have hfz36_2 := blk_frozen BK201.out 2)
              go_upto_block 2 with (fail)
              go_cut [5] (fun v5 wc => ∃ (kq : Nat) (x5_34 : List (S41)) (x7_34 : List Int) (x8_34 : List Bool), Aside0 (estoverslaw32_SlotsReferences.j10 kq x5_34 x7_34 x8_34 l1 (l1.length : Int) x54_2 = some r) ∧ Aside0 (kq ≤ kj24) ∧ Aside0 (Kd.R k41 41 wc w.heap.size (fun _ => True) v5 x5_34) ∧ Aside0 (Kd.R (Kd.int .i64) 3 wc w.heap.size (fun _ => True) v195 x7_34) ∧ Aside0 (Kd.R Kd.bool 4 wc w.heap.size (fun _ => True) v198 x8_34) ∧ Aside0 (wc.heap[gb201]? = some (.cells #[.int .i64 ((rd_T34 l1 x54_2).f0), .int .i64 ((rd_T34 l1 x54_2).f1), .int .i64 ((rd_T34 l1 x54_2).f2)] 34 (0, 0))) ∧ Aside0 (Below w.heap.size w wc))
              case first =>
                (have H := HC35.out); (clear HC35)
                by_cases c37 : ((rd_T34 l1 x54_2).f0) = 0
                · rw [if_pos c37] at H
                  (have c37b0 : (((rd_T34 l1 x54_2).f0) == 0) = true := beq_iff_eq.mpr c37); (have c37b1 : (((rd_T34 l1 x54_2).f0) != 0) = false := bne_eq_false_iff_eq.mpr c37); (clear c37)
                  (first | rw [c37b0] | (simp only [i64_w, i32_w]; rw [c37b0]) | skip)
                  (replace H := Option.bind_eq_some_iff.mp H); (obtain ⟨⟨t203, t204, t205⟩, A380, H⟩ := H); (replace H : (estoverslaw32_SlotsReferences.l1 kj24 x5_2 x7_2 x8_2 t203 t204 t205 0 l1 (l1.length : Int) x54_2) = some r := H); (have A38 := Aside0.mk A380); (clear A380); (have HC39 := Aside0.mk H); (clear H); (obtain ⟨Ao40, co40, eo40⟩ := Kd.R_slice HO_5.out); (subst eo40)
                  go_upto_block 3 with (first | ((with_reducible refine gate_callee (f := 19) rfl ?_); refine goesL_ (some 80) rfl rfl Try.func19 (by kernel_rfl) rfl #[.slice Ao40 x5_2.length co40] rfl (by (try simp only [List.map_toArray, List.map_cons, List.map_nil]); first | done | rfl | (simp only [List.length_drop, List.length_take]; rfl)) ?_; (with_reducible refine (slots_Alloc.calls _ _ x5_2 t203 t204 t205 _ ?side1 ?side2 A38.out).mono ?_); (case side1 => repeat (first | exact (Kd.R_reads' HO_5.out).2.2 | (with_reducible refine Kd.C_alloc ?_ _) | (with_reducible refine Kd.C_drewN ?_ _) | (with_reducible refine Kd.C_drew ?_))); (case side2 => exact (Kd.R_reads' HO_5.out).2.1); rintro e w41 ⟨v206, rfl, ho0, hb⟩; refine ⟨_, rfl, ?_⟩; have n0_ := Aside0.mk (Kd.R_elder' (by (with_reducible repeat (first | apply Kd.R_alloc | apply Kd.R_drewN | apply Kd.R_drew)); exact HO_5.out) (Kd.R_base ho0) hb); have n1_ := Aside0.mk (Kd.R_below (by (with_reducible repeat (first | apply Kd.R_alloc | apply Kd.R_drewN | apply Kd.R_drew)); exact HO_7.out) hb); have n2_ := Aside0.mk (Kd.R_below (by (with_reducible repeat (first | apply Kd.R_alloc | apply Kd.R_drewN | apply Kd.R_drew)); exact HO_8.out) hb); have n3_ := Aside0.mk (Kd.R_lower (Kd.R_new' ho0 (Kd.R_lt (by (with_reducible repeat (first | apply Kd.R_alloc | apply Kd.R_drewN | apply Kd.R_drew)); exact HO_5.out))) (below_size (by repeat (first | (with_reducible first | exact HB.out | apply below_alloc | apply pw_below_drewN | apply below_drew1 | refine below_set ?_ GE201.out) | exact HB.out)))); have n4_ := Aside0.mk (blk_below (g := gb201) (o := .cells #[.int .i64 ((rd_T34 l1 x54_2).f0), .int .i64 ((rd_T34 l1 x54_2).f1), .int .i64 ((rd_T34 l1 x54_2).f2)] 34 (0, 0)) (by (with_reducible repeat (first | refine blk_drewN ?_ _ | refine blk_drew ?_ | refine blk_alloc ?_ _)); exact BK201.out) hb); have n5_ := Aside0.mk (below_step (by repeat (first | (with_reducible first | exact HB.out | apply below_alloc | apply pw_below_drewN | apply below_drew1 | refine below_set ?_ GE201.out) | exact HB.out)) hb); clear HO_5; clear HO_7; clear HO_8; clear BK201; clear HB; have HO_5 := n0_; have HO_7 := n1_; have HO_8 := n2_; have HO207 := n3_; have BK201 := n4_; have HB := n5_; clear n0_ n1_ n2_ n3_ n4_ n5_; (try clear hb); (try clear hb2); (try clear hk); (try clear hi); (try clear ho0)))
                  (try simp only [Act.put, List.setIfInBounds_toArray, List.set_cons_zero, List.set_cons_succ])
                  go_cut [16] (fun v16 wc => ∃ (kq : Nat) (x16_38 : Int), v16 = .int .i64 x16_38 ∧ Aside0 (estoverslaw32_SlotsReferences.j4 kq x5_2 x7_2 x8_2 t203 t204 t205 x16_38 l1 (l1.length : Int) x54_2 = some r) ∧ Aside0 (kq ≤ kj24) ∧ Aside0 (Kd.R k41 41 wc w.heap.size (fun k_ => some k_ ≠ (v206 : Value).ownBlock) (.slice Ao40 x5_2.length co40) x5_2) ∧ Aside0 (Kd.R (Kd.int .i64) 3 wc w.heap.size (fun _ => True) v195 x7_2) ∧ Aside0 (Kd.R Kd.bool 4 wc w.heap.size (fun _ => True) v198 x8_2) ∧ Aside0 (Kd.R k41 41 wc w.heap.size (fun k_ => some k_ ≠ ((.slice Ao40 x5_2.length co40) : Value).ownBlock) v206 t203) ∧ Aside0 (wc.heap[gb201]? = some (.cells #[.int .i64 ((rd_T34 l1 x54_2).f0), .int .i64 ((rd_T34 l1 x54_2).f1), .int .i64 ((rd_T34 l1 x54_2).f2)] 34 (0, 0))) ∧ Aside0 (Below w.heap.size w wc))
                  case first =>
                    (have H := HC39.out); (clear HC39); (have H' := Aside0.mk H); (clear H)
                    go_wp2
                    go_loopg [16] kj24 (fun kq v16 w' => ∃ (x16_4 : Int), v16 = .int .i64 x16_4 ∧ Aside0 (estoverslaw32_SlotsReferences.l1 kq x5_2 x7_2 x8_2 t203 t204 t205 x16_4 l1 (l1.length : Int) x54_2 = some r) ∧ Aside0 (kq ≤ kj24) ∧ Aside0 (Kd.R k41 41 w' w.heap.size (fun k_ => some k_ ≠ (v206 : Value).ownBlock) (.slice Ao40 x5_2.length co40) x5_2) ∧ Aside0 (Kd.R (Kd.int .i64) 3 w' w.heap.size (fun _ => True) v195 x7_2) ∧ Aside0 (Kd.R Kd.bool 4 w' w.heap.size (fun _ => True) v198 x8_2) ∧ Aside0 (Kd.R k41 41 w' w.heap.size (fun k_ => some k_ ≠ ((.slice Ao40 x5_2.length co40) : Value).ownBlock) v206 t203) ∧ Aside0 (w'.heap[gb201]? = some (.cells #[.int .i64 ((rd_T34 l1 x54_2).f0), .int .i64 ((rd_T34 l1 x54_2).f1), .int .i64 ((rd_T34 l1 x54_2).f2)] 34 (0, 0))) ∧ Aside0 (Below w.heap.size w w'))
                    case atStart => exact ⟨(0), (by first | rfl | (simp; done) | (simp [*]; done)), H', ⟨Nat.le_refl _⟩, ⟨by (with_reducible repeat (first | apply Kd.R_alloc | apply Kd.R_drewN | apply Kd.R_drew)); exact Kd.R_mono HO_5.out (fun _ hk => hk.2)⟩, ⟨by (with_reducible repeat (first | apply Kd.R_alloc | apply Kd.R_drewN | apply Kd.R_drew)); exact HO_7.out⟩, ⟨by (with_reducible repeat (first | apply Kd.R_alloc | apply Kd.R_drewN | apply Kd.R_drew)); exact HO_8.out⟩, ⟨by (with_reducible repeat (first | apply Kd.R_alloc | apply Kd.R_drewN | apply Kd.R_drew)); exact Kd.R_mono HO207.out (fun _ hk => hk.2)⟩, ⟨by (with_reducible repeat (first | refine blk_drewN ?_ _ | refine blk_drew ?_ | refine blk_alloc ?_ _)); exact BK201.out⟩, ⟨by repeat (first | (with_reducible first | exact HB.out | apply below_alloc | apply pw_below_drewN | apply below_drew1 | refine below_set ?_ GE201.out) | exact HB.out)⟩⟩
                    case round => as_aux_lemma =>
                      (clear H'); (try clear c1); (try clear c2); (try clear p2); (try clear q2); (try clear hx2); (try clear c3); (try clear c4); (try clear c5); (try clear p6); (try clear c8); (try clear c9); (try clear c10); (try clear c12); (try clear c12b0); (try clear c12b1); (try clear c13); (try clear c13b0); (try clear c13b1); (try clear c14); (try clear c14b0); (try clear c14b1); (try clear c15); (try clear c15b0); (try clear c15b1); (try clear c19); (try clear p20); (try clear q20); (try clear hx20); (try clear c22); (try clear c22b0); (try clear c23); (try clear c23b0); (try clear c24); (try clear c24b0); (try clear c28); (try clear c28b0); (try clear c29); (try clear c29b0); (try clear c30); (try clear c30b0); (try clear c31); (try clear c31b0); (try clear c37); (try clear c37b0); (try clear c37b1); (try clear hcz27_0); (try clear hcz27_1); (try clear hcz27_2); (try clear hcz36_0); (try clear hcz36_1); (try clear hcz36_2); (try clear hfz27_0); (try clear hfz27_1); (try clear hfz27_2); (try clear hfz36_0); (try clear hfz36_1); (try clear hfz36_2); (try clear hx200_0); (try clear hx200_1); (try clear hx200_2); (try clear hx202_0); (try clear p2); (try clear p20); (try clear p200); (try clear p202); (try clear p6); (try clear q2); (try clear q20); (try clear q200); (try clear q202); (obtain ⟨x16_4, rfl, HA, HK4, HO_5, HO_7, HO_8, HO_13, BK201, HB⟩ := hrel)
                      cases gk with
                      | zero => exact absurd HA.out (by simp [estoverslaw32_SlotsReferences.l1])
                      | succ k4 =>
                        (have H := HA.out); (clear HA); (simp only [estoverslaw32_SlotsReferences.l1] at H)
                        by_cases c42 : x16_4 < (x8_2.length : Int)
                        rotate_left
                        · rw [if_neg c42] at H
                          (have c42b0 : decide (x16_4 < (x8_2.length : Int)) = false := decide_eq_false c42); (clear c42)
                          (first | rw [c42b0] | (simp only [i64_w, i32_w]; rw [c42b0]) | skip)
                          (have H' := Aside0.mk H); (clear H); (obtain ⟨Ao48, co48, eo48⟩ := Kd.R_slice HO_8.out); (subst eo48)
                          go_wp2
                          go_meet
                          case rel => exact ⟨_, (x16_4), (by first | rfl | (simp; done) | (simp [*]; done)), H', ⟨by have := HJ2.out; have := HK2.out; have := HJ24.out; have := HK4.out; first | omega | exact Nat.le_refl _⟩, ⟨by (with_reducible repeat (first | apply Kd.R_alloc | apply Kd.R_drewN | apply Kd.R_drew)); exact HO_5.out⟩, ⟨by (with_reducible repeat (first | apply Kd.R_alloc | apply Kd.R_drewN | apply Kd.R_drew)); exact HO_7.out⟩, ⟨by (with_reducible repeat (first | apply Kd.R_alloc | apply Kd.R_drewN | apply Kd.R_drew)); exact HO_8.out⟩, ⟨by (with_reducible repeat (first | apply Kd.R_alloc | apply Kd.R_drewN | apply Kd.R_drew)); exact HO_13.out⟩, ⟨by (with_reducible repeat (first | refine blk_drewN ?_ _ | refine blk_drew ?_ | refine blk_alloc ?_ _)); exact BK201.out⟩, ⟨by repeat (first | (with_reducible first | exact HB.out | apply below_alloc | apply pw_below_drewN | apply below_drew1 | refine below_set ?_ GE201.out) | exact HB.out)⟩⟩
                        (rw [if_pos c42] at H); (have c42b0 : decide (x16_4 < (x8_2.length : Int)) = true := decide_eq_true c42); (clear c42)
                        (first | rw [c42b0] | (simp only [i64_w, i32_w]; rw [c42b0]) | skip)
                        by_cases c43 : 0 ≤ x16_4
                        rotate_left
                        · rw [if_neg c43] at H
                          exact absurd H (by simp)
                        (rw [if_pos c43] at H); (have c43b0 : decide (0 ≤ x16_4) = true := decide_eq_true c43); (clear c43); (obtain ⟨bq44, hbq44⟩ : ∃ b_ : Bool, b_ = (rdOf false x8_2 x16_4) := ⟨_, rfl⟩); (replace H : (if bq44 = true then (estoverslaw32_SlotsReferences.l1 k4 x5_2 x7_2 x8_2 t203 t204 t205 (wrap64 (x16_4 + 1)) l1 (l1.length : Int) x54_2) else (estoverslaw32_SlotsReferences.j4 k4 x5_2 x7_2 x8_2 t203 t204 t205 x16_4 l1 (l1.length : Int) x54_2)) = some r := by rw [← hbq44] at H; exact H); (have Nbq44 := Aside0.mk hbq44); (clear hbq44)
                        by_cases c45 : bq44 = true
                        rotate_left
                        · replace c45 := Bool.eq_false_iff.mpr c45
                          (subst c45); (have H1 : (estoverslaw32_SlotsReferences.j4 k4 x5_2 x7_2 x8_2 t203 t204 t205 x16_4 l1 (l1.length : Int) x54_2) = some r := by rw [if_neg (show ¬ (false = true) by decide)] at H; exact H); (clear H); (have H := H1); (clear H1); (have H' := Aside0.mk H); (clear H); (obtain ⟨Ao47, co47, eo47⟩ := Kd.R_slice HO_8.out); (subst eo47); (have p208 : 0 ≤ (x16_4 : Int) := of_decide_eq_true (by first | (with_reducible assumption) | assumption)); (have q208 : x16_4 < (x8_2.length : Int) := of_decide_eq_true (by first | (with_reducible assumption) | assumption)); (obtain ⟨ad208, e208, hx208_0⟩ := Kd.at_bool (Kd.R_reads' HO_8.out).2.2 x16_4 p208 q208)
                          (try rw [← Nbq44.out] at hx208_0)
                          cases e208
                          (replace p208 := eq_true p208); (replace q208 := eq_true q208)
                          go_wp2
                          go_meet
                          case rel => exact ⟨_, (x16_4), (by first | rfl | (simp; done) | (simp [*]; done)), H', ⟨by have := HJ2.out; have := HK2.out; have := HJ24.out; have := HK4.out; first | omega | exact Nat.le_refl _⟩, ⟨by (with_reducible repeat (first | apply Kd.R_alloc | apply Kd.R_drewN | apply Kd.R_drew)); exact HO_5.out⟩, ⟨by (with_reducible repeat (first | apply Kd.R_alloc | apply Kd.R_drewN | apply Kd.R_drew)); exact HO_7.out⟩, ⟨by (with_reducible repeat (first | apply Kd.R_alloc | apply Kd.R_drewN | apply Kd.R_drew)); exact HO_8.out⟩, ⟨by (with_reducible repeat (first | apply Kd.R_alloc | apply Kd.R_drewN | apply Kd.R_drew)); exact HO_13.out⟩, ⟨by (with_reducible repeat (first | refine blk_drewN ?_ _ | refine blk_drew ?_ | refine blk_alloc ?_ _)); exact BK201.out⟩, ⟨by repeat (first | (with_reducible first | exact HB.out | apply below_alloc | apply pw_below_drewN | apply below_drew1 | refine below_set ?_ GE201.out) | exact HB.out)⟩⟩
                        (subst c45); (have H1 : (estoverslaw32_SlotsReferences.l1 k4 x5_2 x7_2 x8_2 t203 t204 t205 (wrap64 (x16_4 + 1)) l1 (l1.length : Int) x54_2) = some r := by rw [if_pos rfl] at H; exact H); (clear H); (have H := H1); (clear H1); (have H' := Aside0.mk H); (clear H); (obtain ⟨Ao46, co46, eo46⟩ := Kd.R_slice HO_8.out); (subst eo46); (have p208 : 0 ≤ (x16_4 : Int) := of_decide_eq_true (by first | (with_reducible assumption) | assumption)); (have q208 : x16_4 < (x8_2.length : Int) := of_decide_eq_true (by first | (with_reducible assumption) | assumption)); (obtain ⟨ad208, e208, hx208_0⟩ := Kd.at_bool (Kd.R_reads' HO_8.out).2.2 x16_4 p208 q208)
                        (try rw [← Nbq44.out] at hx208_0)
                        cases e208
                        (replace p208 := eq_true p208); (replace q208 := eq_true q208)
                        go_wp2
                        go_roundg k4
                        case measure => have := HJ2.out; have := HK2.out; have := HJ24.out; have := HK4.out; omega
                        case rel => exact ⟨(wrap64 (x16_4 + 1)), (by first | rfl | (simp; done) | (simp [*]; done)), H', ⟨by have := HJ2.out; have := HK2.out; have := HJ24.out; have := HK4.out; omega⟩, ⟨by (with_reducible repeat (first | apply Kd.R_alloc | apply Kd.R_drewN | apply Kd.R_drew)); exact HO_5.out⟩, ⟨by (with_reducible repeat (first | apply Kd.R_alloc | apply Kd.R_drewN | apply Kd.R_drew)); exact HO_7.out⟩, ⟨by (with_reducible repeat (first | apply Kd.R_alloc | apply Kd.R_drewN | apply Kd.R_drew)); exact HO_8.out⟩, ⟨by (with_reducible repeat (first | apply Kd.R_alloc | apply Kd.R_drewN | apply Kd.R_drew)); exact HO_13.out⟩, ⟨by (with_reducible repeat (first | refine blk_drewN ?_ _ | refine blk_drew ?_ | refine blk_alloc ?_ _)); exact BK201.out⟩, ⟨by repeat (first | (with_reducible first | exact HB.out | apply below_alloc | apply pw_below_drewN | apply below_drew1 | refine below_set ?_ GE201.out) | exact HB.out)⟩⟩
                  case rest => as_aux_lemma =>
                    (clear HC39); (try clear c1); (try clear c2); (try clear p2); (try clear q2); (try clear hx2); (try clear c3); (try clear c4); (try clear q4); (try clear c5); (try clear p6); (try clear c8); (try clear c9); (try clear c10); (try clear c12); (try clear c12b0); (try clear c12b1); (try clear c13); (try clear c13b0); (try clear c13b1); (try clear c14); (try clear c14b0); (try clear c14b1); (try clear c15); (try clear c15b0); (try clear c15b1); (try clear c19); (try clear p20); (try clear q20); (try clear hx20); (try clear c22); (try clear c22b0); (try clear c23); (try clear c23b0); (try clear c24); (try clear c24b0); (try clear c28); (try clear c28b0); (try clear c29); (try clear c29b0); (try clear c30); (try clear c30b0); (try clear c31); (try clear c31b0); (try clear c37); (try clear c37b0); (try clear c37b1); (try clear c42); (try clear c42b0); (try clear c43); (try clear c43b0); (try clear q44); (try clear c45); (try clear hcz27_0); (try clear hcz27_1); (try clear hcz27_2); (try clear hcz36_0); (try clear hcz36_1); (try clear hcz36_2); (try clear hfz27_0); (try clear hfz27_1); (try clear hfz27_2); (try clear hfz36_0); (try clear hfz36_1); (try clear hfz36_2); (try clear hx200_0); (try clear hx200_1); (try clear hx200_2); (try clear hx202_0); (try clear hx208_0); (try clear p2); (try clear p20); (try clear p200); (try clear p202); (try clear p208); (try clear p6); (try clear q2); (try clear q20); (try clear q200); (try clear q202); (try clear q208); (obtain ⟨kq, x16_38, rfl, HA, HJ38, HO_5, HO_7, HO_8, HO_13, BK201, HB⟩ := hcut)
                    cases kq with
                    | zero => exact absurd HA.out (by simp [estoverslaw32_SlotsReferences.j4])
                    | succ kj38 =>
                      (have H := HA.out); (clear HA); (simp only [estoverslaw32_SlotsReferences.j4] at H); (have HC49 := Aside0.mk H); (clear H)
                      go_upto_region 19 with (fail)
                      go_cut [111] (fun v111 wc => ∃ (kq : Nat) (x111_48 : Bool), v111 = .bool x111_48 ∧ Aside0 (estoverslaw32_SlotsReferences.j5 kq x5_2 x7_2 x8_2 t203 t205 x16_38 l1 (l1.length : Int) x54_2 x111_48 = some r) ∧ Aside0 (kq ≤ kj38) ∧ Aside0 (Kd.R k41 41 wc w.heap.size (fun k_ => some k_ ≠ (v206 : Value).ownBlock) (.slice Ao40 x5_2.length co40) x5_2) ∧ Aside0 (Kd.R (Kd.int .i64) 3 wc w.heap.size (fun _ => True) v195 x7_2) ∧ Aside0 (Kd.R Kd.bool 4 wc w.heap.size (fun _ => True) v198 x8_2) ∧ Aside0 (Kd.R k41 41 wc w.heap.size (fun k_ => some k_ ≠ ((.slice Ao40 x5_2.length co40) : Value).ownBlock) v206 t203) ∧ Aside0 (wc.heap[gb201]? = some (.cells #[.int .i64 ((rd_T34 l1 x54_2).f0), .int .i64 ((rd_T34 l1 x54_2).f1), .int .i64 ((rd_T34 l1 x54_2).f2)] 34 (0, 0))) ∧ Aside0 (Below w.heap.size w wc))
                      case first =>
                        (have H := HC49.out); (clear HC49)
                        by_cases c50 : ((t205 == 0) != (decide (x16_38 < (x8_2.length : Int)))) = true
                        · rw [if_pos c50] at H
                          have c50b0 : ((t205 == 0) != (decide (x16_38 < (x8_2.length : Int)))) = true := c50
                          (try (have c50b1 : decide ((t205 == 0) = (decide (x16_38 < (x8_2.length : Int)))) = false := by simpa using c50))
                          (try (have c50b2 : ((t205 == 0) == (decide (x16_38 < (x8_2.length : Int)))) = false := by simpa using c50))
                          (try (have c50b3 : ¬ ((t205 == 0) = (decide (x16_38 < (x8_2.length : Int)))) := by simpa using c50))
                          clear c50
                          (first | rw [c50b0] | (simp only [i64_w, i32_w]; rw [c50b0]) | skip)
                          (have H' := Aside0.mk H); (clear H); (obtain ⟨Ao51, co51, eo51⟩ := Kd.R_slice HO_8.out); (subst eo51)
                          go_wp2
                          go_meet
                          case rel => exact ⟨_, (true), (by first | rfl | (simp; done) | (simp [*]; done)), H', ⟨by have := HJ2.out; have := HK2.out; have := HJ24.out; have := HJ38.out; first | omega | exact Nat.le_refl _⟩, ⟨by (with_reducible repeat (first | apply Kd.R_alloc | apply Kd.R_drewN | apply Kd.R_drew)); exact HO_5.out⟩, ⟨by (with_reducible repeat (first | apply Kd.R_alloc | apply Kd.R_drewN | apply Kd.R_drew)); exact HO_7.out⟩, ⟨by (with_reducible repeat (first | apply Kd.R_alloc | apply Kd.R_drewN | apply Kd.R_drew)); exact HO_8.out⟩, ⟨by (with_reducible repeat (first | apply Kd.R_alloc | apply Kd.R_drewN | apply Kd.R_drew)); exact HO_13.out⟩, ⟨by (with_reducible repeat (first | refine blk_drewN ?_ _ | refine blk_drew ?_ | refine blk_alloc ?_ _)); exact BK201.out⟩, ⟨by repeat (first | (with_reducible first | exact HB.out | apply below_alloc | apply pw_below_drewN | apply below_drew1 | refine below_set ?_ GE201.out) | exact HB.out)⟩⟩
                        (rw [if_neg c50] at H); (have c50b0 : ((t205 == 0) != (decide (x16_38 < (x8_2.length : Int)))) = false := by simpa using c50)
                        (try (have c50b1 : decide ((t205 == 0) = (decide (x16_38 < (x8_2.length : Int)))) = true := by simpa using c50))
                        (try (have c50b2 : ((t205 == 0) == (decide (x16_38 < (x8_2.length : Int)))) = true := by simpa using c50))
                        clear c50
                        (first | rw [c50b0] | (simp only [i64_w, i32_w]; rw [c50b0]) | skip)
                        by_cases c52 : t205 = 0
                        rotate_left
                        · rw [if_neg c52] at H
                          (have c52b0 : (t205 == 0) = false := beq_eq_false_iff_ne.mpr c52); (have c52b1 : (t205 != 0) = true := bne_iff_ne.mpr c52); (have c52d : decide (x16_38 < (x8_2.length : Int)) = false := by have h_ := c50b0; rw [c52b0] at h_; simpa using h_); (have H' := Aside0.mk H); (clear H); (obtain ⟨Ao54, co54, eo54⟩ := Kd.R_slice HO_8.out); (subst eo54)
                          go_wp2
                          go_meet
                          case rel => exact ⟨_, (false), (by first | rfl | (simp; done) | (simp [*]; done)), H', ⟨by have := HJ2.out; have := HK2.out; have := HJ24.out; have := HJ38.out; first | omega | exact Nat.le_refl _⟩, ⟨by (with_reducible repeat (first | apply Kd.R_alloc | apply Kd.R_drewN | apply Kd.R_drew)); exact HO_5.out⟩, ⟨by (with_reducible repeat (first | apply Kd.R_alloc | apply Kd.R_drewN | apply Kd.R_drew)); exact HO_7.out⟩, ⟨by (with_reducible repeat (first | apply Kd.R_alloc | apply Kd.R_drewN | apply Kd.R_drew)); exact HO_8.out⟩, ⟨by (with_reducible repeat (first | apply Kd.R_alloc | apply Kd.R_drewN | apply Kd.R_drew)); exact HO_13.out⟩, ⟨by (with_reducible repeat (first | refine blk_drewN ?_ _ | refine blk_drew ?_ | refine blk_alloc ?_ _)); exact BK201.out⟩, ⟨by repeat (first | (with_reducible first | exact HB.out | apply below_alloc | apply pw_below_drewN | apply below_drew1 | refine below_set ?_ GE201.out) | exact HB.out)⟩⟩
                        (rw [if_pos c52] at H); (have c52b0 : (t205 == 0) = true := beq_iff_eq.mpr c52); (have c52b1 : (t205 != 0) = false := bne_eq_false_iff_eq.mpr c52); (clear c52); (have c52d : decide (x16_38 < (x8_2.length : Int)) = true := by have h_ := c50b0; rw [c52b0] at h_; simpa using h_); (have H' := Aside0.mk H); (clear H); (obtain ⟨Ao53, co53, eo53⟩ := Kd.R_slice HO_8.out); (subst eo53)
                        go_wp2
                        go_meet
                        case rel => exact ⟨_, ((t204 != x16_38)), (by first | rfl | (simp; done) | (simp [*]; done)), H', ⟨by have := HJ2.out; have := HK2.out; have := HJ24.out; have := HJ38.out; first | omega | exact Nat.le_refl _⟩, ⟨by (with_reducible repeat (first | apply Kd.R_alloc | apply Kd.R_drewN | apply Kd.R_drew)); exact HO_5.out⟩, ⟨by (with_reducible repeat (first | apply Kd.R_alloc | apply Kd.R_drewN | apply Kd.R_drew)); exact HO_7.out⟩, ⟨by (with_reducible repeat (first | apply Kd.R_alloc | apply Kd.R_drewN | apply Kd.R_drew)); exact HO_8.out⟩, ⟨by (with_reducible repeat (first | apply Kd.R_alloc | apply Kd.R_drewN | apply Kd.R_drew)); exact HO_13.out⟩, ⟨by (with_reducible repeat (first | refine blk_drewN ?_ _ | refine blk_drew ?_ | refine blk_alloc ?_ _)); exact BK201.out⟩, ⟨by repeat (first | (with_reducible first | exact HB.out | apply below_alloc | apply pw_below_drewN | apply below_drew1 | refine below_set ?_ GE201.out) | exact HB.out)⟩⟩
                      case rest => as_aux_lemma =>
                        (clear HC49); (try clear c1); (try clear c2); (try clear p2); (try clear q2); (try clear hx2); (try clear c3); (try clear c4); (try clear q4); (try clear c5); (try clear p6); (try clear c8); (try clear c9); (try clear c10); (try clear c12); (try clear c12b0); (try clear c12b1); (try clear c13); (try clear c13b0); (try clear c13b1); (try clear c14); (try clear c14b0); (try clear c14b1); (try clear c15); (try clear c15b0); (try clear c15b1); (try clear c19); (try clear p20); (try clear q20); (try clear hx20); (try clear c22); (try clear c22b0); (try clear c23); (try clear c23b0); (try clear c24); (try clear c24b0); (try clear c28); (try clear c28b0); (try clear c29); (try clear c29b0); (try clear c30); (try clear c30b0); (try clear c31); (try clear c31b0); (try clear c37); (try clear c37b0); (try clear c37b1); (try clear c42); (try clear c42b0); (try clear c43); (try clear c43b0); (try clear q44); (try clear c45); (try clear c50); (try clear c50b0); (try clear c50b1); (try clear c50b2); (try clear c52); (try clear c52b0); (try clear c52b1); (try clear hcz27_0); (try clear hcz27_1); (try clear hcz27_2); (try clear hcz36_0); (try clear hcz36_1); (try clear hcz36_2); (try clear hfz27_0); (try clear hfz27_1); (try clear hfz27_2); (try clear hfz36_0); (try clear hfz36_1); (try clear hfz36_2); (try clear hx200_0); (try clear hx200_1); (try clear hx200_2); (try clear hx202_0); (try clear hx208_0); (try clear p2); (try clear p20); (try clear p200); (try clear p202); (try clear p208); (try clear p6); (try clear q2); (try clear q20); (try clear q200); (try clear q202); (try clear q208); (try clear q4); (try clear q44); (obtain ⟨kq, x111_48, rfl, HA, HJ48, HO_5, HO_7, HO_8, HO_13, BK201, HB⟩ := hcut)
                        cases kq with
                        | zero => exact absurd HA.out (by simp [estoverslaw32_SlotsReferences.j5])
                        | succ kj48 =>
                          (have H := HA.out); (clear HA); (simp only [estoverslaw32_SlotsReferences.j5] at H)
                          by_cases c55 : x111_48 = true
                          · rw [if_pos c55] at H
                            exact absurd ((Option.some.inj H).trans HRT.out) (by decide)
                          (replace c55 := Bool.eq_false_iff.mpr c55); (subst c55); (have H1 : (if t205 = 0 then (if 0 ≤ x16_38 then (if x16_38 < (x8_2.length : Int) then (if x16_38 < (x7_2.length : Int) then (estoverslaw32_SlotsReferences.j10 kj48 t203 (x7_2.set (x16_38 : Int).toNat 0) (x8_2.set (x16_38 : Int).toNat true) l1 (l1.length : Int) x54_2) else (none)) else (none)) else (none)) else (estoverslaw32_SlotsReferences.j10 kj48 x5_2 x7_2 x8_2 l1 (l1.length : Int) x54_2)) = some r := by rw [if_neg (show ¬ (false = true) by decide)] at H; exact H); (clear H); (have H := H1); (clear H1)
                          by_cases c56 : t205 = 0
                          rotate_left
                          · rw [if_neg c56] at H
                            (have c56b0 : (t205 == 0) = false := beq_eq_false_iff_ne.mpr c56); (have c56b1 : (t205 != 0) = true := bne_iff_ne.mpr c56); (have H' := Aside0.mk H); (clear H)
                            go_wp2
                            go_meet
                            case rel => exact ⟨_, (x5_2), (x7_2), (x8_2), H', ⟨by have := HJ2.out; have := HK2.out; have := HJ24.out; have := HJ38.out; have := HJ48.out; first | omega | exact Nat.le_refl _⟩, ⟨by (with_reducible repeat (first | apply Kd.R_alloc | apply Kd.R_drewN | apply Kd.R_drew)); exact Kd.R_mono HO_5.out (fun _ hk => trivial)⟩, ⟨by (with_reducible repeat (first | apply Kd.R_alloc | apply Kd.R_drewN | apply Kd.R_drew)); exact HO_7.out⟩, ⟨by (with_reducible repeat (first | apply Kd.R_alloc | apply Kd.R_drewN | apply Kd.R_drew)); exact HO_8.out⟩, ⟨by (with_reducible repeat (first | refine blk_drewN ?_ _ | refine blk_drew ?_ | refine blk_alloc ?_ _)); exact BK201.out⟩, ⟨by repeat (first | (with_reducible first | exact HB.out | apply below_alloc | apply pw_below_drewN | apply below_drew1 | refine below_set ?_ GE201.out) | exact HB.out)⟩⟩
                          (rw [if_pos c56] at H); (have c56b0 : (t205 == 0) = true := beq_iff_eq.mpr c56); (have c56b1 : (t205 != 0) = false := bne_eq_false_iff_eq.mpr c56); (clear c56)
                          by_cases c57 : 0 ≤ x16_38
                          rotate_left
                          · rw [if_neg c57] at H
                            exact absurd H (by simp)
                          (rw [if_pos c57] at H); (have c57b0 : decide (0 ≤ x16_38) = true := decide_eq_true c57); (clear c57)
                          by_cases c58 : x16_38 < (x8_2.length : Int)
                          rotate_left
                          · rw [if_neg c58] at H
                            exact absurd H (by simp)
                          (rw [if_pos c58] at H); (have c58b0 : decide (x16_38 < (x8_2.length : Int)) = true := decide_eq_true c58); (clear c58); (obtain ⟨y209, hy209⟩ : ∃ y_ : List Bool, y_ = (x8_2.set (x16_38 : Int).toNat true) := ⟨_, rfl⟩); (replace H : (if x16_38 < (x7_2.length : Int) then (estoverslaw32_SlotsReferences.j10 kj48 t203 (x7_2.set (x16_38 : Int).toNat 0) y209 l1 (l1.length : Int) x54_2) else (none)) = some r := by first | (rw [hy209]; with_reducible exact H) | (have H2_ := (Option.bind_some _ _).symm.trans H; rw [hy209]; with_reducible exact H2_) | (have H2_ := (Option.bind_some _ _).symm.trans H; with_reducible exact H2_) | with_reducible exact H | (rw [hy209]; exact H) | exact H); (have Ny209 := Aside0.mk hy209); (clear hy209)
                          by_cases c60 : x16_38 < (x7_2.length : Int)
                          rotate_left
                          · rw [if_neg c60] at H
                            exact absurd H (by simp)
                          (rw [if_pos c60] at H); (have c60b0 : decide (x16_38 < (x7_2.length : Int)) = true := decide_eq_true c60); (clear c60); (obtain ⟨y210, hy210⟩ : ∃ y_ : List Int, y_ = (x7_2.set (x16_38 : Int).toNat 0) := ⟨_, rfl⟩); (replace H : (estoverslaw32_SlotsReferences.j10 kj48 t203 y210 y209 l1 (l1.length : Int) x54_2) = some r := by first | (rw [hy210]; with_reducible exact H) | (have H2_ := (Option.bind_some _ _).symm.trans H; rw [hy210]; with_reducible exact H2_) | (have H2_ := (Option.bind_some _ _).symm.trans H; with_reducible exact H2_) | with_reducible exact H | (rw [hy210]; exact H) | exact H); (have Ny210 := Aside0.mk hy210); (clear hy210); (have H' := Aside0.mk H); (clear H); (have p59 : 0 ≤ (x16_38 : Int) := of_decide_eq_true (by first | (with_reducible assumption) | assumption)); (have q59 : (x16_38 : Int) < ((x8_2.length : Int) : Int) := of_decide_eq_true (by first | (with_reducible assumption) | assumption)); (obtain ⟨go59, co59, eo59, gb59, gl59, cl59, HG59⟩ := Kd.R_form HO_8.out (by omega))
                          (first | cases eo59 | (injection eo59 with ea_ en_ ec_; (first | subst ea_ | (injection ea_ with ea_; subst ea_)); subst ec_; clear en_))
                          (have GB59 := Aside0.mk gb59); (have GG59 := Aside0.mk HG59); (clear gb59 gl59 HG59); (obtain ⟨hx59_0, hf59_0⟩ := Kd.R_celln false HO_8.out (x16_38 : Int) p59 q59); (replace p59 := eq_true p59); (replace q59 := eq_true q59); (have HP62 := Kd.R_putg HO_8.out (x16_38 : Int) true)
                          go_wp2_with (first | ((with_reducible refine gate_store (t := 4) (p := 119) rfl ?_); refine store_event (t := 4) (p := 119) (v := ?vo_w63) (w1 := (wc.setCell ⟨go59, (x16_38 : Int).toNat, none⟩ (.bool true))) ?hg ?ho ?hn ?hr ?_; (case ho => rfl); (case hg => rfl); (case hn => rfl); (case hr => first | (go_simp; done) | (go_simp; rfl)); intro w63 hw; have hg : wc.grownBy w63 (some go59) := (by rw [hw]; exact HP62.2); have hp_ : Kd.R Kd.bool 4 w63 w.heap.size (fun _ => True) (.slice (some ⟨go59, 0, none⟩) x8_2.length co59) y209 := (by rw [hw, Ny209.out]; exact HP62.1); clear HP62; have n0_ := Aside0.mk (Kd.R_over' (v := (.slice (some ⟨go59, 0, none⟩) x8_2.length co59)) (by (with_reducible repeat (first | apply Kd.R_alloc | apply Kd.R_drewN | apply Kd.R_drew)); exact HO_5.out) (Kd.R_typed HO_8.out) (by decide) hg); have n1_ := Aside0.mk (Kd.R_over' (v := (.slice (some ⟨go59, 0, none⟩) x8_2.length co59)) (by (with_reducible repeat (first | apply Kd.R_alloc | apply Kd.R_drewN | apply Kd.R_drew)); exact HO_7.out) (Kd.R_typed HO_8.out) (by decide) hg); have n2_ := Aside0.mk (hp_); have n3_ := Aside0.mk (Kd.R_over' (v := (.slice (some ⟨go59, 0, none⟩) x8_2.length co59)) (by (with_reducible repeat (first | apply Kd.R_alloc | apply Kd.R_drewN | apply Kd.R_drew)); exact HO_13.out) (Kd.R_typed HO_8.out) (by decide) hg); have n4_ := Aside0.mk (blk_grown (g := gb201) (o := .cells #[.int .i64 ((rd_T34 l1 x54_2).f0), .int .i64 ((rd_T34 l1 x54_2).f1), .int .i64 ((rd_T34 l1 x54_2).f2)] 34 (0, 0)) (by (with_reducible repeat (first | refine blk_drewN ?_ _ | refine blk_drew ?_ | refine blk_alloc ?_ _)); exact BK201.out) hg (Kd.R_ne HO_8.out BK201.out (by decide))); have n5_ := Aside0.mk ((by rw [hw]; exact below_set (HB.out) GB59.out : Below w.heap.size w w63)); clear HO_5; clear HO_7; clear HO_8; clear HO_13; clear BK201; clear HB; have HO_5 := n0_; have HO_7 := n1_; have HO_8 := n2_; have HO_13 := n3_; have BK201 := n4_; have HB := n5_; clear n0_ n1_ n2_ n3_ n4_ n5_; clear hg hw hp_; have p61 : 0 ≤ (x16_38 : Int) := of_decide_eq_true (by first | (with_reducible assumption) | assumption); have q61 : (x16_38 : Int) < ((x7_2.length : Int) : Int) := of_decide_eq_true (by first | (with_reducible assumption) | assumption); obtain ⟨go61, co61, eo61, gb61, gl61, cl61, HG61⟩ := Kd.R_form HO_7.out (by omega); (first | cases eo61 | (injection eo61 with ea_ en_ ec_; (first | subst ea_ | (injection ea_ with ea_; subst ea_)); subst ec_; clear en_)); have GB61 := Aside0.mk gb61; have GG61 := Aside0.mk HG61; clear gb61 gl61 HG61; obtain ⟨hx61_0, hf61_0⟩ := Kd.R_celln 0 HO_7.out (x16_38 : Int) p61 q61; replace p61 := eq_true p61; replace q61 := eq_true q61; obtain ⟨hy64_, hz64_⟩ := Kd.R_celln 0 HO_7.out (x16_38 : Int) (of_decide_eq_true (by first | (with_reducible assumption) | assumption)) (of_decide_eq_true (by first | (with_reducible assumption) | assumption)); have HP64 := Kd.R_putg HO_7.out (x16_38 : Int) 0) | ((with_reducible refine gate_store (t := 3) (p := 120) rfl ?_); refine store_event (t := 3) (p := 120) (v := ?vo_w65) (w1 := (w63.setCell ⟨go61, (x16_38 : Int).toNat, none⟩ (.int .i64 0))) ?hg ?ho ?hn ?hr ?_; (case ho => rfl); (case hg => rfl); (case hn => rfl); (case hr => first | (go_simp; done) | (go_simp; rfl)); intro w65 hw; have hg : w63.grownBy w65 (some go61) := (by rw [hw]; exact HP64.2); have hp_ : Kd.R (Kd.int .i64) 3 w65 w.heap.size (fun _ => True) (.slice (some ⟨go61, 0, none⟩) x7_2.length co61) y210 := (by rw [hw, Ny210.out]; exact HP64.1); clear HP64; have n0_ := Aside0.mk (Kd.R_over' (v := (.slice (some ⟨go61, 0, none⟩) x7_2.length co61)) (by (with_reducible repeat (first | apply Kd.R_alloc | apply Kd.R_drewN | apply Kd.R_drew)); exact HO_5.out) (Kd.R_typed HO_7.out) (by decide) hg); have n1_ := Aside0.mk (hp_); have n2_ := Aside0.mk (Kd.R_over' (v := (.slice (some ⟨go61, 0, none⟩) x7_2.length co61)) (by (with_reducible repeat (first | apply Kd.R_alloc | apply Kd.R_drewN | apply Kd.R_drew)); exact HO_8.out) (Kd.R_typed HO_7.out) (by decide) hg); have n3_ := Aside0.mk (Kd.R_over' (v := (.slice (some ⟨go61, 0, none⟩) x7_2.length co61)) (by (with_reducible repeat (first | apply Kd.R_alloc | apply Kd.R_drewN | apply Kd.R_drew)); exact HO_13.out) (Kd.R_typed HO_7.out) (by decide) hg); have n4_ := Aside0.mk (blk_grown (g := gb201) (o := .cells #[.int .i64 ((rd_T34 l1 x54_2).f0), .int .i64 ((rd_T34 l1 x54_2).f1), .int .i64 ((rd_T34 l1 x54_2).f2)] 34 (0, 0)) (by (with_reducible repeat (first | refine blk_drewN ?_ _ | refine blk_drew ?_ | refine blk_alloc ?_ _)); exact BK201.out) hg (Kd.R_ne HO_7.out BK201.out (by decide))); have n5_ := Aside0.mk ((by rw [hw]; exact below_set (HB.out) GB61.out : Below w.heap.size w w65)); clear HO_5; clear HO_7; clear HO_8; clear HO_13; clear BK201; clear HB; have HO_5 := n0_; have HO_7 := n1_; have HO_8 := n2_; have HO_13 := n3_; have BK201 := n4_; have HB := n5_; clear n0_ n1_ n2_ n3_ n4_ n5_; clear hg hw hp_))
                          go_meet
                          case rel => exact ⟨_, (t203), (y210), (y209), H', ⟨by have := HJ2.out; have := HK2.out; have := HJ24.out; have := HJ38.out; have := HJ48.out; first | omega | exact Nat.le_refl _⟩, ⟨by (with_reducible repeat (first | apply Kd.R_alloc | apply Kd.R_drewN | apply Kd.R_drew)); exact Kd.R_mono HO_13.out (fun _ hk => trivial)⟩, ⟨by (with_reducible repeat (first | apply Kd.R_alloc | apply Kd.R_drewN | apply Kd.R_drew)); exact HO_7.out⟩, ⟨by (with_reducible repeat (first | apply Kd.R_alloc | apply Kd.R_drewN | apply Kd.R_drew)); exact HO_8.out⟩, ⟨by (with_reducible repeat (first | refine blk_drewN ?_ _ | refine blk_drew ?_ | refine blk_alloc ?_ _)); exact BK201.out⟩, ⟨by repeat (first | (with_reducible first | exact HB.out | apply below_alloc | apply pw_below_drewN | apply below_drew1 | refine below_set ?_ GE201.out) | exact HB.out)⟩⟩
                (rw [if_neg c37] at H); (have c37b0 : (((rd_T34 l1 x54_2).f0) == 0) = false := beq_eq_false_iff_ne.mpr c37); (have c37b1 : (((rd_T34 l1 x54_2).f0) != 0) = true := bne_iff_ne.mpr c37)
                (first | rw [c37b0] | (simp only [i64_w, i32_w]; rw [c37b0]) | skip)
                by_cases c66 : ((rd_T34 l1 x54_2).f0) = 1
                · rw [if_pos c66] at H
                  (have c66b0 : (((rd_T34 l1 x54_2).f0) == 1) = true := beq_iff_eq.mpr c66); (have c66b1 : (((rd_T34 l1 x54_2).f0) != 1) = false := bne_eq_false_iff_eq.mpr c66); (clear c66); (replace H := Option.bind_eq_some_iff.mp H); (obtain ⟨⟨t211, t212⟩, A670, H⟩ := H); (replace H : (if ((t212 == 0) != x12_24) = true then (some false) else (if x12_24 = true then (if 0 ≤ ((rd_T34 l1 x54_2).f1) then (if ((rd_T34 l1 x54_2).f1) < (x7_2.length : Int) then (estoverslaw32_SlotsReferences.j10 kj24 t211 (x7_2.set (((rd_T34 l1 x54_2).f1) : Int).toNat (wrap64 ((rd x7_2 ((rd_T34 l1 x54_2).f1)) + 1))) x8_2 l1 (l1.length : Int) x54_2) else (none)) else (none)) else (estoverslaw32_SlotsReferences.j10 kj24 x5_2 x7_2 x8_2 l1 (l1.length : Int) x54_2))) = some r := H); (have A67 := Aside0.mk A670); (clear A670)
                  by_cases c68 : ((t212 == 0) != x12_24) = true
                  · rw [if_pos c68] at H
                    exact absurd ((Option.some.inj H).trans HRT.out) (by decide)
                  (rw [if_neg c68] at H); (have c68b0 : ((t212 == 0) != x12_24) = false := by simpa using c68)
                  (try (have c68b1 : decide ((t212 == 0) = x12_24) = true := by simpa using c68))
                  (try (have c68b2 : ((t212 == 0) == x12_24) = true := by simpa using c68))
                  clear c68
                  by_cases c71 : x12_24 = true
                  rotate_left
                  · replace c71 := Bool.eq_false_iff.mpr c71
                    (subst c71); (have H1 : (estoverslaw32_SlotsReferences.j10 kj24 x5_2 x7_2 x8_2 l1 (l1.length : Int) x54_2) = some r := by rw [if_neg (show ¬ (false = true) by decide)] at H; exact H); (clear H); (have H := H1); (clear H1); (have H' := Aside0.mk H); (clear H); (obtain ⟨Ao80, co80, eo80⟩ := Kd.R_slice HO_5.out); (subst eo80)
                    go_wp2_with (first | ((with_reducible refine gate_callee (f := 20) rfl ?_); refine goesL_ (some 126) rfl rfl Try.func20 (by kernel_rfl) rfl #[.slice Ao80 x5_2.length co80, .int .i64 ((rd_T34 l1 x54_2).f1)] rfl (by (try simp only [List.map_toArray, List.map_cons, List.map_nil]); first | done | rfl | (simp only [List.length_drop, List.length_take]; rfl)) ?_; (with_reducible refine (slots_Dup.calls _ _ x5_2 ((rd_T34 l1 x54_2).f1) t211 t212 _ ?side1 ?side2 A67.out).mono ?_); (case side1 => repeat (first | exact (Kd.R_reads' HO_5.out).2.2 | (with_reducible refine Kd.C_alloc ?_ _) | (with_reducible refine Kd.C_drewN ?_ _) | (with_reducible refine Kd.C_drew ?_))); (case side2 => exact (Kd.R_reads' HO_5.out).2.1); rintro e w81 ⟨v213, rfl, ho0, hb⟩; refine ⟨_, rfl, ?_⟩; have n0_ := Aside0.mk (Kd.R_elder' (by (with_reducible repeat (first | apply Kd.R_alloc | apply Kd.R_drewN | apply Kd.R_drew)); exact HO_5.out) (Kd.R_base ho0) hb); have n1_ := Aside0.mk (Kd.R_below (by (with_reducible repeat (first | apply Kd.R_alloc | apply Kd.R_drewN | apply Kd.R_drew)); exact HO_7.out) hb); have n2_ := Aside0.mk (Kd.R_below (by (with_reducible repeat (first | apply Kd.R_alloc | apply Kd.R_drewN | apply Kd.R_drew)); exact HO_8.out) hb); have n3_ := Aside0.mk (Kd.R_lower (Kd.R_new' ho0 (Kd.R_lt (by (with_reducible repeat (first | apply Kd.R_alloc | apply Kd.R_drewN | apply Kd.R_drew)); exact HO_5.out))) (below_size (by repeat (first | (with_reducible first | exact HB.out | apply below_alloc | apply pw_below_drewN | apply below_drew1 | refine below_set ?_ GE201.out) | exact HB.out)))); have n4_ := Aside0.mk (blk_below (g := gb201) (o := .cells #[.int .i64 ((rd_T34 l1 x54_2).f0), .int .i64 ((rd_T34 l1 x54_2).f1), .int .i64 ((rd_T34 l1 x54_2).f2)] 34 (0, 0)) (by (with_reducible repeat (first | refine blk_drewN ?_ _ | refine blk_drew ?_ | refine blk_alloc ?_ _)); exact BK201.out) hb); have n5_ := Aside0.mk (below_step (by repeat (first | (with_reducible first | exact HB.out | apply below_alloc | apply pw_below_drewN | apply below_drew1 | refine below_set ?_ GE201.out) | exact HB.out)) hb); clear HO_5; clear HO_7; clear HO_8; clear BK201; clear HB; have HO_5 := n0_; have HO_7 := n1_; have HO_8 := n2_; have HO214 := n3_; have BK201 := n4_; have HB := n5_; clear n0_ n1_ n2_ n3_ n4_ n5_; (try clear hb); (try clear hb2); (try clear hk); (try clear hi); (try clear ho0)))
                    go_meet
                    case rel => exact ⟨_, (x5_2), (x7_2), (x8_2), H', ⟨by have := HJ2.out; have := HK2.out; have := HJ24.out; first | omega | exact Nat.le_refl _⟩, ⟨by (with_reducible repeat (first | apply Kd.R_alloc | apply Kd.R_drewN | apply Kd.R_drew)); exact Kd.R_mono HO_5.out (fun _ hk => trivial)⟩, ⟨by (with_reducible repeat (first | apply Kd.R_alloc | apply Kd.R_drewN | apply Kd.R_drew)); exact HO_7.out⟩, ⟨by (with_reducible repeat (first | apply Kd.R_alloc | apply Kd.R_drewN | apply Kd.R_drew)); exact HO_8.out⟩, ⟨by (with_reducible repeat (first | refine blk_drewN ?_ _ | refine blk_drew ?_ | refine blk_alloc ?_ _)); exact BK201.out⟩, ⟨by repeat (first | (with_reducible first | exact HB.out | apply below_alloc | apply pw_below_drewN | apply below_drew1 | refine below_set ?_ GE201.out) | exact HB.out)⟩⟩
                  (subst c71); (have H1 : (if 0 ≤ ((rd_T34 l1 x54_2).f1) then (if ((rd_T34 l1 x54_2).f1) < (x7_2.length : Int) then (estoverslaw32_SlotsReferences.j10 kj24 t211 (x7_2.set (((rd_T34 l1 x54_2).f1) : Int).toNat (wrap64 ((rd x7_2 ((rd_T34 l1 x54_2).f1)) + 1))) x8_2 l1 (l1.length : Int) x54_2) else (none)) else (none)) = some r := by rw [if_pos rfl] at H; exact H); (clear H); (have H := H1); (clear H1)
                  by_cases c72 : 0 ≤ ((rd_T34 l1 x54_2).f1)
                  rotate_left
                  · rw [if_neg c72] at H
                    exact absurd H (by simp)
                  (rw [if_pos c72] at H); (have c72b0 : decide (0 ≤ ((rd_T34 l1 x54_2).f1)) = true := decide_eq_true c72); (clear c72)
                  by_cases c73 : ((rd_T34 l1 x54_2).f1) < (x7_2.length : Int)
                  rotate_left
                  · rw [if_neg c73] at H
                    exact absurd H (by simp)
                  (rw [if_pos c73] at H); (have c73b0 : decide (((rd_T34 l1 x54_2).f1) < (x7_2.length : Int)) = true := decide_eq_true c73); (clear c73); (obtain ⟨y216, hy216⟩ : ∃ y_ : List Int, y_ = (x7_2.set (((rd_T34 l1 x54_2).f1) : Int).toNat (wrap64 ((rd x7_2 ((rd_T34 l1 x54_2).f1)) + 1))) := ⟨_, rfl⟩); (replace H : (estoverslaw32_SlotsReferences.j10 kj24 t211 y216 x8_2 l1 (l1.length : Int) x54_2) = some r := by first | (rw [hy216]; with_reducible exact H) | (have H2_ := (Option.bind_some _ _).symm.trans H; rw [hy216]; with_reducible exact H2_) | (have H2_ := (Option.bind_some _ _).symm.trans H; with_reducible exact H2_) | with_reducible exact H | (rw [hy216]; exact H) | exact H); (have Ny216 := Aside0.mk hy216); (clear hy216); (have H' := Aside0.mk H); (clear H); (obtain ⟨Ao75, co75, eo75⟩ := Kd.R_slice HO_5.out); (subst eo75)
                  go_wp2_with (first | ((with_reducible refine gate_callee (f := 20) rfl ?_); refine goesL_ (some 126) rfl rfl Try.func20 (by kernel_rfl) rfl #[.slice Ao75 x5_2.length co75, .int .i64 ((rd_T34 l1 x54_2).f1)] rfl (by (try simp only [List.map_toArray, List.map_cons, List.map_nil]); first | done | rfl | (simp only [List.length_drop, List.length_take]; rfl)) ?_; (with_reducible refine (slots_Dup.calls _ _ x5_2 ((rd_T34 l1 x54_2).f1) t211 t212 _ ?side1 ?side2 A67.out).mono ?_); (case side1 => repeat (first | exact (Kd.R_reads' HO_5.out).2.2 | (with_reducible refine Kd.C_alloc ?_ _) | (with_reducible refine Kd.C_drewN ?_ _) | (with_reducible refine Kd.C_drew ?_))); (case side2 => exact (Kd.R_reads' HO_5.out).2.1); rintro e w76 ⟨v213, rfl, ho0, hb⟩; refine ⟨_, rfl, ?_⟩; have n0_ := Aside0.mk (Kd.R_elder' (by (with_reducible repeat (first | apply Kd.R_alloc | apply Kd.R_drewN | apply Kd.R_drew)); exact HO_5.out) (Kd.R_base ho0) hb); have n1_ := Aside0.mk (Kd.R_below (by (with_reducible repeat (first | apply Kd.R_alloc | apply Kd.R_drewN | apply Kd.R_drew)); exact HO_7.out) hb); have n2_ := Aside0.mk (Kd.R_below (by (with_reducible repeat (first | apply Kd.R_alloc | apply Kd.R_drewN | apply Kd.R_drew)); exact HO_8.out) hb); have n3_ := Aside0.mk (Kd.R_lower (Kd.R_new' ho0 (Kd.R_lt (by (with_reducible repeat (first | apply Kd.R_alloc | apply Kd.R_drewN | apply Kd.R_drew)); exact HO_5.out))) (below_size (by repeat (first | (with_reducible first | exact HB.out | apply below_alloc | apply pw_below_drewN | apply below_drew1 | refine below_set ?_ GE201.out) | exact HB.out)))); have n4_ := Aside0.mk (blk_below (g := gb201) (o := .cells #[.int .i64 ((rd_T34 l1 x54_2).f0), .int .i64 ((rd_T34 l1 x54_2).f1), .int .i64 ((rd_T34 l1 x54_2).f2)] 34 (0, 0)) (by (with_reducible repeat (first | refine blk_drewN ?_ _ | refine blk_drew ?_ | refine blk_alloc ?_ _)); exact BK201.out) hb); have n5_ := Aside0.mk (below_step (by repeat (first | (with_reducible first | exact HB.out | apply below_alloc | apply pw_below_drewN | apply below_drew1 | refine below_set ?_ GE201.out) | exact HB.out)) hb); clear HO_5; clear HO_7; clear HO_8; clear BK201; clear HB; have HO_5 := n0_; have HO_7 := n1_; have HO_8 := n2_; have HO214 := n3_; have BK201 := n4_; have HB := n5_; clear n0_ n1_ n2_ n3_ n4_ n5_; (try clear hb); (try clear hb2); (try clear hk); (try clear hi); (try clear ho0); obtain ⟨Ao77, co77, eo77⟩ := Kd.R_slice HO_7.out; subst eo77; have p215 : 0 ≤ (((rd_T34 l1 x54_2).f1) : Int) := of_decide_eq_true (by first | (with_reducible assumption) | assumption); have q215 : ((rd_T34 l1 x54_2).f1) < (x7_2.length : Int) := of_decide_eq_true (by first | (with_reducible assumption) | assumption); obtain ⟨ad215, e215, hx215_0⟩ := Kd.at_int (Kd.R_reads' HO_7.out).2.2 ((rd_T34 l1 x54_2).f1) p215 q215; cases e215; replace p215 := eq_true p215; replace q215 := eq_true q215; have p74 : 0 ≤ (((rd_T34 l1 x54_2).f1) : Int) := of_decide_eq_true (by first | (with_reducible assumption) | assumption); have q74 : (((rd_T34 l1 x54_2).f1) : Int) < ((x7_2.length : Int) : Int) := of_decide_eq_true (by first | (with_reducible assumption) | assumption); obtain ⟨go74, co74, eo74, gb74, gl74, cl74, HG74⟩ := Kd.R_form HO_7.out (by omega); (first | cases eo74 | (injection eo74 with ea_ en_ ec_; (first | subst ea_ | (injection ea_ with ea_; subst ea_)); subst ec_; clear en_)); have GB74 := Aside0.mk gb74; have GG74 := Aside0.mk HG74; clear gb74 gl74 HG74; (first | simp only [add_plain] at hx215_0 | skip); obtain ⟨hx74_0, hf74_0⟩ := Kd.R_celln 0 HO_7.out (((rd_T34 l1 x54_2).f1) : Int) p74 q74; replace p74 := eq_true p74; replace q74 := eq_true q74; obtain ⟨hy78_, hz78_⟩ := Kd.R_celln 0 HO_7.out (((rd_T34 l1 x54_2).f1) : Int) (of_decide_eq_true (by first | (with_reducible assumption) | assumption)) (of_decide_eq_true (by first | (with_reducible assumption) | assumption)); have HP78 := Kd.R_putg HO_7.out (((rd_T34 l1 x54_2).f1) : Int) (wrap64 ((rd x7_2 ((rd_T34 l1 x54_2).f1)) + 1))) | ((with_reducible refine gate_store (t := 3) (p := 140) rfl ?_); refine store_event (t := 3) (p := 140) (v := ?vo_w79) (w1 := (w76.setCell ⟨go74, (((rd_T34 l1 x54_2).f1) : Int).toNat, none⟩ (.int .i64 (wrap64 ((rd x7_2 ((rd_T34 l1 x54_2).f1)) + 1))))) ?hg ?ho ?hn ?hr ?_; (case ho => rfl); (case hg => rfl); (case hn => rfl); (case hr => first | (go_simp; done) | (go_simp; rfl)); intro w79 hw; have hg : w76.grownBy w79 (some go74) := (by rw [hw]; exact HP78.2); have hp_ : Kd.R (Kd.int .i64) 3 w79 w.heap.size (fun _ => True) (.slice (some ⟨go74, 0, none⟩) x7_2.length co77) y216 := (by rw [hw, Ny216.out]; exact HP78.1); clear HP78; have n0_ := Aside0.mk (Kd.R_over' (v := (.slice (some ⟨go74, 0, none⟩) x7_2.length co77)) (by (with_reducible repeat (first | apply Kd.R_alloc | apply Kd.R_drewN | apply Kd.R_drew)); exact HO_5.out) (Kd.R_typed HO_7.out) (by decide) hg); have n1_ := Aside0.mk (hp_); have n2_ := Aside0.mk (Kd.R_over' (v := (.slice (some ⟨go74, 0, none⟩) x7_2.length co77)) (by (with_reducible repeat (first | apply Kd.R_alloc | apply Kd.R_drewN | apply Kd.R_drew)); exact HO_8.out) (Kd.R_typed HO_7.out) (by decide) hg); have n3_ := Aside0.mk (blk_grown (g := gb201) (o := .cells #[.int .i64 ((rd_T34 l1 x54_2).f0), .int .i64 ((rd_T34 l1 x54_2).f1), .int .i64 ((rd_T34 l1 x54_2).f2)] 34 (0, 0)) (by (with_reducible repeat (first | refine blk_drewN ?_ _ | refine blk_drew ?_ | refine blk_alloc ?_ _)); exact BK201.out) hg (Kd.R_ne HO_7.out BK201.out (by decide))); have n4_ := Aside0.mk (Kd.R_over' (v := (.slice (some ⟨go74, 0, none⟩) x7_2.length co77)) (by (with_reducible repeat (first | apply Kd.R_alloc | apply Kd.R_drewN | apply Kd.R_drew)); exact HO214.out) (Kd.R_typed HO_7.out) (by decide) hg); have n5_ := Aside0.mk ((by rw [hw]; exact below_set (HB.out) GB74.out : Below w.heap.size w w79)); clear HO_5; clear HO_7; clear HO_8; clear BK201; clear HO214; clear HB; have HO_5 := n0_; have HO_7 := n1_; have HO_8 := n2_; have BK201 := n3_; have HO214 := n4_; have HB := n5_; clear n0_ n1_ n2_ n3_ n4_ n5_; clear hg hw hp_))
                  go_meet
                  case rel => exact ⟨_, (t211), (y216), (x8_2), H', ⟨by have := HJ2.out; have := HK2.out; have := HJ24.out; first | omega | exact Nat.le_refl _⟩, ⟨by (with_reducible repeat (first | apply Kd.R_alloc | apply Kd.R_drewN | apply Kd.R_drew)); exact Kd.R_mono HO214.out (fun _ hk => trivial)⟩, ⟨by (with_reducible repeat (first | apply Kd.R_alloc | apply Kd.R_drewN | apply Kd.R_drew)); exact HO_7.out⟩, ⟨by (with_reducible repeat (first | apply Kd.R_alloc | apply Kd.R_drewN | apply Kd.R_drew)); exact HO_8.out⟩, ⟨by (with_reducible repeat (first | refine blk_drewN ?_ _ | refine blk_drew ?_ | refine blk_alloc ?_ _)); exact BK201.out⟩, ⟨by repeat (first | (with_reducible first | exact HB.out | apply below_alloc | apply pw_below_drewN | apply below_drew1 | refine below_set ?_ GE201.out) | exact HB.out)⟩⟩
                (rw [if_neg c66] at H); (have c66b0 : (((rd_T34 l1 x54_2).f0) == 1) = false := beq_eq_false_iff_ne.mpr c66); (have c66b1 : (((rd_T34 l1 x54_2).f0) != 1) = true := bne_iff_ne.mpr c66); (have HC82 := Aside0.mk H); (clear H)
                go_upto_if 141 with (fail)
                go_cut [141] (fun v141 wc => ∃ (kq : Nat) (x141_81 : Bool), v141 = .bool x141_81 ∧ Aside0 (estoverslaw32_SlotsReferences.j6 kq x5_2 x7_2 x8_2 ((rd_T34 l1 x54_2).f1) x12_24 l1 (l1.length : Int) x54_2 ((rd_T34 l1 x54_2).f0) x141_81 ((rd_T34 l1 x54_2).f0) ((rd_T34 l1 x54_2).f1) ((rd_T34 l1 x54_2).f2) = some r) ∧ Aside0 (kq ≤ kj24) ∧ Aside0 (Kd.R k41 41 wc w.heap.size (fun _ => True) u5 x5_2) ∧ Aside0 (Kd.R (Kd.int .i64) 3 wc w.heap.size (fun _ => True) v195 x7_2) ∧ Aside0 (Kd.R Kd.bool 4 wc w.heap.size (fun _ => True) v198 x8_2) ∧ Aside0 (wc.heap[gb201]? = some (.cells #[.int .i64 ((rd_T34 l1 x54_2).f0), .int .i64 ((rd_T34 l1 x54_2).f1), .int .i64 ((rd_T34 l1 x54_2).f2)] 34 (0, 0))) ∧ Aside0 (Below w.heap.size w wc))
                case first =>
                  (have H := HC82.out); (clear HC82)
                  by_cases c83 : ((rd_T34 l1 x54_2).f0) = 2
                  rotate_left
                  · rw [if_neg c83] at H
                    (have c83b0 : (((rd_T34 l1 x54_2).f0) == 2) = false := beq_eq_false_iff_ne.mpr c83); (have c83b1 : (((rd_T34 l1 x54_2).f0) != 2) = true := bne_iff_ne.mpr c83)
                    (first | rw [c83b0] | (simp only [i64_w, i32_w]; rw [c83b0]) | skip)
                    (have H' := Aside0.mk H); (clear H)
                    go_wp2
                    go_meet
                    case rel => exact ⟨_, ((((rd_T34 l1 x54_2).f0) == 3)), (by first | rfl | (simp; done) | (simp [*]; done)), H', ⟨by have := HJ2.out; have := HK2.out; have := HJ24.out; first | omega | exact Nat.le_refl _⟩, ⟨by (with_reducible repeat (first | apply Kd.R_alloc | apply Kd.R_drewN | apply Kd.R_drew)); exact HO_5.out⟩, ⟨by (with_reducible repeat (first | apply Kd.R_alloc | apply Kd.R_drewN | apply Kd.R_drew)); exact HO_7.out⟩, ⟨by (with_reducible repeat (first | apply Kd.R_alloc | apply Kd.R_drewN | apply Kd.R_drew)); exact HO_8.out⟩, ⟨by (with_reducible repeat (first | refine blk_drewN ?_ _ | refine blk_drew ?_ | refine blk_alloc ?_ _)); exact BK201.out⟩, ⟨by repeat (first | (with_reducible first | exact HB.out | apply below_alloc | apply pw_below_drewN | apply below_drew1 | refine below_set ?_ GE201.out) | exact HB.out)⟩⟩
                  (rw [if_pos c83] at H); (have c83b0 : (((rd_T34 l1 x54_2).f0) == 2) = true := beq_iff_eq.mpr c83); (have c83b1 : (((rd_T34 l1 x54_2).f0) != 2) = false := bne_eq_false_iff_eq.mpr c83); (clear c83)
                  (first | rw [c83b0] | (simp only [i64_w, i32_w]; rw [c83b0]) | skip)
                  (have H' := Aside0.mk H); (clear H)
                  go_wp2
                  go_meet
                  case rel => exact ⟨_, ((((rd_T34 l1 x54_2).f0) == 2)), (by first | rfl | (simp; done) | (simp [*]; done)), H', ⟨by have := HJ2.out; have := HK2.out; have := HJ24.out; first | omega | exact Nat.le_refl _⟩, ⟨by (with_reducible repeat (first | apply Kd.R_alloc | apply Kd.R_drewN | apply Kd.R_drew)); exact HO_5.out⟩, ⟨by (with_reducible repeat (first | apply Kd.R_alloc | apply Kd.R_drewN | apply Kd.R_drew)); exact HO_7.out⟩, ⟨by (with_reducible repeat (first | apply Kd.R_alloc | apply Kd.R_drewN | apply Kd.R_drew)); exact HO_8.out⟩, ⟨by (with_reducible repeat (first | refine blk_drewN ?_ _ | refine blk_drew ?_ | refine blk_alloc ?_ _)); exact BK201.out⟩, ⟨by repeat (first | (with_reducible first | exact HB.out | apply below_alloc | apply pw_below_drewN | apply below_drew1 | refine below_set ?_ GE201.out) | exact HB.out)⟩⟩
                case rest => as_aux_lemma =>
                  (clear HC82); (try clear c1); (try clear c2); (try clear p2); (try clear q2); (try clear hx2); (try clear c3); (try clear c4); (try clear q4); (try clear c5); (try clear p5); (try clear q5); (try clear hx5); (try clear hf5); (try clear c6); (try clear p6); (try clear q6); (try clear hx6); (try clear hf6); (try clear c7); (try clear p7); (try clear q7); (try clear hx7); (try clear hf7); (try clear c8); (try clear c9); (try clear c10); (try clear c12); (try clear c12b0); (try clear c12b1); (try clear c13); (try clear c13b0); (try clear c13b1); (try clear c14); (try clear c14b0); (try clear c14b1); (try clear c15); (try clear c15b0); (try clear c15b1); (try clear c19); (try clear c20); (try clear p20); (try clear q20); (try clear hx20); (try clear p21); (try clear q21); (try clear hx21); (try clear c22); (try clear c22b0); (try clear c23); (try clear c23b0); (try clear c24); (try clear c24b0); (try clear c28); (try clear c28b0); (try clear c29); (try clear c29b0); (try clear c30); (try clear c30b0); (try clear c31); (try clear c31b0); (try clear c37); (try clear c37b0); (try clear c37b1); (try clear c42); (try clear c42b0); (try clear c43); (try clear c43b0); (try clear q44); (try clear c45); (try clear c50); (try clear c50b0); (try clear c50b1); (try clear c50b2); (try clear c52); (try clear c52b0); (try clear c52b1); (try clear c55); (try clear c56); (try clear c56b0); (try clear c56b1); (try clear c57); (try clear c57b0); (try clear c58); (try clear c58b0); (try clear p59); (try clear q59); (try clear hx59); (try clear hf59); (try clear c60); (try clear c60b0); (try clear p61); (try clear q61); (try clear hx61); (try clear hf61); (try clear p64); (try clear c66); (try clear c66b0); (try clear c66b1); (try clear c68); (try clear c68b0); (try clear c68b1); (try clear c68b2); (try clear c71); (try clear c72); (try clear c72b0); (try clear c73); (try clear c73b0); (try clear p74); (try clear q74); (try clear hx74); (try clear hf74); (try clear c83); (try clear c83b0); (try clear c83b1); (try clear hcz27_0); (try clear hcz27_1); (try clear hcz27_2); (try clear hcz36_0); (try clear hcz36_1); (try clear hcz36_2); (try clear hfz27_0); (try clear hfz27_1); (try clear hfz27_2); (try clear hfz36_0); (try clear hfz36_1); (try clear hfz36_2); (try clear hx200_0); (try clear hx200_1); (try clear hx200_2); (try clear hx202_0); (try clear hx208_0); (try clear hx215_0); (try clear hx59_0); (try clear hx61_0); (try clear hx74_0); (try clear p2); (try clear p20); (try clear p200); (try clear p202); (try clear p208); (try clear p215); (try clear p59); (try clear p6); (try clear p61); (try clear p74); (try clear q2); (try clear q20); (try clear q200); (try clear q202); (try clear q208); (try clear q215); (try clear q4); (try clear q44); (try clear q59); (try clear q61); (try clear q74); (obtain ⟨kq, x141_81, rfl, HA, HJ81, HO_5, HO_7, HO_8, BK201, HB⟩ := hcut)
                  cases kq with
                  | zero => exact absurd HA.out (by simp [estoverslaw32_SlotsReferences.j6])
                  | succ kj81 =>
                    (have H := HA.out); (clear HA); (simp only [estoverslaw32_SlotsReferences.j6] at H)
                    by_cases c84 : x141_81 = true
                    rotate_left
                    · replace c84 := Bool.eq_false_iff.mpr c84
                      (subst c84); (have H1 : (if ((rd_T34 l1 x54_2).f0) = 4 then ((slots_Release.f x5_2 ((rd_T34 l1 x54_2).f1)).bind fun bt227 => (if x12_24 = true then (if 0 ≤ ((rd_T34 l1 x54_2).f1) then (if ((rd_T34 l1 x54_2).f1) < (x7_2.length : Int) then (estoverslaw32_SlotsReferences.j9 kj81 x5_2 x7_2 x8_2 ((rd_T34 l1 x54_2).f1) bt227.1 bt227.2 ((rd x7_2 ((rd_T34 l1 x54_2).f1)) == 0) l1 (l1.length : Int) x54_2) else (none)) else (none)) else (estoverslaw32_SlotsReferences.j9 kj81 x5_2 x7_2 x8_2 ((rd_T34 l1 x54_2).f1) bt227.1 bt227.2 false l1 (l1.length : Int) x54_2))) else (estoverslaw32_SlotsReferences.j10 kj81 x5_2 x7_2 x8_2 l1 (l1.length : Int) x54_2)) = some r := by rw [if_neg (show ¬ (false = true) by decide)] at H; exact H); (clear H); (have H := H1); (clear H1)
                      by_cases c115 : ((rd_T34 l1 x54_2).f0) = 4
                      rotate_left
                      · rw [if_neg c115] at H
                        (have c115b0 : (((rd_T34 l1 x54_2).f0) == 4) = false := beq_eq_false_iff_ne.mpr c115); (have c115b1 : (((rd_T34 l1 x54_2).f0) != 4) = true := bne_iff_ne.mpr c115); (have H' := Aside0.mk H); (clear H)
                        go_wp2
                        go_meet
                        case rel => exact ⟨_, (x5_2), (x7_2), (x8_2), H', ⟨by have := HJ2.out; have := HK2.out; have := HJ24.out; have := HJ81.out; first | omega | exact Nat.le_refl _⟩, ⟨by (with_reducible repeat (first | apply Kd.R_alloc | apply Kd.R_drewN | apply Kd.R_drew)); exact HO_5.out⟩, ⟨by (with_reducible repeat (first | apply Kd.R_alloc | apply Kd.R_drewN | apply Kd.R_drew)); exact HO_7.out⟩, ⟨by (with_reducible repeat (first | apply Kd.R_alloc | apply Kd.R_drewN | apply Kd.R_drew)); exact HO_8.out⟩, ⟨by (with_reducible repeat (first | refine blk_drewN ?_ _ | refine blk_drew ?_ | refine blk_alloc ?_ _)); exact BK201.out⟩, ⟨by repeat (first | (with_reducible first | exact HB.out | apply below_alloc | apply pw_below_drewN | apply below_drew1 | refine below_set ?_ GE201.out) | exact HB.out)⟩⟩
                      (rw [if_pos c115] at H); (have c115b0 : (((rd_T34 l1 x54_2).f0) == 4) = true := beq_iff_eq.mpr c115); (have c115b1 : (((rd_T34 l1 x54_2).f0) != 4) = false := bne_eq_false_iff_eq.mpr c115); (clear c115); (replace H := Option.bind_eq_some_iff.mp H); (obtain ⟨⟨t227, t228⟩, A1160, H⟩ := H); (replace H : (if x12_24 = true then (if 0 ≤ ((rd_T34 l1 x54_2).f1) then (if ((rd_T34 l1 x54_2).f1) < (x7_2.length : Int) then (estoverslaw32_SlotsReferences.j9 kj81 x5_2 x7_2 x8_2 ((rd_T34 l1 x54_2).f1) t227 t228 ((rd x7_2 ((rd_T34 l1 x54_2).f1)) == 0) l1 (l1.length : Int) x54_2) else (none)) else (none)) else (estoverslaw32_SlotsReferences.j9 kj81 x5_2 x7_2 x8_2 ((rd_T34 l1 x54_2).f1) t227 t228 false l1 (l1.length : Int) x54_2)) = some r := H); (have A116 := Aside0.mk A1160); (clear A1160); (have HC117 := Aside0.mk H); (clear H); (obtain ⟨Ao118, co118, eo118⟩ := Kd.R_slice HO_5.out); (subst eo118)
                      go_upto_region 42 with (first | ((with_reducible refine gate_callee (f := 22) rfl ?_); refine goesL_ (some 201) rfl rfl Try.func22 (by kernel_rfl) rfl #[.slice Ao118 x5_2.length co118, .int .i64 ((rd_T34 l1 x54_2).f1)] rfl (by (try simp only [List.map_toArray, List.map_cons, List.map_nil]); first | done | rfl | (simp only [List.length_drop, List.length_take]; rfl)) ?_; (with_reducible refine (slots_Release.calls _ _ x5_2 ((rd_T34 l1 x54_2).f1) t227 t228 _ ?side1 ?side2 A116.out).mono ?_); (case side1 => repeat (first | exact (Kd.R_reads' HO_5.out).2.2 | (with_reducible refine Kd.C_alloc ?_ _) | (with_reducible refine Kd.C_drewN ?_ _) | (with_reducible refine Kd.C_drew ?_))); (case side2 => exact (Kd.R_reads' HO_5.out).2.1); rintro e w119 ⟨v229, rfl, ho0, hb⟩; refine ⟨_, rfl, ?_⟩; have n0_ := Aside0.mk (Kd.R_elder' (by (with_reducible repeat (first | apply Kd.R_alloc | apply Kd.R_drewN | apply Kd.R_drew)); exact HO_5.out) (Kd.R_base ho0) hb); have n1_ := Aside0.mk (Kd.R_below (by (with_reducible repeat (first | apply Kd.R_alloc | apply Kd.R_drewN | apply Kd.R_drew)); exact HO_7.out) hb); have n2_ := Aside0.mk (Kd.R_below (by (with_reducible repeat (first | apply Kd.R_alloc | apply Kd.R_drewN | apply Kd.R_drew)); exact HO_8.out) hb); have n3_ := Aside0.mk (Kd.R_lower (Kd.R_new' ho0 (Kd.R_lt (by (with_reducible repeat (first | apply Kd.R_alloc | apply Kd.R_drewN | apply Kd.R_drew)); exact HO_5.out))) (below_size (by repeat (first | (with_reducible first | exact HB.out | apply below_alloc | apply pw_below_drewN | apply below_drew1 | refine below_set ?_ GE201.out) | exact HB.out)))); have n4_ := Aside0.mk (blk_below (g := gb201) (o := .cells #[.int .i64 ((rd_T34 l1 x54_2).f0), .int .i64 ((rd_T34 l1 x54_2).f1), .int .i64 ((rd_T34 l1 x54_2).f2)] 34 (0, 0)) (by (with_reducible repeat (first | refine blk_drewN ?_ _ | refine blk_drew ?_ | refine blk_alloc ?_ _)); exact BK201.out) hb); have n5_ := Aside0.mk (below_step (by repeat (first | (with_reducible first | exact HB.out | apply below_alloc | apply pw_below_drewN | apply below_drew1 | refine below_set ?_ GE201.out) | exact HB.out)) hb); clear HO_5; clear HO_7; clear HO_8; clear BK201; clear HB; have HO_5 := n0_; have HO_7 := n1_; have HO_8 := n2_; have HO230 := n3_; have BK201 := n4_; have HB := n5_; clear n0_ n1_ n2_ n3_ n4_ n5_; (try clear hb); (try clear hb2); (try clear hk); (try clear hi); (try clear ho0)))
                      (try simp only [Act.put, List.setIfInBounds_toArray, List.set_cons_zero, List.set_cons_succ])
                      go_cut [25] (fun v25 wc => ∃ (kq : Nat) (x25_116 : Bool), v25 = .bool x25_116 ∧ Aside0 (estoverslaw32_SlotsReferences.j9 kq x5_2 x7_2 x8_2 ((rd_T34 l1 x54_2).f1) t227 t228 x25_116 l1 (l1.length : Int) x54_2 = some r) ∧ Aside0 (kq ≤ kj81) ∧ Aside0 (Kd.R k41 41 wc w.heap.size (fun k_ => some k_ ≠ (v229 : Value).ownBlock) (.slice Ao118 x5_2.length co118) x5_2) ∧ Aside0 (Kd.R (Kd.int .i64) 3 wc w.heap.size (fun _ => True) v195 x7_2) ∧ Aside0 (Kd.R Kd.bool 4 wc w.heap.size (fun _ => True) v198 x8_2) ∧ Aside0 (Kd.R k41 41 wc w.heap.size (fun k_ => some k_ ≠ ((.slice Ao118 x5_2.length co118) : Value).ownBlock) v229 t227) ∧ Aside0 (wc.heap[gb201]? = some (.cells #[.int .i64 ((rd_T34 l1 x54_2).f0), .int .i64 ((rd_T34 l1 x54_2).f1), .int .i64 ((rd_T34 l1 x54_2).f2)] 34 (0, 0))) ∧ Aside0 (Below w.heap.size w wc))
                      case first =>
                        (have H := HC117.out); (clear HC117)
                        by_cases c120 : x12_24 = true
                        rotate_left
                        · replace c120 := Bool.eq_false_iff.mpr c120
                          (subst c120); (have H1 : (estoverslaw32_SlotsReferences.j9 kj81 x5_2 x7_2 x8_2 ((rd_T34 l1 x54_2).f1) t227 t228 false l1 (l1.length : Int) x54_2) = some r := by rw [if_neg (show ¬ (false = true) by decide)] at H; exact H); (clear H); (have H := H1); (clear H1); (have H' := Aside0.mk H); (clear H)
                          go_wp2
                          go_meet
                          case rel => exact ⟨_, (false), (by first | rfl | (simp; done) | (simp [*]; done)), H', ⟨by have := HJ2.out; have := HK2.out; have := HJ24.out; have := HJ81.out; first | omega | exact Nat.le_refl _⟩, ⟨by (with_reducible repeat (first | apply Kd.R_alloc | apply Kd.R_drewN | apply Kd.R_drew)); exact Kd.R_mono HO_5.out (fun _ hk => hk.2)⟩, ⟨by (with_reducible repeat (first | apply Kd.R_alloc | apply Kd.R_drewN | apply Kd.R_drew)); exact HO_7.out⟩, ⟨by (with_reducible repeat (first | apply Kd.R_alloc | apply Kd.R_drewN | apply Kd.R_drew)); exact HO_8.out⟩, ⟨by (with_reducible repeat (first | apply Kd.R_alloc | apply Kd.R_drewN | apply Kd.R_drew)); exact Kd.R_mono HO230.out (fun _ hk => hk.2)⟩, ⟨by (with_reducible repeat (first | refine blk_drewN ?_ _ | refine blk_drew ?_ | refine blk_alloc ?_ _)); exact BK201.out⟩, ⟨by repeat (first | (with_reducible first | exact HB.out | apply below_alloc | apply pw_below_drewN | apply below_drew1 | refine below_set ?_ GE201.out) | exact HB.out)⟩⟩
                        (subst c120); (have H1 : (if 0 ≤ ((rd_T34 l1 x54_2).f1) then (if ((rd_T34 l1 x54_2).f1) < (x7_2.length : Int) then (estoverslaw32_SlotsReferences.j9 kj81 x5_2 x7_2 x8_2 ((rd_T34 l1 x54_2).f1) t227 t228 ((rd x7_2 ((rd_T34 l1 x54_2).f1)) == 0) l1 (l1.length : Int) x54_2) else (none)) else (none)) = some r := by rw [if_pos rfl] at H; exact H); (clear H); (have H := H1); (clear H1)
                        by_cases c121 : 0 ≤ ((rd_T34 l1 x54_2).f1)
                        rotate_left
                        · rw [if_neg c121] at H
                          exact absurd H (by simp)
                        (rw [if_pos c121] at H); (have c121b0 : decide (0 ≤ ((rd_T34 l1 x54_2).f1)) = true := decide_eq_true c121); (clear c121)
                        (first | rw [c121b0] | (simp only [i64_w, i32_w]; rw [c121b0]) | skip)
                        by_cases c122 : ((rd_T34 l1 x54_2).f1) < (x7_2.length : Int)
                        rotate_left
                        · rw [if_neg c122] at H
                          exact absurd H (by simp)
                        (rw [if_pos c122] at H); (have c122b0 : decide (((rd_T34 l1 x54_2).f1) < (x7_2.length : Int)) = true := decide_eq_true c122); (clear c122); (have H' := Aside0.mk H); (clear H); (obtain ⟨Ao123, co123, eo123⟩ := Kd.R_slice HO_7.out); (subst eo123); (have p231 : 0 ≤ (((rd_T34 l1 x54_2).f1) : Int) := of_decide_eq_true (by first | (with_reducible assumption) | assumption)); (have q231 : ((rd_T34 l1 x54_2).f1) < (x7_2.length : Int) := of_decide_eq_true (by first | (with_reducible assumption) | assumption)); (obtain ⟨ad231, e231, hx231_0⟩ := Kd.at_int (Kd.R_reads' HO_7.out).2.2 ((rd_T34 l1 x54_2).f1) p231 q231)
                        cases e231
                        (replace p231 := eq_true p231); (replace q231 := eq_true q231)
                        go_wp2
                        go_meet
                        case rel => exact ⟨_, (((rd x7_2 ((rd_T34 l1 x54_2).f1)) == 0)), (by first | rfl | (simp; done) | (simp [*]; done)), H', ⟨by have := HJ2.out; have := HK2.out; have := HJ24.out; have := HJ81.out; first | omega | exact Nat.le_refl _⟩, ⟨by (with_reducible repeat (first | apply Kd.R_alloc | apply Kd.R_drewN | apply Kd.R_drew)); exact Kd.R_mono HO_5.out (fun _ hk => hk.2)⟩, ⟨by (with_reducible repeat (first | apply Kd.R_alloc | apply Kd.R_drewN | apply Kd.R_drew)); exact HO_7.out⟩, ⟨by (with_reducible repeat (first | apply Kd.R_alloc | apply Kd.R_drewN | apply Kd.R_drew)); exact HO_8.out⟩, ⟨by (with_reducible repeat (first | apply Kd.R_alloc | apply Kd.R_drewN | apply Kd.R_drew)); exact Kd.R_mono HO230.out (fun _ hk => hk.2)⟩, ⟨by (with_reducible repeat (first | refine blk_drewN ?_ _ | refine blk_drew ?_ | refine blk_alloc ?_ _)); exact BK201.out⟩, ⟨by repeat (first | (with_reducible first | exact HB.out | apply below_alloc | apply pw_below_drewN | apply below_drew1 | refine below_set ?_ GE201.out) | exact HB.out)⟩⟩
                      case rest => as_aux_lemma =>
                        (clear HC117); (try clear c1); (try clear p1); (try clear q1); (try clear hx1); (try clear c2); (try clear p2); (try clear q2); (try clear hx2); (try clear c3); (try clear c4); (try clear q4); (try clear c5); (try clear p5); (try clear q5); (try clear hx5); (try clear hf5); (try clear c6); (try clear p6); (try clear q6); (try clear hx6); (try clear hf6); (try clear c7); (try clear p7); (try clear q7); (try clear hx7); (try clear hf7); (try clear c8); (try clear c9); (try clear c10); (try clear p10); (try clear q10); (try clear hx10); (try clear hf10); (try clear c11); (try clear c12); (try clear c12b0); (try clear c12b1); (try clear c13); (try clear c13b0); (try clear c13b1); (try clear c14); (try clear c14b0); (try clear c14b1); (try clear c15); (try clear c15b0); (try clear c15b1); (try clear c19); (try clear c20); (try clear p20); (try clear q20); (try clear hx20); (try clear c21); (try clear p21); (try clear q21); (try clear hx21); (try clear c22); (try clear c22b0); (try clear p22); (try clear q22); (try clear hx22); (try clear c23); (try clear c23b0); (try clear p23); (try clear q23); (try clear hx23); (try clear c24); (try clear c24b0); (try clear c28); (try clear c28b0); (try clear c29); (try clear c29b0); (try clear c30); (try clear c30b0); (try clear c31); (try clear c31b0); (try clear c37); (try clear c37b0); (try clear c37b1); (try clear c42); (try clear c42b0); (try clear c43); (try clear c43b0); (try clear q44); (try clear c45); (try clear c50); (try clear c50b0); (try clear c50b1); (try clear c50b2); (try clear c52); (try clear c52b0); (try clear c52b1); (try clear c55); (try clear c56); (try clear c56b0); (try clear c56b1); (try clear c57); (try clear c57b0); (try clear c58); (try clear c58b0); (try clear p59); (try clear q59); (try clear hx59); (try clear hf59); (try clear c60); (try clear c60b0); (try clear p61); (try clear q61); (try clear hx61); (try clear hf61); (try clear p64); (try clear c66); (try clear c66b0); (try clear c66b1); (try clear c68); (try clear c68b0); (try clear c68b1); (try clear c68b2); (try clear c71); (try clear c72); (try clear c72b0); (try clear c73); (try clear c73b0); (try clear p74); (try clear q74); (try clear hx74); (try clear hf74); (try clear c83); (try clear c83b0); (try clear c83b1); (try clear c84); (try clear c90); (try clear c91); (try clear c91b0); (try clear c92); (try clear c92b0); (try clear c95); (try clear c95b0); (try clear c95b1); (try clear c95b2); (try clear c96); (try clear c97); (try clear c97b0); (try clear c98); (try clear c98b0); (try clear c99); (try clear c99b0); (try clear c99b1); (try clear c103); (try clear c104); (try clear c105); (try clear c105b0); (try clear c106); (try clear c106b0); (try clear p107); (try clear q107); (try clear hx107); (try clear hf107); (try clear c108); (try clear c108b0); (try clear p109); (try clear q109); (try clear hx109); (try clear hf109); (try clear c115); (try clear c115b0); (try clear c115b1); (try clear c120); (try clear c121); (try clear c121b0); (try clear c122); (try clear c122b0); (try clear hcz101_0); (try clear hcz101_1); (try clear hcz101_2); (try clear hcz27_0); (try clear hcz27_1); (try clear hcz27_2); (try clear hcz36_0); (try clear hcz36_1); (try clear hcz36_2); (try clear hcz87_0); (try clear hcz87_1); (try clear hcz87_2); (try clear hfz101_0); (try clear hfz101_1); (try clear hfz101_2); (try clear hfz27_0); (try clear hfz27_1); (try clear hfz27_2); (try clear hfz36_0); (try clear hfz36_1); (try clear hfz36_2); (try clear hfz87_0); (try clear hfz87_1); (try clear hfz87_2); (try clear hx107_0); (try clear hx109_0); (try clear hx200_0); (try clear hx200_1); (try clear hx200_2); (try clear hx202_0); (try clear hx208_0); (try clear hx215_0); (try clear hx222_0); (try clear hx223_0); (try clear hx224_0); (try clear hx231_0); (try clear hx59_0); (try clear hx61_0); (try clear hx74_0); (try clear p107); (try clear p109); (try clear p2); (try clear p20); (try clear p200); (try clear p202); (try clear p208); (try clear p21); (try clear p215); (try clear p22); (try clear p222); (try clear p223); (try clear p224); (try clear p231); (try clear p5); (try clear p59); (try clear p6); (try clear p61); (try clear p64); (try clear p7); (try clear p74); (try clear q107); (try clear q109); (try clear q2); (try clear q20); (try clear q200); (try clear q202); (try clear q208); (try clear q21); (try clear q215); (try clear q22); (try clear q222); (try clear q223); (try clear q224); (try clear q231); (try clear q4); (try clear q44); (try clear q5); (try clear q59); (try clear q6); (try clear q61); (try clear q7); (try clear q74); (obtain ⟨kq, x25_116, rfl, HA, HJ116, HO_5, HO_7, HO_8, HO_23, BK201, HB⟩ := hcut)
                        cases kq with
                        | zero => exact absurd HA.out (by simp [estoverslaw32_SlotsReferences.j9])
                        | succ kj116 =>
                          (have H := HA.out); (clear HA); (simp only [estoverslaw32_SlotsReferences.j9] at H)
                          by_cases c124 : ((t228 == 0) != x25_116) = true
                          · rw [if_pos c124] at H
                            exact absurd ((Option.some.inj H).trans HRT.out) (by decide)
                          (rw [if_neg c124] at H); (have c124b0 : ((t228 == 0) != x25_116) = false := by simpa using c124)
                          (try (have c124b1 : decide ((t228 == 0) = x25_116) = true := by simpa using c124))
                          (try (have c124b2 : ((t228 == 0) == x25_116) = true := by simpa using c124))
                          clear c124
                          by_cases c125 : x25_116 = true
                          rotate_left
                          · replace c125 := Bool.eq_false_iff.mpr c125
                            (subst c125); (have H1 : (estoverslaw32_SlotsReferences.j10 kj116 x5_2 x7_2 x8_2 l1 (l1.length : Int) x54_2) = some r := by rw [if_neg (show ¬ (false = true) by decide)] at H; exact H); (clear H); (have H := H1); (clear H1); (have H' := Aside0.mk H); (clear H)
                            go_wp2
                            go_meet
                            case rel => exact ⟨_, (x5_2), (x7_2), (x8_2), H', ⟨by have := HJ2.out; have := HK2.out; have := HJ24.out; have := HJ81.out; have := HJ116.out; first | omega | exact Nat.le_refl _⟩, ⟨by (with_reducible repeat (first | apply Kd.R_alloc | apply Kd.R_drewN | apply Kd.R_drew)); exact Kd.R_mono HO_5.out (fun _ hk => trivial)⟩, ⟨by (with_reducible repeat (first | apply Kd.R_alloc | apply Kd.R_drewN | apply Kd.R_drew)); exact HO_7.out⟩, ⟨by (with_reducible repeat (first | apply Kd.R_alloc | apply Kd.R_drewN | apply Kd.R_drew)); exact HO_8.out⟩, ⟨by (with_reducible repeat (first | refine blk_drewN ?_ _ | refine blk_drew ?_ | refine blk_alloc ?_ _)); exact BK201.out⟩, ⟨by repeat (first | (with_reducible first | exact HB.out | apply below_alloc | apply pw_below_drewN | apply below_drew1 | refine below_set ?_ GE201.out) | exact HB.out)⟩⟩
                          (subst c125); (have H1 : (if 0 ≤ ((rd_T34 l1 x54_2).f1) then (if ((rd_T34 l1 x54_2).f1) < (x8_2.length : Int) then (estoverslaw32_SlotsReferences.j10 kj116 t227 x7_2 (x8_2.set (((rd_T34 l1 x54_2).f1) : Int).toNat false) l1 (l1.length : Int) x54_2) else (none)) else (none)) = some r := by rw [if_pos rfl] at H; exact H); (clear H); (have H := H1); (clear H1)
                          by_cases c126 : 0 ≤ ((rd_T34 l1 x54_2).f1)
                          rotate_left
                          · rw [if_neg c126] at H
                            exact absurd H (by simp)
                          (rw [if_pos c126] at H); (have c126b0 : decide (0 ≤ ((rd_T34 l1 x54_2).f1)) = true := decide_eq_true c126); (clear c126)
                          by_cases c127 : ((rd_T34 l1 x54_2).f1) < (x8_2.length : Int)
                          rotate_left
                          · rw [if_neg c127] at H
                            exact absurd H (by simp)
                          (rw [if_pos c127] at H); (have c127b0 : decide (((rd_T34 l1 x54_2).f1) < (x8_2.length : Int)) = true := decide_eq_true c127); (clear c127); (obtain ⟨y232, hy232⟩ : ∃ y_ : List Bool, y_ = (x8_2.set (((rd_T34 l1 x54_2).f1) : Int).toNat false) := ⟨_, rfl⟩); (replace H : (estoverslaw32_SlotsReferences.j10 kj116 t227 x7_2 y232 l1 (l1.length : Int) x54_2) = some r := by first | (rw [hy232]; with_reducible exact H) | (have H2_ := (Option.bind_some _ _).symm.trans H; rw [hy232]; with_reducible exact H2_) | (have H2_ := (Option.bind_some _ _).symm.trans H; with_reducible exact H2_) | with_reducible exact H | (rw [hy232]; exact H) | exact H); (have Ny232 := Aside0.mk hy232); (clear hy232); (have H' := Aside0.mk H); (clear H); (have p128 : 0 ≤ (((rd_T34 l1 x54_2).f1) : Int) := of_decide_eq_true (by first | (with_reducible assumption) | assumption)); (have q128 : (((rd_T34 l1 x54_2).f1) : Int) < ((x8_2.length : Int) : Int) := of_decide_eq_true (by first | (with_reducible assumption) | assumption)); (obtain ⟨go128, co128, eo128, gb128, gl128, cl128, HG128⟩ := Kd.R_form HO_8.out (by omega))
                          (first | cases eo128 | (injection eo128 with ea_ en_ ec_; (first | subst ea_ | (injection ea_ with ea_; subst ea_)); subst ec_; clear en_))
                          (have GB128 := Aside0.mk gb128); (have GG128 := Aside0.mk HG128); (clear gb128 gl128 HG128); (obtain ⟨hx128_0, hf128_0⟩ := Kd.R_celln false HO_8.out (((rd_T34 l1 x54_2).f1) : Int) p128 q128); (replace p128 := eq_true p128); (replace q128 := eq_true q128); (have HP129 := Kd.R_putg HO_8.out (((rd_T34 l1 x54_2).f1) : Int) false)
                          go_wp2_with (first | ((with_reducible refine gate_store (t := 4) (p := 220) rfl ?_); refine store_event (t := 4) (p := 220) (v := ?vo_w130) (w1 := (wc.setCell ⟨go128, (((rd_T34 l1 x54_2).f1) : Int).toNat, none⟩ (.bool false))) ?hg ?ho ?hn ?hr ?_; (case ho => rfl); (case hg => rfl); (case hn => rfl); (case hr => first | (go_simp; done) | (go_simp; rfl)); intro w130 hw; have hg : wc.grownBy w130 (some go128) := (by rw [hw]; exact HP129.2); have hp_ : Kd.R Kd.bool 4 w130 w.heap.size (fun _ => True) (.slice (some ⟨go128, 0, none⟩) x8_2.length co128) y232 := (by rw [hw, Ny232.out]; exact HP129.1); clear HP129; have n0_ := Aside0.mk (Kd.R_over' (v := (.slice (some ⟨go128, 0, none⟩) x8_2.length co128)) (by (with_reducible repeat (first | apply Kd.R_alloc | apply Kd.R_drewN | apply Kd.R_drew)); exact HO_5.out) (Kd.R_typed HO_8.out) (by decide) hg); have n1_ := Aside0.mk (Kd.R_over' (v := (.slice (some ⟨go128, 0, none⟩) x8_2.length co128)) (by (with_reducible repeat (first | apply Kd.R_alloc | apply Kd.R_drewN | apply Kd.R_drew)); exact HO_7.out) (Kd.R_typed HO_8.out) (by decide) hg); have n2_ := Aside0.mk (hp_); have n3_ := Aside0.mk (Kd.R_over' (v := (.slice (some ⟨go128, 0, none⟩) x8_2.length co128)) (by (with_reducible repeat (first | apply Kd.R_alloc | apply Kd.R_drewN | apply Kd.R_drew)); exact HO_23.out) (Kd.R_typed HO_8.out) (by decide) hg); have n4_ := Aside0.mk (blk_grown (g := gb201) (o := .cells #[.int .i64 ((rd_T34 l1 x54_2).f0), .int .i64 ((rd_T34 l1 x54_2).f1), .int .i64 ((rd_T34 l1 x54_2).f2)] 34 (0, 0)) (by (with_reducible repeat (first | refine blk_drewN ?_ _ | refine blk_drew ?_ | refine blk_alloc ?_ _)); exact BK201.out) hg (Kd.R_ne HO_8.out BK201.out (by decide))); have n5_ := Aside0.mk ((by rw [hw]; exact below_set (HB.out) GB128.out : Below w.heap.size w w130)); clear HO_5; clear HO_7; clear HO_8; clear HO_23; clear BK201; clear HB; have HO_5 := n0_; have HO_7 := n1_; have HO_8 := n2_; have HO_23 := n3_; have BK201 := n4_; have HB := n5_; clear n0_ n1_ n2_ n3_ n4_ n5_; clear hg hw hp_))
                          go_meet
                          case rel => exact ⟨_, (t227), (x7_2), (y232), H', ⟨by have := HJ2.out; have := HK2.out; have := HJ24.out; have := HJ81.out; have := HJ116.out; first | omega | exact Nat.le_refl _⟩, ⟨by (with_reducible repeat (first | apply Kd.R_alloc | apply Kd.R_drewN | apply Kd.R_drew)); exact Kd.R_mono HO_23.out (fun _ hk => trivial)⟩, ⟨by (with_reducible repeat (first | apply Kd.R_alloc | apply Kd.R_drewN | apply Kd.R_drew)); exact HO_7.out⟩, ⟨by (with_reducible repeat (first | apply Kd.R_alloc | apply Kd.R_drewN | apply Kd.R_drew)); exact HO_8.out⟩, ⟨by (with_reducible repeat (first | refine blk_drewN ?_ _ | refine blk_drew ?_ | refine blk_alloc ?_ _)); exact BK201.out⟩, ⟨by repeat (first | (with_reducible first | exact HB.out | apply below_alloc | apply pw_below_drewN | apply below_drew1 | refine below_set ?_ GE201.out) | exact HB.out)⟩⟩
                    (subst c84); (have H1 : ((slots_Drop.f x5_2 ((rd_T34 l1 x54_2).f1) (((rd_T34 l1 x54_2).f0) == 3)).bind fun bt217 => (if x12_24 = true then (if 0 ≤ ((rd_T34 l1 x54_2).f1) then (if ((rd_T34 l1 x54_2).f1) < (x7_2.length : Int) then (estoverslaw32_SlotsReferences.j7 kj81 x5_2 x7_2 x8_2 ((rd_T34 l1 x54_2).f1) bt217.1 bt217.2.1 bt217.2.2 (decide ((rd x7_2 ((rd_T34 l1 x54_2).f1)) > 0)) l1 (l1.length : Int) x54_2 ((rd_T34 l1 x54_2).f0) ((rd_T34 l1 x54_2).f1) ((rd_T34 l1 x54_2).f2)) else (none)) else (none)) else (estoverslaw32_SlotsReferences.j7 kj81 x5_2 x7_2 x8_2 ((rd_T34 l1 x54_2).f1) bt217.1 bt217.2.1 bt217.2.2 false l1 (l1.length : Int) x54_2 ((rd_T34 l1 x54_2).f0) ((rd_T34 l1 x54_2).f1) ((rd_T34 l1 x54_2).f2)))) = some r := by rw [if_pos rfl] at H; exact H); (clear H); (have H := H1); (clear H1); (replace H := Option.bind_eq_some_iff.mp H); (obtain ⟨⟨t217, t218, t219⟩, A850, H⟩ := H); (replace H : (if x12_24 = true then (if 0 ≤ ((rd_T34 l1 x54_2).f1) then (if ((rd_T34 l1 x54_2).f1) < (x7_2.length : Int) then (estoverslaw32_SlotsReferences.j7 kj81 x5_2 x7_2 x8_2 ((rd_T34 l1 x54_2).f1) t217 t218 t219 (decide ((rd x7_2 ((rd_T34 l1 x54_2).f1)) > 0)) l1 (l1.length : Int) x54_2 ((rd_T34 l1 x54_2).f0) ((rd_T34 l1 x54_2).f1) ((rd_T34 l1 x54_2).f2)) else (none)) else (none)) else (estoverslaw32_SlotsReferences.j7 kj81 x5_2 x7_2 x8_2 ((rd_T34 l1 x54_2).f1) t217 t218 t219 false l1 (l1.length : Int) x54_2 ((rd_T34 l1 x54_2).f0) ((rd_T34 l1 x54_2).f1) ((rd_T34 l1 x54_2).f2))) = some r := H); (have A85 := Aside0.mk A850); (clear A850); (have HC86 := Aside0.mk H); (clear H); (have hcz87_0 : wc.cell? ⟨gb201, 0, none⟩ = some (.int .i64 ((rd_T34 l1 x54_2).f0)) := (blk_cell BK201.out 0).trans rfl); (have hcz87_1 : wc.cell? ⟨gb201, 1, none⟩ = some (.int .i64 ((rd_T34 l1 x54_2).f1)) := (blk_cell BK201.out 1).trans rfl); (have hcz87_2 : wc.cell? ⟨gb201, 2, none⟩ = some (.int .i64 ((rd_T34 l1 x54_2).f2)) := (blk_cell BK201.out 2).trans rfl); (have hfz87_0 := blk_frozen BK201.out 0); (have hfz87_1 := blk_frozen BK201.out 1); (have hfz87_2 := blk_frozen BK201.out 2); (obtain ⟨Ao88, co88, eo88⟩ := Kd.R_slice HO_5.out); (subst eo88)
                    go_upto_region 33 with (first | ((with_reducible refine gate_callee (f := 21) rfl ?_); refine goesL_ (some 150) rfl rfl Try.func21 (by kernel_rfl) rfl #[.slice Ao88 x5_2.length co88, .int .i64 ((rd_T34 l1 x54_2).f1), .bool (((rd_T34 l1 x54_2).f0) == 3)] rfl (by (try simp only [List.map_toArray, List.map_cons, List.map_nil]); first | done | rfl | (simp only [List.length_drop, List.length_take]; rfl)) ?_; (with_reducible refine (slots_Drop.calls _ _ x5_2 ((rd_T34 l1 x54_2).f1) (((rd_T34 l1 x54_2).f0) == 3) t217 t218 t219 _ ?side1 ?side2 A85.out).mono ?_); (case side1 => repeat (first | exact (Kd.R_reads' HO_5.out).2.2 | (with_reducible refine Kd.C_alloc ?_ _) | (with_reducible refine Kd.C_drewN ?_ _) | (with_reducible refine Kd.C_drew ?_))); (case side2 => exact (Kd.R_reads' HO_5.out).2.1); rintro e w89 ⟨v220, rfl, ho0, hb⟩; refine ⟨_, rfl, ?_⟩; have n0_ := Aside0.mk (Kd.R_elder' (by (with_reducible repeat (first | apply Kd.R_alloc | apply Kd.R_drewN | apply Kd.R_drew)); exact HO_5.out) (Kd.R_base ho0) hb); have n1_ := Aside0.mk (Kd.R_below (by (with_reducible repeat (first | apply Kd.R_alloc | apply Kd.R_drewN | apply Kd.R_drew)); exact HO_7.out) hb); have n2_ := Aside0.mk (Kd.R_below (by (with_reducible repeat (first | apply Kd.R_alloc | apply Kd.R_drewN | apply Kd.R_drew)); exact HO_8.out) hb); have n3_ := Aside0.mk (Kd.R_lower (Kd.R_new' ho0 (Kd.R_lt (by (with_reducible repeat (first | apply Kd.R_alloc | apply Kd.R_drewN | apply Kd.R_drew)); exact HO_5.out))) (below_size (by repeat (first | (with_reducible first | exact HB.out | apply below_alloc | apply pw_below_drewN | apply below_drew1 | refine below_set ?_ GE201.out) | exact HB.out)))); have n4_ := Aside0.mk (blk_below (g := gb201) (o := .cells #[.int .i64 ((rd_T34 l1 x54_2).f0), .int .i64 ((rd_T34 l1 x54_2).f1), .int .i64 ((rd_T34 l1 x54_2).f2)] 34 (0, 0)) (by (with_reducible repeat (first | refine blk_drewN ?_ _ | refine blk_drew ?_ | refine blk_alloc ?_ _)); exact BK201.out) hb); have n5_ := Aside0.mk (below_step (by repeat (first | (with_reducible first | exact HB.out | apply below_alloc | apply pw_below_drewN | apply below_drew1 | refine below_set ?_ GE201.out) | exact HB.out)) hb); clear HO_5; clear HO_7; clear HO_8; clear BK201; clear HB; have HO_5 := n0_; have HO_7 := n1_; have HO_8 := n2_; have HO221 := n3_; have BK201 := n4_; have HB := n5_; clear n0_ n1_ n2_ n3_ n4_ n5_; (try clear hb); (try clear hb2); (try clear hk); (try clear hi); (try clear ho0)))
                    (try simp only [Act.put, List.setIfInBounds_toArray, List.set_cons_zero, List.set_cons_succ])
                    go_cut [22] (fun v22 wc => ∃ (kq : Nat) (x22_85 : Bool), v22 = .bool x22_85 ∧ Aside0 (estoverslaw32_SlotsReferences.j7 kq x5_2 x7_2 x8_2 ((rd_T34 l1 x54_2).f1) t217 t218 t219 x22_85 l1 (l1.length : Int) x54_2 ((rd_T34 l1 x54_2).f0) ((rd_T34 l1 x54_2).f1) ((rd_T34 l1 x54_2).f2) = some r) ∧ Aside0 (kq ≤ kj81) ∧ Aside0 (Kd.R k41 41 wc w.heap.size (fun k_ => some k_ ≠ (v220 : Value).ownBlock) (.slice Ao88 x5_2.length co88) x5_2) ∧ Aside0 (Kd.R (Kd.int .i64) 3 wc w.heap.size (fun _ => True) v195 x7_2) ∧ Aside0 (Kd.R Kd.bool 4 wc w.heap.size (fun _ => True) v198 x8_2) ∧ Aside0 (Kd.R k41 41 wc w.heap.size (fun k_ => some k_ ≠ ((.slice Ao88 x5_2.length co88) : Value).ownBlock) v220 t217) ∧ Aside0 (wc.heap[gb201]? = some (.cells #[.int .i64 ((rd_T34 l1 x54_2).f0), .int .i64 ((rd_T34 l1 x54_2).f1), .int .i64 ((rd_T34 l1 x54_2).f2)] 34 (0, 0))) ∧ Aside0 (Below w.heap.size w wc))
                    case first =>
                      (have H := HC86.out); (clear HC86)
                      by_cases c90 : x12_24 = true
                      rotate_left
                      · replace c90 := Bool.eq_false_iff.mpr c90
                        (subst c90); (have H1 : (estoverslaw32_SlotsReferences.j7 kj81 x5_2 x7_2 x8_2 ((rd_T34 l1 x54_2).f1) t217 t218 t219 false l1 (l1.length : Int) x54_2 ((rd_T34 l1 x54_2).f0) ((rd_T34 l1 x54_2).f1) ((rd_T34 l1 x54_2).f2)) = some r := by rw [if_neg (show ¬ (false = true) by decide)] at H; exact H); (clear H); (have H := H1); (clear H1); (have H' := Aside0.mk H); (clear H)
                        go_wp2
                        go_meet
                        case rel => exact ⟨_, (false), (by first | rfl | (simp; done) | (simp [*]; done)), H', ⟨by have := HJ2.out; have := HK2.out; have := HJ24.out; have := HJ81.out; first | omega | exact Nat.le_refl _⟩, ⟨by (with_reducible repeat (first | apply Kd.R_alloc | apply Kd.R_drewN | apply Kd.R_drew)); exact Kd.R_mono HO_5.out (fun _ hk => hk.2)⟩, ⟨by (with_reducible repeat (first | apply Kd.R_alloc | apply Kd.R_drewN | apply Kd.R_drew)); exact HO_7.out⟩, ⟨by (with_reducible repeat (first | apply Kd.R_alloc | apply Kd.R_drewN | apply Kd.R_drew)); exact HO_8.out⟩, ⟨by (with_reducible repeat (first | apply Kd.R_alloc | apply Kd.R_drewN | apply Kd.R_drew)); exact Kd.R_mono HO221.out (fun _ hk => hk.2)⟩, ⟨by (with_reducible repeat (first | refine blk_drewN ?_ _ | refine blk_drew ?_ | refine blk_alloc ?_ _)); exact BK201.out⟩, ⟨by repeat (first | (with_reducible first | exact HB.out | apply below_alloc | apply pw_below_drewN | apply below_drew1 | refine below_set ?_ GE201.out) | exact HB.out)⟩⟩
                      (subst c90); (have H1 : (if 0 ≤ ((rd_T34 l1 x54_2).f1) then (if ((rd_T34 l1 x54_2).f1) < (x7_2.length : Int) then (estoverslaw32_SlotsReferences.j7 kj81 x5_2 x7_2 x8_2 ((rd_T34 l1 x54_2).f1) t217 t218 t219 (decide ((rd x7_2 ((rd_T34 l1 x54_2).f1)) > 0)) l1 (l1.length : Int) x54_2 ((rd_T34 l1 x54_2).f0) ((rd_T34 l1 x54_2).f1) ((rd_T34 l1 x54_2).f2)) else (none)) else (none)) = some r := by rw [if_pos rfl] at H; exact H); (clear H); (have H := H1); (clear H1)
                      by_cases c91 : 0 ≤ ((rd_T34 l1 x54_2).f1)
                      rotate_left
                      · rw [if_neg c91] at H
                        exact absurd H (by simp)
                      (rw [if_pos c91] at H); (have c91b0 : decide (0 ≤ ((rd_T34 l1 x54_2).f1)) = true := decide_eq_true c91); (clear c91)
                      (first | rw [c91b0] | (simp only [i64_w, i32_w]; rw [c91b0]) | skip)
                      by_cases c92 : ((rd_T34 l1 x54_2).f1) < (x7_2.length : Int)
                      rotate_left
                      · rw [if_neg c92] at H
                        exact absurd H (by simp)
                      (rw [if_pos c92] at H); (have c92b0 : decide (((rd_T34 l1 x54_2).f1) < (x7_2.length : Int)) = true := decide_eq_true c92); (clear c92); (have H' := Aside0.mk H); (clear H); (obtain ⟨Ao93, co93, eo93⟩ := Kd.R_slice HO_7.out); (subst eo93); (have p222 : 0 ≤ (((rd_T34 l1 x54_2).f1) : Int) := of_decide_eq_true (by first | (with_reducible assumption) | assumption)); (have q222 : ((rd_T34 l1 x54_2).f1) < (x7_2.length : Int) := of_decide_eq_true (by first | (with_reducible assumption) | assumption)); (obtain ⟨ad222, e222, hx222_0⟩ := Kd.at_int (Kd.R_reads' HO_7.out).2.2 ((rd_T34 l1 x54_2).f1) p222 q222)
                      cases e222
                      (replace p222 := eq_true p222); (replace q222 := eq_true q222)
                      go_wp2
                      go_meet
                      case rel => exact ⟨_, (decide ((rd x7_2 ((rd_T34 l1 x54_2).f1)) > 0)), (by first | rfl | (simp; done) | (simp [*]; done)), H', ⟨by have := HJ2.out; have := HK2.out; have := HJ24.out; have := HJ81.out; first | omega | exact Nat.le_refl _⟩, ⟨by (with_reducible repeat (first | apply Kd.R_alloc | apply Kd.R_drewN | apply Kd.R_drew)); exact Kd.R_mono HO_5.out (fun _ hk => hk.2)⟩, ⟨by (with_reducible repeat (first | apply Kd.R_alloc | apply Kd.R_drewN | apply Kd.R_drew)); exact HO_7.out⟩, ⟨by (with_reducible repeat (first | apply Kd.R_alloc | apply Kd.R_drewN | apply Kd.R_drew)); exact HO_8.out⟩, ⟨by (with_reducible repeat (first | apply Kd.R_alloc | apply Kd.R_drewN | apply Kd.R_drew)); exact Kd.R_mono HO221.out (fun _ hk => hk.2)⟩, ⟨by (with_reducible repeat (first | refine blk_drewN ?_ _ | refine blk_drew ?_ | refine blk_alloc ?_ _)); exact BK201.out⟩, ⟨by repeat (first | (with_reducible first | exact HB.out | apply below_alloc | apply pw_below_drewN | apply below_drew1 | refine below_set ?_ GE201.out) | exact HB.out)⟩⟩
                    case rest => as_aux_lemma =>
                      (clear HC86); (try clear c1); (try clear c2); (try clear p2); (try clear q2); (try clear hx2); (try clear c3); (try clear c4); (try clear q4); (try clear c5); (try clear p5); (try clear q5); (try clear hx5); (try clear hf5); (try clear c6); (try clear p6); (try clear q6); (try clear hx6); (try clear hf6); (try clear c7); (try clear p7); (try clear q7); (try clear hx7); (try clear hf7); (try clear c8); (try clear c9); (try clear c10); (try clear c12); (try clear c12b0); (try clear c12b1); (try clear c13); (try clear c13b0); (try clear c13b1); (try clear c14); (try clear c14b0); (try clear c14b1); (try clear c15); (try clear c15b0); (try clear c15b1); (try clear c19); (try clear c20); (try clear p20); (try clear q20); (try clear hx20); (try clear c21); (try clear p21); (try clear q21); (try clear hx21); (try clear c22); (try clear c22b0); (try clear p22); (try clear q22); (try clear hx22); (try clear c23); (try clear c23b0); (try clear c24); (try clear c24b0); (try clear c28); (try clear c28b0); (try clear c29); (try clear c29b0); (try clear c30); (try clear c30b0); (try clear c31); (try clear c31b0); (try clear c37); (try clear c37b0); (try clear c37b1); (try clear c42); (try clear c42b0); (try clear c43); (try clear c43b0); (try clear q44); (try clear c45); (try clear c50); (try clear c50b0); (try clear c50b1); (try clear c50b2); (try clear c52); (try clear c52b0); (try clear c52b1); (try clear c55); (try clear c56); (try clear c56b0); (try clear c56b1); (try clear c57); (try clear c57b0); (try clear c58); (try clear c58b0); (try clear p59); (try clear q59); (try clear hx59); (try clear hf59); (try clear c60); (try clear c60b0); (try clear p61); (try clear q61); (try clear hx61); (try clear hf61); (try clear p64); (try clear c66); (try clear c66b0); (try clear c66b1); (try clear c68); (try clear c68b0); (try clear c68b1); (try clear c68b2); (try clear c71); (try clear c72); (try clear c72b0); (try clear c73); (try clear c73b0); (try clear p74); (try clear q74); (try clear hx74); (try clear hf74); (try clear c83); (try clear c83b0); (try clear c83b1); (try clear c84); (try clear c90); (try clear c91); (try clear c91b0); (try clear c92); (try clear c92b0); (try clear hcz27_0); (try clear hcz27_1); (try clear hcz27_2); (try clear hcz36_0); (try clear hcz36_1); (try clear hcz36_2); (try clear hcz87_0); (try clear hcz87_1); (try clear hcz87_2); (try clear hfz27_0); (try clear hfz27_1); (try clear hfz27_2); (try clear hfz36_0); (try clear hfz36_1); (try clear hfz36_2); (try clear hfz87_0); (try clear hfz87_1); (try clear hfz87_2); (try clear hx200_0); (try clear hx200_1); (try clear hx200_2); (try clear hx202_0); (try clear hx208_0); (try clear hx215_0); (try clear hx222_0); (try clear hx59_0); (try clear hx61_0); (try clear hx74_0); (try clear p2); (try clear p20); (try clear p200); (try clear p202); (try clear p208); (try clear p21); (try clear p215); (try clear p222); (try clear p5); (try clear p59); (try clear p6); (try clear p61); (try clear p64); (try clear p7); (try clear p74); (try clear q2); (try clear q20); (try clear q200); (try clear q202); (try clear q208); (try clear q21); (try clear q215); (try clear q222); (try clear q4); (try clear q44); (try clear q5); (try clear q59); (try clear q6); (try clear q61); (try clear q7); (try clear q74); (obtain ⟨kq, x22_85, rfl, HA, HJ85, HO_5, HO_7, HO_8, HO_19, BK201, HB⟩ := hcut)
                      cases kq with
                      | zero => exact absurd HA.out (by simp [estoverslaw32_SlotsReferences.j7])
                      | succ kj85 =>
                        (have H := HA.out); (clear HA); (simp only [estoverslaw32_SlotsReferences.j7] at H); (have HC94 := Aside0.mk H); (clear H)
                        go_upto_region 34 with (fail)
                        go_cut [182] (fun v182 wc => ∃ (kq : Nat) (x182_93 : Bool), v182 = .bool x182_93 ∧ Aside0 (estoverslaw32_SlotsReferences.j8 kq x5_2 x7_2 x8_2 ((rd_T34 l1 x54_2).f1) t217 t218 x22_85 l1 (l1.length : Int) x54_2 x182_93 = some r) ∧ Aside0 (kq ≤ kj85) ∧ Aside0 (Kd.R k41 41 wc w.heap.size (fun k_ => some k_ ≠ (v220 : Value).ownBlock) (.slice Ao88 x5_2.length co88) x5_2) ∧ Aside0 (Kd.R (Kd.int .i64) 3 wc w.heap.size (fun _ => True) v195 x7_2) ∧ Aside0 (Kd.R Kd.bool 4 wc w.heap.size (fun _ => True) v198 x8_2) ∧ Aside0 (Kd.R k41 41 wc w.heap.size (fun k_ => some k_ ≠ ((.slice Ao88 x5_2.length co88) : Value).ownBlock) v220 t217) ∧ Aside0 (wc.heap[gb201]? = some (.cells #[.int .i64 ((rd_T34 l1 x54_2).f0), .int .i64 ((rd_T34 l1 x54_2).f1), .int .i64 ((rd_T34 l1 x54_2).f2)] 34 (0, 0))) ∧ Aside0 (Below w.heap.size w wc))
                        case first =>
                          (have H := HC94.out); (clear HC94)
                          by_cases c95 : ((t219 == 0) != x22_85) = true
                          · rw [if_pos c95] at H
                            have c95b0 : ((t219 == 0) != x22_85) = true := c95
                            (try (have c95b1 : decide ((t219 == 0) = x22_85) = false := by simpa using c95))
                            (try (have c95b2 : ((t219 == 0) == x22_85) = false := by simpa using c95))
                            (try (have c95b3 : ¬ ((t219 == 0) = x22_85) := by simpa using c95))
                            clear c95
                            (first | rw [c95b0] | (simp only [i64_w, i32_w]; rw [c95b0]) | skip)
                            (have H' := Aside0.mk H); (clear H)
                            go_wp2
                            go_meet
                            case rel => exact ⟨_, (true), (by first | rfl | (simp; done) | (simp [*]; done)), H', ⟨by have := HJ2.out; have := HK2.out; have := HJ24.out; have := HJ81.out; have := HJ85.out; first | omega | exact Nat.le_refl _⟩, ⟨by (with_reducible repeat (first | apply Kd.R_alloc | apply Kd.R_drewN | apply Kd.R_drew)); exact HO_5.out⟩, ⟨by (with_reducible repeat (first | apply Kd.R_alloc | apply Kd.R_drewN | apply Kd.R_drew)); exact HO_7.out⟩, ⟨by (with_reducible repeat (first | apply Kd.R_alloc | apply Kd.R_drewN | apply Kd.R_drew)); exact HO_8.out⟩, ⟨by (with_reducible repeat (first | apply Kd.R_alloc | apply Kd.R_drewN | apply Kd.R_drew)); exact HO_19.out⟩, ⟨by (with_reducible repeat (first | refine blk_drewN ?_ _ | refine blk_drew ?_ | refine blk_alloc ?_ _)); exact BK201.out⟩, ⟨by repeat (first | (with_reducible first | exact HB.out | apply below_alloc | apply pw_below_drewN | apply below_drew1 | refine below_set ?_ GE201.out) | exact HB.out)⟩⟩
                          (rw [if_neg c95] at H); (have c95b0 : ((t219 == 0) != x22_85) = false := by simpa using c95)
                          (try (have c95b1 : decide ((t219 == 0) = x22_85) = true := by simpa using c95))
                          (try (have c95b2 : ((t219 == 0) == x22_85) = true := by simpa using c95))
                          clear c95
                          (first | rw [c95b0] | (simp only [i64_w, i32_w]; rw [c95b0]) | skip)
                          by_cases c96 : x22_85 = true
                          rotate_left
                          · replace c96 := Bool.eq_false_iff.mpr c96
                            (subst c96); (have H1 : (estoverslaw32_SlotsReferences.j8 kj85 x5_2 x7_2 x8_2 ((rd_T34 l1 x54_2).f1) t217 t218 false l1 (l1.length : Int) x54_2 (t218 != false)) = some r := by rw [if_neg (show ¬ (false = true) by decide)] at H; exact H); (clear H); (have H := H1); (clear H1); (have H' := Aside0.mk H); (clear H)
                            go_wp2
                            go_meet
                            case rel => exact ⟨_, ((t218 != false)), (by first | rfl | (simp; done) | (simp [*]; done)), H', ⟨by have := HJ2.out; have := HK2.out; have := HJ24.out; have := HJ81.out; have := HJ85.out; first | omega | exact Nat.le_refl _⟩, ⟨by (with_reducible repeat (first | apply Kd.R_alloc | apply Kd.R_drewN | apply Kd.R_drew)); exact HO_5.out⟩, ⟨by (with_reducible repeat (first | apply Kd.R_alloc | apply Kd.R_drewN | apply Kd.R_drew)); exact HO_7.out⟩, ⟨by (with_reducible repeat (first | apply Kd.R_alloc | apply Kd.R_drewN | apply Kd.R_drew)); exact HO_8.out⟩, ⟨by (with_reducible repeat (first | apply Kd.R_alloc | apply Kd.R_drewN | apply Kd.R_drew)); exact HO_19.out⟩, ⟨by (with_reducible repeat (first | refine blk_drewN ?_ _ | refine blk_drew ?_ | refine blk_alloc ?_ _)); exact BK201.out⟩, ⟨by repeat (first | (with_reducible first | exact HB.out | apply below_alloc | apply pw_below_drewN | apply below_drew1 | refine below_set ?_ GE201.out) | exact HB.out)⟩⟩
                          (subst c96); (have H1 : (if 0 ≤ ((rd_T34 l1 x54_2).f1) then (if ((rd_T34 l1 x54_2).f1) < (x7_2.length : Int) then (if (rd x7_2 ((rd_T34 l1 x54_2).f1)) = 1 then (estoverslaw32_SlotsReferences.j8 kj85 x5_2 x7_2 x8_2 ((rd_T34 l1 x54_2).f1) t217 t218 true l1 (l1.length : Int) x54_2 (t218 != (((rd_T34 l1 x54_2).f0) == 2))) else (estoverslaw32_SlotsReferences.j8 kj85 x5_2 x7_2 x8_2 ((rd_T34 l1 x54_2).f1) t217 t218 true l1 (l1.length : Int) x54_2 (t218 != false))) else (none)) else (none)) = some r := by rw [if_pos rfl] at H; exact H); (clear H); (have H := H1); (clear H1)
                          by_cases c97 : 0 ≤ ((rd_T34 l1 x54_2).f1)
                          rotate_left
                          · rw [if_neg c97] at H
                            exact absurd H (by simp)
                          (rw [if_pos c97] at H); (have c97b0 : decide (0 ≤ ((rd_T34 l1 x54_2).f1)) = true := decide_eq_true c97); (clear c97)
                          by_cases c98 : ((rd_T34 l1 x54_2).f1) < (x7_2.length : Int)
                          rotate_left
                          · rw [if_neg c98] at H
                            exact absurd H (by simp)
                          (rw [if_pos c98] at H); (have c98b0 : decide (((rd_T34 l1 x54_2).f1) < (x7_2.length : Int)) = true := decide_eq_true c98); (clear c98)
                          by_cases c99 : (rd x7_2 ((rd_T34 l1 x54_2).f1)) = 1
                          rotate_left
                          · rw [if_neg c99] at H
                            (have c99b0 : ((rd x7_2 ((rd_T34 l1 x54_2).f1)) == 1) = false := beq_eq_false_iff_ne.mpr c99); (have c99b1 : ((rd x7_2 ((rd_T34 l1 x54_2).f1)) != 1) = true := bne_iff_ne.mpr c99); (have H' := Aside0.mk H); (clear H); (obtain ⟨Ao102, co102, eo102⟩ := Kd.R_slice HO_7.out); (subst eo102); (have p223 : 0 ≤ (((rd_T34 l1 x54_2).f1) : Int) := of_decide_eq_true (by first | (with_reducible assumption) | assumption)); (have q223 : ((rd_T34 l1 x54_2).f1) < (x7_2.length : Int) := of_decide_eq_true (by first | (with_reducible assumption) | assumption)); (obtain ⟨ad223, e223, hx223_0⟩ := Kd.at_int (Kd.R_reads' HO_7.out).2.2 ((rd_T34 l1 x54_2).f1) p223 q223)
                            cases e223
                            (replace p223 := eq_true p223); (replace q223 := eq_true q223)
                            go_wp2
                            go_meet
                            case rel => exact ⟨_, ((t218 != false)), (by first | rfl | (simp; done) | (simp [*]; done)), H', ⟨by have := HJ2.out; have := HK2.out; have := HJ24.out; have := HJ81.out; have := HJ85.out; first | omega | exact Nat.le_refl _⟩, ⟨by (with_reducible repeat (first | apply Kd.R_alloc | apply Kd.R_drewN | apply Kd.R_drew)); exact HO_5.out⟩, ⟨by (with_reducible repeat (first | apply Kd.R_alloc | apply Kd.R_drewN | apply Kd.R_drew)); exact HO_7.out⟩, ⟨by (with_reducible repeat (first | apply Kd.R_alloc | apply Kd.R_drewN | apply Kd.R_drew)); exact HO_8.out⟩, ⟨by (with_reducible repeat (first | apply Kd.R_alloc | apply Kd.R_drewN | apply Kd.R_drew)); exact HO_19.out⟩, ⟨by (with_reducible repeat (first | refine blk_drewN ?_ _ | refine blk_drew ?_ | refine blk_alloc ?_ _)); exact BK201.out⟩, ⟨by repeat (first | (with_reducible first | exact HB.out | apply below_alloc | apply pw_below_drewN | apply below_drew1 | refine below_set ?_ GE201.out) | exact HB.out)⟩⟩
                          (rw [if_pos c99] at H); (have c99b0 : ((rd x7_2 ((rd_T34 l1 x54_2).f1)) == 1) = true := beq_iff_eq.mpr c99); (have c99b1 : ((rd x7_2 ((rd_T34 l1 x54_2).f1)) != 1) = false := bne_eq_false_iff_eq.mpr c99); (clear c99); (have H' := Aside0.mk H); (clear H); (obtain ⟨Ao100, co100, eo100⟩ := Kd.R_slice HO_7.out); (subst eo100); (have p223 : 0 ≤ (((rd_T34 l1 x54_2).f1) : Int) := of_decide_eq_true (by first | (with_reducible assumption) | assumption)); (have q223 : ((rd_T34 l1 x54_2).f1) < (x7_2.length : Int) := of_decide_eq_true (by first | (with_reducible assumption) | assumption)); (obtain ⟨ad223, e223, hx223_0⟩ := Kd.at_int (Kd.R_reads' HO_7.out).2.2 ((rd_T34 l1 x54_2).f1) p223 q223)
                          cases e223
                          (replace p223 := eq_true p223); (replace q223 := eq_true q223); (have hcz101_0 : wc.cell? ⟨gb201, 0, none⟩ = some (.int .i64 ((rd_T34 l1 x54_2).f0)) := (blk_cell BK201.out 0).trans rfl); (have hcz101_1 : wc.cell? ⟨gb201, 1, none⟩ = some (.int .i64 ((rd_T34 l1 x54_2).f1)) := (blk_cell BK201.out 1).trans rfl); (have hcz101_2 : wc.cell? ⟨gb201, 2, none⟩ = some (.int .i64 ((rd_T34 l1 x54_2).f2)) := (blk_cell BK201.out 2).trans rfl); (have hfz101_0 := blk_frozen BK201.out 0); (have hfz101_1 := blk_frozen BK201.out 1); (have hfz101_2 := blk_frozen BK201.out 2)
                          go_wp2
                          go_meet
                          case rel => exact ⟨_, ((t218 != (((rd_T34 l1 x54_2).f0) == 2))), (by first | rfl | (simp; done) | (simp [*]; done)), H', ⟨by have := HJ2.out; have := HK2.out; have := HJ24.out; have := HJ81.out; have := HJ85.out; first | omega | exact Nat.le_refl _⟩, ⟨by (with_reducible repeat (first | apply Kd.R_alloc | apply Kd.R_drewN | apply Kd.R_drew)); exact HO_5.out⟩, ⟨by (with_reducible repeat (first | apply Kd.R_alloc | apply Kd.R_drewN | apply Kd.R_drew)); exact HO_7.out⟩, ⟨by (with_reducible repeat (first | apply Kd.R_alloc | apply Kd.R_drewN | apply Kd.R_drew)); exact HO_8.out⟩, ⟨by (with_reducible repeat (first | apply Kd.R_alloc | apply Kd.R_drewN | apply Kd.R_drew)); exact HO_19.out⟩, ⟨by (with_reducible repeat (first | refine blk_drewN ?_ _ | refine blk_drew ?_ | refine blk_alloc ?_ _)); exact BK201.out⟩, ⟨by repeat (first | (with_reducible first | exact HB.out | apply below_alloc | apply pw_below_drewN | apply below_drew1 | refine below_set ?_ GE201.out) | exact HB.out)⟩⟩
                        case rest => as_aux_lemma =>
                          (clear HC94); (try clear c1); (try clear c2); (try clear p2); (try clear q2); (try clear hx2); (try clear c3); (try clear c4); (try clear q4); (try clear c5); (try clear p5); (try clear q5); (try clear hx5); (try clear hf5); (try clear c6); (try clear p6); (try clear q6); (try clear hx6); (try clear hf6); (try clear c7); (try clear p7); (try clear q7); (try clear hx7); (try clear hf7); (try clear c8); (try clear c9); (try clear c10); (try clear c12); (try clear c12b0); (try clear c12b1); (try clear c13); (try clear c13b0); (try clear c13b1); (try clear c14); (try clear c14b0); (try clear c14b1); (try clear c15); (try clear c15b0); (try clear c15b1); (try clear c19); (try clear c20); (try clear p20); (try clear q20); (try clear hx20); (try clear c21); (try clear p21); (try clear q21); (try clear hx21); (try clear c22); (try clear c22b0); (try clear p22); (try clear q22); (try clear hx22); (try clear c23); (try clear c23b0); (try clear c24); (try clear c24b0); (try clear c28); (try clear c28b0); (try clear c29); (try clear c29b0); (try clear c30); (try clear c30b0); (try clear c31); (try clear c31b0); (try clear c37); (try clear c37b0); (try clear c37b1); (try clear c42); (try clear c42b0); (try clear c43); (try clear c43b0); (try clear q44); (try clear c45); (try clear c50); (try clear c50b0); (try clear c50b1); (try clear c50b2); (try clear c52); (try clear c52b0); (try clear c52b1); (try clear c55); (try clear c56); (try clear c56b0); (try clear c56b1); (try clear c57); (try clear c57b0); (try clear c58); (try clear c58b0); (try clear p59); (try clear q59); (try clear hx59); (try clear hf59); (try clear c60); (try clear c60b0); (try clear p61); (try clear q61); (try clear hx61); (try clear hf61); (try clear p64); (try clear c66); (try clear c66b0); (try clear c66b1); (try clear c68); (try clear c68b0); (try clear c68b1); (try clear c68b2); (try clear c71); (try clear c72); (try clear c72b0); (try clear c73); (try clear c73b0); (try clear p74); (try clear q74); (try clear hx74); (try clear hf74); (try clear c83); (try clear c83b0); (try clear c83b1); (try clear c84); (try clear c90); (try clear c91); (try clear c91b0); (try clear c92); (try clear c92b0); (try clear c95); (try clear c95b0); (try clear c95b1); (try clear c95b2); (try clear c96); (try clear c97); (try clear c97b0); (try clear c98); (try clear c98b0); (try clear c99); (try clear c99b0); (try clear c99b1); (try clear hcz101_0); (try clear hcz101_1); (try clear hcz101_2); (try clear hcz27_0); (try clear hcz27_1); (try clear hcz27_2); (try clear hcz36_0); (try clear hcz36_1); (try clear hcz36_2); (try clear hcz87_0); (try clear hcz87_1); (try clear hcz87_2); (try clear hfz101_0); (try clear hfz101_1); (try clear hfz101_2); (try clear hfz27_0); (try clear hfz27_1); (try clear hfz27_2); (try clear hfz36_0); (try clear hfz36_1); (try clear hfz36_2); (try clear hfz87_0); (try clear hfz87_1); (try clear hfz87_2); (try clear hx200_0); (try clear hx200_1); (try clear hx200_2); (try clear hx202_0); (try clear hx208_0); (try clear hx215_0); (try clear hx222_0); (try clear hx223_0); (try clear hx59_0); (try clear hx61_0); (try clear hx74_0); (try clear p2); (try clear p20); (try clear p200); (try clear p202); (try clear p208); (try clear p21); (try clear p215); (try clear p22); (try clear p222); (try clear p223); (try clear p5); (try clear p59); (try clear p6); (try clear p61); (try clear p64); (try clear p7); (try clear p74); (try clear q2); (try clear q20); (try clear q200); (try clear q202); (try clear q208); (try clear q21); (try clear q215); (try clear q22); (try clear q222); (try clear q223); (try clear q4); (try clear q44); (try clear q5); (try clear q59); (try clear q6); (try clear q61); (try clear q7); (try clear q74); (obtain ⟨kq, x182_93, rfl, HA, HJ93, HO_5, HO_7, HO_8, HO_19, BK201, HB⟩ := hcut)
                          cases kq with
                          | zero => exact absurd HA.out (by simp [estoverslaw32_SlotsReferences.j8])
                          | succ kj93 =>
                            (have H := HA.out); (clear HA); (simp only [estoverslaw32_SlotsReferences.j8] at H)
                            by_cases c103 : x182_93 = true
                            · rw [if_pos c103] at H
                              exact absurd ((Option.some.inj H).trans HRT.out) (by decide)
                            (replace c103 := Bool.eq_false_iff.mpr c103); (subst c103); (have H1 : (if x22_85 = true then (if 0 ≤ ((rd_T34 l1 x54_2).f1) then (if ((rd_T34 l1 x54_2).f1) < (x7_2.length : Int) then (if ((rd_T34 l1 x54_2).f1) < (x8_2.length : Int) then (estoverslaw32_SlotsReferences.j10 kj93 t217 (x7_2.set (((rd_T34 l1 x54_2).f1) : Int).toNat (wrap64 ((rd x7_2 ((rd_T34 l1 x54_2).f1)) - 1))) (x8_2.set (((rd_T34 l1 x54_2).f1) : Int).toNat (!t218)) l1 (l1.length : Int) x54_2) else (none)) else (none)) else (none)) else (estoverslaw32_SlotsReferences.j10 kj93 x5_2 x7_2 x8_2 l1 (l1.length : Int) x54_2)) = some r := by rw [if_neg (show ¬ (false = true) by decide)] at H; exact H); (clear H); (have H := H1); (clear H1)
                            by_cases c104 : x22_85 = true
                            rotate_left
                            · replace c104 := Bool.eq_false_iff.mpr c104
                              (subst c104); (have H1 : (estoverslaw32_SlotsReferences.j10 kj93 x5_2 x7_2 x8_2 l1 (l1.length : Int) x54_2) = some r := by rw [if_neg (show ¬ (false = true) by decide)] at H; exact H); (clear H); (have H := H1); (clear H1); (have H' := Aside0.mk H); (clear H)
                              go_wp2
                              go_meet
                              case rel => exact ⟨_, (x5_2), (x7_2), (x8_2), H', ⟨by have := HJ2.out; have := HK2.out; have := HJ24.out; have := HJ81.out; have := HJ85.out; have := HJ93.out; first | omega | exact Nat.le_refl _⟩, ⟨by (with_reducible repeat (first | apply Kd.R_alloc | apply Kd.R_drewN | apply Kd.R_drew)); exact Kd.R_mono HO_5.out (fun _ hk => trivial)⟩, ⟨by (with_reducible repeat (first | apply Kd.R_alloc | apply Kd.R_drewN | apply Kd.R_drew)); exact HO_7.out⟩, ⟨by (with_reducible repeat (first | apply Kd.R_alloc | apply Kd.R_drewN | apply Kd.R_drew)); exact HO_8.out⟩, ⟨by (with_reducible repeat (first | refine blk_drewN ?_ _ | refine blk_drew ?_ | refine blk_alloc ?_ _)); exact BK201.out⟩, ⟨by repeat (first | (with_reducible first | exact HB.out | apply below_alloc | apply pw_below_drewN | apply below_drew1 | refine below_set ?_ GE201.out) | exact HB.out)⟩⟩
                            (subst c104); (have H1 : (if 0 ≤ ((rd_T34 l1 x54_2).f1) then (if ((rd_T34 l1 x54_2).f1) < (x7_2.length : Int) then (if ((rd_T34 l1 x54_2).f1) < (x8_2.length : Int) then (estoverslaw32_SlotsReferences.j10 kj93 t217 (x7_2.set (((rd_T34 l1 x54_2).f1) : Int).toNat (wrap64 ((rd x7_2 ((rd_T34 l1 x54_2).f1)) - 1))) (x8_2.set (((rd_T34 l1 x54_2).f1) : Int).toNat (!t218)) l1 (l1.length : Int) x54_2) else (none)) else (none)) else (none)) = some r := by rw [if_pos rfl] at H; exact H); (clear H); (have H := H1); (clear H1)
                            by_cases c105 : 0 ≤ ((rd_T34 l1 x54_2).f1)
                            rotate_left
                            · rw [if_neg c105] at H
                              exact absurd H (by simp)
                            (rw [if_pos c105] at H); (have c105b0 : decide (0 ≤ ((rd_T34 l1 x54_2).f1)) = true := decide_eq_true c105); (clear c105)
                            by_cases c106 : ((rd_T34 l1 x54_2).f1) < (x7_2.length : Int)
                            rotate_left
                            · rw [if_neg c106] at H
                              exact absurd H (by simp)
                            (rw [if_pos c106] at H); (have c106b0 : decide (((rd_T34 l1 x54_2).f1) < (x7_2.length : Int)) = true := decide_eq_true c106); (clear c106); (obtain ⟨y225, hy225⟩ : ∃ y_ : List Int, y_ = (x7_2.set (((rd_T34 l1 x54_2).f1) : Int).toNat (wrap64 ((rd x7_2 ((rd_T34 l1 x54_2).f1)) - 1))) := ⟨_, rfl⟩); (replace H : (if ((rd_T34 l1 x54_2).f1) < (x8_2.length : Int) then (estoverslaw32_SlotsReferences.j10 kj93 t217 y225 (x8_2.set (((rd_T34 l1 x54_2).f1) : Int).toNat (!t218)) l1 (l1.length : Int) x54_2) else (none)) = some r := by first | (rw [hy225]; with_reducible exact H) | (have H2_ := (Option.bind_some _ _).symm.trans H; rw [hy225]; with_reducible exact H2_) | (have H2_ := (Option.bind_some _ _).symm.trans H; with_reducible exact H2_) | with_reducible exact H | (rw [hy225]; exact H) | exact H); (have Ny225 := Aside0.mk hy225); (clear hy225)
                            by_cases c108 : ((rd_T34 l1 x54_2).f1) < (x8_2.length : Int)
                            rotate_left
                            · rw [if_neg c108] at H
                              exact absurd H (by simp)
                            (rw [if_pos c108] at H); (have c108b0 : decide (((rd_T34 l1 x54_2).f1) < (x8_2.length : Int)) = true := decide_eq_true c108); (clear c108); (obtain ⟨y226, hy226⟩ : ∃ y_ : List Bool, y_ = (x8_2.set (((rd_T34 l1 x54_2).f1) : Int).toNat (!t218)) := ⟨_, rfl⟩); (replace H : (estoverslaw32_SlotsReferences.j10 kj93 t217 y225 y226 l1 (l1.length : Int) x54_2) = some r := by first | (rw [hy226]; with_reducible exact H) | (have H2_ := (Option.bind_some _ _).symm.trans H; rw [hy226]; with_reducible exact H2_) | (have H2_ := (Option.bind_some _ _).symm.trans H; with_reducible exact H2_) | with_reducible exact H | (rw [hy226]; exact H) | exact H); (have Ny226 := Aside0.mk hy226); (clear hy226); (have H' := Aside0.mk H); (clear H); (obtain ⟨Ao110, co110, eo110⟩ := Kd.R_slice HO_7.out); (subst eo110); (have p224 : 0 ≤ (((rd_T34 l1 x54_2).f1) : Int) := of_decide_eq_true (by first | (with_reducible assumption) | assumption)); (have q224 : ((rd_T34 l1 x54_2).f1) < (x7_2.length : Int) := of_decide_eq_true (by first | (with_reducible assumption) | assumption)); (obtain ⟨ad224, e224, hx224_0⟩ := Kd.at_int (Kd.R_reads' HO_7.out).2.2 ((rd_T34 l1 x54_2).f1) p224 q224)
                            cases e224
                            (replace p224 := eq_true p224); (replace q224 := eq_true q224); (have p107 : 0 ≤ (((rd_T34 l1 x54_2).f1) : Int) := of_decide_eq_true (by first | (with_reducible assumption) | assumption)); (have q107 : (((rd_T34 l1 x54_2).f1) : Int) < ((x7_2.length : Int) : Int) := of_decide_eq_true (by first | (with_reducible assumption) | assumption)); (obtain ⟨go107, co107, eo107, gb107, gl107, cl107, HG107⟩ := Kd.R_form HO_7.out (by omega))
                            (first | cases eo107 | (injection eo107 with ea_ en_ ec_; (first | subst ea_ | (injection ea_ with ea_; subst ea_)); subst ec_; clear en_))
                            (have GB107 := Aside0.mk gb107); (have GG107 := Aside0.mk HG107); (clear gb107 gl107 HG107)
                            (first | simp only [add_plain] at hx224_0 | skip)
                            (obtain ⟨hx107_0, hf107_0⟩ := Kd.R_celln 0 HO_7.out (((rd_T34 l1 x54_2).f1) : Int) p107 q107); (replace p107 := eq_true p107); (replace q107 := eq_true q107); (have HP111 := Kd.R_putg HO_7.out (((rd_T34 l1 x54_2).f1) : Int) (wrap64 ((rd x7_2 ((rd_T34 l1 x54_2).f1)) - 1)))
                            go_wp2_with (first | ((with_reducible refine gate_store (t := 3) (p := 190) rfl ?_); refine store_event (t := 3) (p := 190) (v := ?vo_w112) (w1 := (wc.setCell ⟨go107, (((rd_T34 l1 x54_2).f1) : Int).toNat, none⟩ (.int .i64 (wrap64 ((rd x7_2 ((rd_T34 l1 x54_2).f1)) - 1))))) ?hg ?ho ?hn ?hr ?_; (case ho => rfl); (case hg => rfl); (case hn => rfl); (case hr => first | (go_simp; done) | (go_simp; rfl)); intro w112 hw; have hg : wc.grownBy w112 (some go107) := (by rw [hw]; exact HP111.2); have hp_ : Kd.R (Kd.int .i64) 3 w112 w.heap.size (fun _ => True) (.slice (some ⟨go107, 0, none⟩) x7_2.length co110) y225 := (by rw [hw, Ny225.out]; exact HP111.1); clear HP111; have n0_ := Aside0.mk (Kd.R_over' (v := (.slice (some ⟨go107, 0, none⟩) x7_2.length co110)) (by (with_reducible repeat (first | apply Kd.R_alloc | apply Kd.R_drewN | apply Kd.R_drew)); exact HO_5.out) (Kd.R_typed HO_7.out) (by decide) hg); have n1_ := Aside0.mk (hp_); have n2_ := Aside0.mk (Kd.R_over' (v := (.slice (some ⟨go107, 0, none⟩) x7_2.length co110)) (by (with_reducible repeat (first | apply Kd.R_alloc | apply Kd.R_drewN | apply Kd.R_drew)); exact HO_8.out) (Kd.R_typed HO_7.out) (by decide) hg); have n3_ := Aside0.mk (Kd.R_over' (v := (.slice (some ⟨go107, 0, none⟩) x7_2.length co110)) (by (with_reducible repeat (first | apply Kd.R_alloc | apply Kd.R_drewN | apply Kd.R_drew)); exact HO_19.out) (Kd.R_typed HO_7.out) (by decide) hg); have n4_ := Aside0.mk (blk_grown (g := gb201) (o := .cells #[.int .i64 ((rd_T34 l1 x54_2).f0), .int .i64 ((rd_T34 l1 x54_2).f1), .int .i64 ((rd_T34 l1 x54_2).f2)] 34 (0, 0)) (by (with_reducible repeat (first | refine blk_drewN ?_ _ | refine blk_drew ?_ | refine blk_alloc ?_ _)); exact BK201.out) hg (Kd.R_ne HO_7.out BK201.out (by decide))); have n5_ := Aside0.mk ((by rw [hw]; exact below_set (HB.out) GB107.out : Below w.heap.size w w112)); clear HO_5; clear HO_7; clear HO_8; clear HO_19; clear BK201; clear HB; have HO_5 := n0_; have HO_7 := n1_; have HO_8 := n2_; have HO_19 := n3_; have BK201 := n4_; have HB := n5_; clear n0_ n1_ n2_ n3_ n4_ n5_; clear hg hw hp_; have p109 : 0 ≤ (((rd_T34 l1 x54_2).f1) : Int) := of_decide_eq_true (by first | (with_reducible assumption) | assumption); have q109 : (((rd_T34 l1 x54_2).f1) : Int) < ((x8_2.length : Int) : Int) := of_decide_eq_true (by first | (with_reducible assumption) | assumption); obtain ⟨go109, co109, eo109, gb109, gl109, cl109, HG109⟩ := Kd.R_form HO_8.out (by omega); (first | cases eo109 | (injection eo109 with ea_ en_ ec_; (first | subst ea_ | (injection ea_ with ea_; subst ea_)); subst ec_; clear en_)); have GB109 := Aside0.mk gb109; have GG109 := Aside0.mk HG109; clear gb109 gl109 HG109; obtain ⟨hx109_0, hf109_0⟩ := Kd.R_celln false HO_8.out (((rd_T34 l1 x54_2).f1) : Int) p109 q109; replace p109 := eq_true p109; replace q109 := eq_true q109; obtain ⟨hy113_, hz113_⟩ := Kd.R_celln false HO_8.out (((rd_T34 l1 x54_2).f1) : Int) (of_decide_eq_true (by first | (with_reducible assumption) | assumption)) (of_decide_eq_true (by first | (with_reducible assumption) | assumption)); have HP113 := Kd.R_putg HO_8.out (((rd_T34 l1 x54_2).f1) : Int) (!t218)) | ((with_reducible refine gate_store (t := 4) (p := 195) rfl ?_); refine store_event (t := 4) (p := 195) (v := ?vo_w114) (w1 := (w112.setCell ⟨go109, (((rd_T34 l1 x54_2).f1) : Int).toNat, none⟩ (.bool (!t218)))) ?hg ?ho ?hn ?hr ?_; (case ho => rfl); (case hg => rfl); (case hn => rfl); (case hr => first | (go_simp; done) | (go_simp; rfl)); intro w114 hw; have hg : w112.grownBy w114 (some go109) := (by rw [hw]; exact HP113.2); have hp_ : Kd.R Kd.bool 4 w114 w.heap.size (fun _ => True) (.slice (some ⟨go109, 0, none⟩) x8_2.length co109) y226 := (by rw [hw, Ny226.out]; exact HP113.1); clear HP113; have n0_ := Aside0.mk (Kd.R_over' (v := (.slice (some ⟨go109, 0, none⟩) x8_2.length co109)) (by (with_reducible repeat (first | apply Kd.R_alloc | apply Kd.R_drewN | apply Kd.R_drew)); exact HO_5.out) (Kd.R_typed HO_8.out) (by decide) hg); have n1_ := Aside0.mk (Kd.R_over' (v := (.slice (some ⟨go109, 0, none⟩) x8_2.length co109)) (by (with_reducible repeat (first | apply Kd.R_alloc | apply Kd.R_drewN | apply Kd.R_drew)); exact HO_7.out) (Kd.R_typed HO_8.out) (by decide) hg); have n2_ := Aside0.mk (hp_); have n3_ := Aside0.mk (Kd.R_over' (v := (.slice (some ⟨go109, 0, none⟩) x8_2.length co109)) (by (with_reducible repeat (first | apply Kd.R_alloc | apply Kd.R_drewN | apply Kd.R_drew)); exact HO_19.out) (Kd.R_typed HO_8.out) (by decide) hg); have n4_ := Aside0.mk (blk_grown (g := gb201) (o := .cells #[.int .i64 ((rd_T34 l1 x54_2).f0), .int .i64 ((rd_T34 l1 x54_2).f1), .int .i64 ((rd_T34 l1 x54_2).f2)] 34 (0, 0)) (by (with_reducible repeat (first | refine blk_drewN ?_ _ | refine blk_drew ?_ | refine blk_alloc ?_ _)); exact BK201.out) hg (Kd.R_ne HO_8.out BK201.out (by decide))); have n5_ := Aside0.mk ((by rw [hw]; exact below_set (HB.out) GB109.out : Below w.heap.size w w114)); clear HO_5; clear HO_7; clear HO_8; clear HO_19; clear BK201; clear HB; have HO_5 := n0_; have HO_7 := n1_; have HO_8 := n2_; have HO_19 := n3_; have BK201 := n4_; have HB := n5_; clear n0_ n1_ n2_ n3_ n4_ n5_; clear hg hw hp_))
                            go_meet
                            case rel => exact ⟨_, (t217), (y225), (y226), H', ⟨by have := HJ2.out; have := HK2.out; have := HJ24.out; have := HJ81.out; have := HJ85.out; have := HJ93.out; first | omega | exact Nat.le_refl _⟩, ⟨by (with_reducible repeat (first | apply Kd.R_alloc | apply Kd.R_drewN | apply Kd.R_drew)); exact Kd.R_mono HO_19.out (fun _ hk => trivial)⟩, ⟨by (with_reducible repeat (first | apply Kd.R_alloc | apply Kd.R_drewN | apply Kd.R_drew)); exact HO_7.out⟩, ⟨by (with_reducible repeat (first | apply Kd.R_alloc | apply Kd.R_drewN | apply Kd.R_drew)); exact HO_8.out⟩, ⟨by (with_reducible repeat (first | refine blk_drewN ?_ _ | refine blk_drew ?_ | refine blk_alloc ?_ _)); exact BK201.out⟩, ⟨by repeat (first | (with_reducible first | exact HB.out | apply below_alloc | apply pw_below_drewN | apply below_drew1 | refine below_set ?_ GE201.out) | exact HB.out)⟩⟩
              case rest => as_aux_lemma =>
                (clear HC35); (try clear c1); (try clear p1); (try clear q1); (try clear hx1); (try clear c2); (try clear p2); (try clear q2); (try clear hx2); (try clear c3); (try clear c4); (try clear q4); (try clear c5); (try clear p5); (try clear q5); (try clear hx5); (try clear hf5); (try clear c6); (try clear p6); (try clear q6); (try clear hx6); (try clear hf6); (try clear c7); (try clear p7); (try clear q7); (try clear hx7); (try clear hf7); (try clear c8); (try clear c9); (try clear c10); (try clear p10); (try clear q10); (try clear hx10); (try clear hf10); (try clear c11); (try clear c12); (try clear c12b0); (try clear c12b1); (try clear p12); (try clear q12); (try clear hx12); (try clear hf12); (try clear c13); (try clear c13b0); (try clear c13b1); (try clear c14); (try clear c14b0); (try clear c14b1); (try clear c15); (try clear c15b0); (try clear c15b1); (try clear c19); (try clear c20); (try clear p20); (try clear q20); (try clear hx20); (try clear c21); (try clear p21); (try clear q21); (try clear hx21); (try clear c22); (try clear c22b0); (try clear p22); (try clear q22); (try clear hx22); (try clear c23); (try clear c23b0); (try clear p23); (try clear q23); (try clear hx23); (try clear c24); (try clear c24b0); (try clear c28); (try clear c28b0); (try clear c29); (try clear c29b0); (try clear c30); (try clear c30b0); (try clear c31); (try clear c31b0); (try clear c37); (try clear c37b0); (try clear c37b1); (try clear c42); (try clear c42b0); (try clear c43); (try clear c43b0); (try clear q44); (try clear c45); (try clear c50); (try clear c50b0); (try clear c50b1); (try clear c50b2); (try clear c52); (try clear c52b0); (try clear c52b1); (try clear c55); (try clear c56); (try clear c56b0); (try clear c56b1); (try clear c57); (try clear c57b0); (try clear c58); (try clear c58b0); (try clear p59); (try clear q59); (try clear hx59); (try clear hf59); (try clear c60); (try clear c60b0); (try clear p61); (try clear q61); (try clear hx61); (try clear hf61); (try clear p64); (try clear c66); (try clear c66b0); (try clear c66b1); (try clear c68); (try clear c68b0); (try clear c68b1); (try clear c68b2); (try clear c71); (try clear c72); (try clear c72b0); (try clear c73); (try clear c73b0); (try clear p74); (try clear q74); (try clear hx74); (try clear hf74); (try clear c83); (try clear c83b0); (try clear c83b1); (try clear c84); (try clear c90); (try clear c91); (try clear c91b0); (try clear c92); (try clear c92b0); (try clear c95); (try clear c95b0); (try clear c95b1); (try clear c95b2); (try clear c96); (try clear c97); (try clear c97b0); (try clear c98); (try clear c98b0); (try clear c99); (try clear c99b0); (try clear c99b1); (try clear c103); (try clear c104); (try clear c105); (try clear c105b0); (try clear c106); (try clear c106b0); (try clear p107); (try clear q107); (try clear hx107); (try clear hf107); (try clear c108); (try clear c108b0); (try clear p109); (try clear q109); (try clear hx109); (try clear hf109); (try clear c115); (try clear c115b0); (try clear c115b1); (try clear c120); (try clear c121); (try clear c121b0); (try clear c122); (try clear c122b0); (try clear c124); (try clear c124b0); (try clear c124b1); (try clear c124b2); (try clear c125); (try clear c126); (try clear c126b0); (try clear c127); (try clear c127b0); (try clear p128); (try clear q128); (try clear hx128); (try clear hf128); (try clear hcz101_0); (try clear hcz101_1); (try clear hcz101_2); (try clear hcz27_0); (try clear hcz27_1); (try clear hcz27_2); (try clear hcz36_0); (try clear hcz36_1); (try clear hcz36_2); (try clear hcz87_0); (try clear hcz87_1); (try clear hcz87_2); (try clear hfz101_0); (try clear hfz101_1); (try clear hfz101_2); (try clear hfz27_0); (try clear hfz27_1); (try clear hfz27_2); (try clear hfz36_0); (try clear hfz36_1); (try clear hfz36_2); (try clear hfz87_0); (try clear hfz87_1); (try clear hfz87_2); (try clear hx107_0); (try clear hx109_0); (try clear hx128_0); (try clear hx200_0); (try clear hx200_1); (try clear hx200_2); (try clear hx202_0); (try clear hx208_0); (try clear hx215_0); (try clear hx222_0); (try clear hx223_0); (try clear hx224_0); (try clear hx231_0); (try clear hx59_0); (try clear hx61_0); (try clear hx74_0); (try clear p1); (try clear p10); (try clear p107); (try clear p109); (try clear p128); (try clear p2); (try clear p20); (try clear p200); (try clear p202); (try clear p208); (try clear p21); (try clear p215); (try clear p22); (try clear p222); (try clear p223); (try clear p224); (try clear p23); (try clear p231); (try clear p5); (try clear p59); (try clear p6); (try clear p61); (try clear p64); (try clear p7); (try clear p74); (try clear q1); (try clear q10); (try clear q107); (try clear q109); (try clear q128); (try clear q2); (try clear q20); (try clear q200); (try clear q202); (try clear q208); (try clear q21); (try clear q215); (try clear q22); (try clear q222); (try clear q223); (try clear q224); (try clear q23); (try clear q231); (try clear q4); (try clear q44); (try clear q5); (try clear q59); (try clear q6); (try clear q61); (try clear q7); (try clear q74); (obtain ⟨kq, x5_34, x7_34, x8_34, HA, HJ34, HO_5, HO_7, HO_8, BK201, HB⟩ := hcut)
                cases kq with
                | zero => exact absurd HA.out (by simp [estoverslaw32_SlotsReferences.j10])
                | succ kj34 =>
                  (have H := HA.out); (clear HA); (simp only [estoverslaw32_SlotsReferences.j10] at H); (have HC131 := Aside0.mk H); (clear H)
                  go_upto_region 47 with (fail)
                  go_cut [230] (fun v230 wc => ∃ (kq : Nat) (x230_130 : Bool), v230 = .bool x230_130 ∧ Aside0 (estoverslaw32_SlotsReferences.j11 kq x5_34 x7_34 x8_34 l1 (l1.length : Int) x54_2 x230_130 = some r) ∧ Aside0 (kq ≤ kj34) ∧ Aside0 (Kd.R k41 41 wc w.heap.size (fun _ => True) u5 x5_34) ∧ Aside0 (Kd.R (Kd.int .i64) 3 wc w.heap.size (fun _ => True) v195 x7_34) ∧ Aside0 (Kd.R Kd.bool 4 wc w.heap.size (fun _ => True) v198 x8_34) ∧ Aside0 (wc.heap[gb201]? = some (.cells #[.int .i64 ((rd_T34 l1 x54_2).f0), .int .i64 ((rd_T34 l1 x54_2).f1), .int .i64 ((rd_T34 l1 x54_2).f2)] 34 (0, 0))) ∧ Aside0 (Below w.heap.size w wc))
                  case first =>
                    (have H := HC131.out); (clear HC131)
                    by_cases c132 : (x5_34.length : Int) = (x7_34.length : Int)
                    rotate_left
                    · rw [if_neg c132] at H
                      (have c132b0 : ((x5_34.length : Int) == (x7_34.length : Int)) = false := beq_eq_false_iff_ne.mpr c132); (have c132b1 : ((x5_34.length : Int) != (x7_34.length : Int)) = true := bne_iff_ne.mpr c132); (have c132b2 : (x5_34.length == x7_34.length) = false := by first | simpa using c132 | (simp at c132 ⊢; omega))
                      (first | rw [c132b0] | (simp only [i64_w, i32_w]; rw [c132b0]) | skip)
                      (have H' := Aside0.mk H); (clear H); (obtain ⟨Ao137, co137, eo137⟩ := Kd.R_slice HO_5.out); (subst eo137); (obtain ⟨Ao138, co138, eo138⟩ := Kd.R_slice HO_7.out); (subst eo138)
                      go_wp2
                      go_meet
                      case rel => exact ⟨_, (true), (by first | rfl | (simp; done) | (simp [*]; done)), H', ⟨by have := HJ2.out; have := HK2.out; have := HJ24.out; have := HJ34.out; first | omega | exact Nat.le_refl _⟩, ⟨by (with_reducible repeat (first | apply Kd.R_alloc | apply Kd.R_drewN | apply Kd.R_drew)); exact HO_5.out⟩, ⟨by (with_reducible repeat (first | apply Kd.R_alloc | apply Kd.R_drewN | apply Kd.R_drew)); exact HO_7.out⟩, ⟨by (with_reducible repeat (first | apply Kd.R_alloc | apply Kd.R_drewN | apply Kd.R_drew)); exact HO_8.out⟩, ⟨by (with_reducible repeat (first | refine blk_drewN ?_ _ | refine blk_drew ?_ | refine blk_alloc ?_ _)); exact BK201.out⟩, ⟨by repeat (first | (with_reducible first | exact HB.out | apply below_alloc | apply pw_below_drewN | apply below_drew1 | refine below_set ?_ GE201.out) | exact HB.out)⟩⟩
                    (rw [if_pos c132] at H); (have c132b0 : ((x5_34.length : Int) == (x7_34.length : Int)) = true := beq_iff_eq.mpr c132); (have c132b1 : ((x5_34.length : Int) != (x7_34.length : Int)) = false := bne_eq_false_iff_eq.mpr c132); (have c132b2 : (x5_34.length == x7_34.length) = true := by first | simpa using c132 | (simp at c132 ⊢; omega)); (clear c132)
                    (first | rw [c132b0] | (simp only [i64_w, i32_w]; rw [c132b0]) | skip)
                    (replace H := Option.bind_eq_some_iff.mp H); (obtain ⟨t233, A1330, H⟩ := H); (replace H : (estoverslaw32_SlotsReferences.j11 kj34 x5_34 x7_34 x8_34 l1 (l1.length : Int) x54_2 (t233 != 0)) = some r := H); (have A133 := Aside0.mk A1330); (clear A1330); (have H' := Aside0.mk H); (clear H); (obtain ⟨Ao134, co134, eo134⟩ := Kd.R_slice HO_5.out); (subst eo134); (obtain ⟨Ao135, co135, eo135⟩ := Kd.R_slice HO_7.out); (subst eo135)
                    go_wp2_with (first | (go_at_call 13; (with_reducible refine (slots_Check.calls _ _ x5_34 t233 _ ?side1 ?side2 A133.out).mono ?_); (case side1 => repeat (first | exact (Kd.R_reads' HO_5.out).2.2 | (with_reducible refine Kd.C_alloc ?_ _) | (with_reducible refine Kd.C_drewN ?_ _) | (with_reducible refine Kd.C_drew ?_))); (case side2 => exact (Kd.R_reads' HO_5.out).2.1); rintro e w136 ⟨rfl, hb⟩; have n0_ := Aside0.mk (Kd.R_below (by (with_reducible repeat (first | apply Kd.R_alloc | apply Kd.R_drewN | apply Kd.R_drew)); exact HO_5.out) hb); have n1_ := Aside0.mk (Kd.R_below (by (with_reducible repeat (first | apply Kd.R_alloc | apply Kd.R_drewN | apply Kd.R_drew)); exact HO_7.out) hb); have n2_ := Aside0.mk (Kd.R_below (by (with_reducible repeat (first | apply Kd.R_alloc | apply Kd.R_drewN | apply Kd.R_drew)); exact HO_8.out) hb); have n3_ := Aside0.mk (blk_below (g := gb201) (o := .cells #[.int .i64 ((rd_T34 l1 x54_2).f0), .int .i64 ((rd_T34 l1 x54_2).f1), .int .i64 ((rd_T34 l1 x54_2).f2)] 34 (0, 0)) (by (with_reducible repeat (first | refine blk_drewN ?_ _ | refine blk_drew ?_ | refine blk_alloc ?_ _)); exact BK201.out) hb); have n4_ := Aside0.mk (below_step (by repeat (first | (with_reducible first | exact HB.out | apply below_alloc | apply pw_below_drewN | apply below_drew1 | refine below_set ?_ GE201.out) | exact HB.out)) hb); clear HO_5; clear HO_7; clear HO_8; clear BK201; clear HB; have HO_5 := n0_; have HO_7 := n1_; have HO_8 := n2_; have BK201 := n3_; have HB := n4_; clear n0_ n1_ n2_ n3_ n4_; (try clear hb); (try clear hb2); (try clear hk); (try clear hi)))
                    go_meet
                    case rel => exact ⟨_, ((t233 != 0)), (by first | rfl | (simp; done) | (simp [*]; done)), H', ⟨by have := HJ2.out; have := HK2.out; have := HJ24.out; have := HJ34.out; first | omega | exact Nat.le_refl _⟩, ⟨by (with_reducible repeat (first | apply Kd.R_alloc | apply Kd.R_drewN | apply Kd.R_drew)); exact HO_5.out⟩, ⟨by (with_reducible repeat (first | apply Kd.R_alloc | apply Kd.R_drewN | apply Kd.R_drew)); exact HO_7.out⟩, ⟨by (with_reducible repeat (first | apply Kd.R_alloc | apply Kd.R_drewN | apply Kd.R_drew)); exact HO_8.out⟩, ⟨by (with_reducible repeat (first | refine blk_drewN ?_ _ | refine blk_drew ?_ | refine blk_alloc ?_ _)); exact BK201.out⟩, ⟨by repeat (first | (with_reducible first | exact HB.out | apply below_alloc | apply pw_below_drewN | apply below_drew1 | refine below_set ?_ GE201.out) | exact HB.out)⟩⟩
                  case rest => as_aux_lemma =>
                    (clear HC131); (try clear c1); (try clear p1); (try clear q1); (try clear hx1); (try clear c2); (try clear p2); (try clear q2); (try clear hx2); (try clear c3); (try clear c4); (try clear q4); (try clear c5); (try clear p5); (try clear q5); (try clear hx5); (try clear hf5); (try clear c6); (try clear p6); (try clear q6); (try clear hx6); (try clear hf6); (try clear c7); (try clear p7); (try clear q7); (try clear hx7); (try clear hf7); (try clear c8); (try clear c9); (try clear c10); (try clear p10); (try clear q10); (try clear hx10); (try clear hf10); (try clear c11); (try clear c12); (try clear c12b0); (try clear c12b1); (try clear p12); (try clear q12); (try clear hx12); (try clear hf12); (try clear c13); (try clear c13b0); (try clear c13b1); (try clear c14); (try clear c14b0); (try clear c14b1); (try clear c15); (try clear c15b0); (try clear c15b1); (try clear c19); (try clear c20); (try clear p20); (try clear q20); (try clear hx20); (try clear c21); (try clear p21); (try clear q21); (try clear hx21); (try clear c22); (try clear c22b0); (try clear p22); (try clear q22); (try clear hx22); (try clear c23); (try clear c23b0); (try clear p23); (try clear q23); (try clear hx23); (try clear c24); (try clear c24b0); (try clear c28); (try clear c28b0); (try clear c29); (try clear c29b0); (try clear c30); (try clear c30b0); (try clear c31); (try clear c31b0); (try clear c37); (try clear c37b0); (try clear c37b1); (try clear c42); (try clear c42b0); (try clear c43); (try clear c43b0); (try clear q44); (try clear c45); (try clear c50); (try clear c50b0); (try clear c50b1); (try clear c50b2); (try clear c52); (try clear c52b0); (try clear c52b1); (try clear c55); (try clear c56); (try clear c56b0); (try clear c56b1); (try clear c57); (try clear c57b0); (try clear c58); (try clear c58b0); (try clear p59); (try clear q59); (try clear hx59); (try clear hf59); (try clear c60); (try clear c60b0); (try clear p61); (try clear q61); (try clear hx61); (try clear hf61); (try clear p64); (try clear c66); (try clear c66b0); (try clear c66b1); (try clear c68); (try clear c68b0); (try clear c68b1); (try clear c68b2); (try clear c71); (try clear c72); (try clear c72b0); (try clear c73); (try clear c73b0); (try clear p74); (try clear q74); (try clear hx74); (try clear hf74); (try clear c83); (try clear c83b0); (try clear c83b1); (try clear c84); (try clear c90); (try clear c91); (try clear c91b0); (try clear c92); (try clear c92b0); (try clear c95); (try clear c95b0); (try clear c95b1); (try clear c95b2); (try clear c96); (try clear c97); (try clear c97b0); (try clear c98); (try clear c98b0); (try clear c99); (try clear c99b0); (try clear c99b1); (try clear c103); (try clear c104); (try clear c105); (try clear c105b0); (try clear c106); (try clear c106b0); (try clear p107); (try clear q107); (try clear hx107); (try clear hf107); (try clear c108); (try clear c108b0); (try clear p109); (try clear q109); (try clear hx109); (try clear hf109); (try clear c115); (try clear c115b0); (try clear c115b1); (try clear c120); (try clear c121); (try clear c121b0); (try clear c122); (try clear c122b0); (try clear c124); (try clear c124b0); (try clear c124b1); (try clear c124b2); (try clear c125); (try clear c126); (try clear c126b0); (try clear c127); (try clear c127b0); (try clear p128); (try clear q128); (try clear hx128); (try clear hf128); (try clear c132); (try clear c132b0); (try clear c132b1); (try clear c132b2); (try clear hcz101_0); (try clear hcz101_1); (try clear hcz101_2); (try clear hcz27_0); (try clear hcz27_1); (try clear hcz27_2); (try clear hcz36_0); (try clear hcz36_1); (try clear hcz36_2); (try clear hcz87_0); (try clear hcz87_1); (try clear hcz87_2); (try clear hfz101_0); (try clear hfz101_1); (try clear hfz101_2); (try clear hfz27_0); (try clear hfz27_1); (try clear hfz27_2); (try clear hfz36_0); (try clear hfz36_1); (try clear hfz36_2); (try clear hfz87_0); (try clear hfz87_1); (try clear hfz87_2); (try clear hx107_0); (try clear hx109_0); (try clear hx128_0); (try clear hx200_0); (try clear hx200_1); (try clear hx200_2); (try clear hx202_0); (try clear hx208_0); (try clear hx215_0); (try clear hx222_0); (try clear hx223_0); (try clear hx224_0); (try clear hx231_0); (try clear hx59_0); (try clear hx61_0); (try clear hx74_0); (try clear p1); (try clear p10); (try clear p107); (try clear p109); (try clear p12); (try clear p128); (try clear p2); (try clear p20); (try clear p200); (try clear p202); (try clear p208); (try clear p21); (try clear p215); (try clear p22); (try clear p222); (try clear p223); (try clear p224); (try clear p23); (try clear p231); (try clear p5); (try clear p59); (try clear p6); (try clear p61); (try clear p64); (try clear p7); (try clear p74); (try clear q1); (try clear q10); (try clear q107); (try clear q109); (try clear q12); (try clear q128); (try clear q2); (try clear q20); (try clear q200); (try clear q202); (try clear q208); (try clear q21); (try clear q215); (try clear q22); (try clear q222); (try clear q223); (try clear q224); (try clear q23); (try clear q231); (try clear q4); (try clear q44); (try clear q5); (try clear q59); (try clear q6); (try clear q61); (try clear q7); (try clear q74); (obtain ⟨kq, x230_130, rfl, HA, HJ130, HO_5, HO_7, HO_8, BK201, HB⟩ := hcut)
                    cases kq with
                    | zero => exact absurd HA.out (by simp [estoverslaw32_SlotsReferences.j11])
                    | succ kj130 =>
                      (have H := HA.out); (clear HA); (simp only [estoverslaw32_SlotsReferences.j11] at H)
                      by_cases c139 : x230_130 = true
                      · rw [if_pos c139] at H
                        exact absurd ((Option.some.inj H).trans HRT.out) (by decide)
                      (replace c139 := Bool.eq_false_iff.mpr c139); (subst c139); (have H1 : (estoverslaw32_SlotsReferences.l2 kj130 x5_34 x7_34 x8_34 0 l1 (l1.length : Int) x54_2 x5_34 (x5_34.length : Int) 0) = some r := by rw [if_neg (show ¬ (false = true) by decide)] at H; exact H); (clear H); (have H := H1); (clear H1); (have H' := Aside0.mk H); (clear H); (obtain ⟨Ao140, co140, eo140⟩ := Kd.R_slice HO_5.out); (subst eo140)
                      go_wp2
                      go_loopg [26, 233] kj130 (fun kq v26 v233 w' => ∃ (x26_6 : Int) (x233_6 : Int), v26 = .int .i64 x26_6 ∧ v233 = .int .i64 x233_6 ∧ Aside0 (estoverslaw32_SlotsReferences.l2 kq x5_34 x7_34 x8_34 x26_6 l1 (l1.length : Int) x54_2 x5_34 (x5_34.length : Int) x233_6 = some r) ∧ Aside0 (kq ≤ kj130) ∧ Aside0 (Kd.R k41 41 w' w.heap.size (fun _ => True) (.slice Ao140 x5_34.length co140) x5_34) ∧ Aside0 (Kd.R (Kd.int .i64) 3 w' w.heap.size (fun _ => True) v195 x7_34) ∧ Aside0 (Kd.R Kd.bool 4 w' w.heap.size (fun _ => True) v198 x8_34) ∧ Aside0 (Kd.R k41 41 w' w.heap.size (fun _ => True) (.slice Ao140 x5_34.length co140) x5_34) ∧ Aside0 (w'.heap[gb201]? = some (.cells #[.int .i64 ((rd_T34 l1 x54_2).f0), .int .i64 ((rd_T34 l1 x54_2).f1), .int .i64 ((rd_T34 l1 x54_2).f2)] 34 (0, 0))) ∧ Aside0 (Below w.heap.size w w'))
                      case atStart => exact ⟨(0), (0), (by first | rfl | (simp; done) | (simp [*]; done)), (by first | rfl | (simp; done) | (simp [*]; done)), H', ⟨Nat.le_refl _⟩, ⟨by (with_reducible repeat (first | apply Kd.R_alloc | apply Kd.R_drewN | apply Kd.R_drew)); exact HO_5.out⟩, ⟨by (with_reducible repeat (first | apply Kd.R_alloc | apply Kd.R_drewN | apply Kd.R_drew)); exact HO_7.out⟩, ⟨by (with_reducible repeat (first | apply Kd.R_alloc | apply Kd.R_drewN | apply Kd.R_drew)); exact HO_8.out⟩, ⟨by (with_reducible repeat (first | apply Kd.R_alloc | apply Kd.R_drewN | apply Kd.R_drew)); exact HO_5.out⟩, ⟨by (with_reducible repeat (first | refine blk_drewN ?_ _ | refine blk_drew ?_ | refine blk_alloc ?_ _)); exact BK201.out⟩, ⟨by repeat (first | (with_reducible first | exact HB.out | apply below_alloc | apply pw_below_drewN | apply below_drew1 | refine below_set ?_ GE201.out) | exact HB.out)⟩⟩
                      case round => as_aux_lemma =>
                        (clear H'); (try clear c1); (try clear p1); (try clear q1); (try clear hx1); (try clear c2); (try clear p2); (try clear q2); (try clear hx2); (try clear c3); (try clear c4); (try clear q4); (try clear c5); (try clear p5); (try clear q5); (try clear hx5); (try clear hf5); (try clear c6); (try clear p6); (try clear q6); (try clear hx6); (try clear hf6); (try clear c7); (try clear p7); (try clear q7); (try clear hx7); (try clear hf7); (try clear c8); (try clear c9); (try clear c10); (try clear p10); (try clear q10); (try clear hx10); (try clear hf10); (try clear c11); (try clear c12); (try clear c12b0); (try clear c12b1); (try clear p12); (try clear q12); (try clear hx12); (try clear hf12); (try clear c13); (try clear c13b0); (try clear c13b1); (try clear c14); (try clear c14b0); (try clear c14b1); (try clear c15); (try clear c15b0); (try clear c15b1); (try clear c19); (try clear c20); (try clear p20); (try clear q20); (try clear hx20); (try clear c21); (try clear p21); (try clear q21); (try clear hx21); (try clear c22); (try clear c22b0); (try clear p22); (try clear q22); (try clear hx22); (try clear c23); (try clear c23b0); (try clear p23); (try clear q23); (try clear hx23); (try clear c24); (try clear c24b0); (try clear c28); (try clear c28b0); (try clear c29); (try clear c29b0); (try clear c30); (try clear c30b0); (try clear c31); (try clear c31b0); (try clear c37); (try clear c37b0); (try clear c37b1); (try clear c42); (try clear c42b0); (try clear c43); (try clear c43b0); (try clear q44); (try clear c45); (try clear c50); (try clear c50b0); (try clear c50b1); (try clear c50b2); (try clear c52); (try clear c52b0); (try clear c52b1); (try clear c55); (try clear c56); (try clear c56b0); (try clear c56b1); (try clear c57); (try clear c57b0); (try clear c58); (try clear c58b0); (try clear p59); (try clear q59); (try clear hx59); (try clear hf59); (try clear c60); (try clear c60b0); (try clear p61); (try clear q61); (try clear hx61); (try clear hf61); (try clear p64); (try clear c66); (try clear c66b0); (try clear c66b1); (try clear c68); (try clear c68b0); (try clear c68b1); (try clear c68b2); (try clear c71); (try clear c72); (try clear c72b0); (try clear c73); (try clear c73b0); (try clear p74); (try clear q74); (try clear hx74); (try clear hf74); (try clear c83); (try clear c83b0); (try clear c83b1); (try clear c84); (try clear c90); (try clear c91); (try clear c91b0); (try clear c92); (try clear c92b0); (try clear c95); (try clear c95b0); (try clear c95b1); (try clear c95b2); (try clear c96); (try clear c97); (try clear c97b0); (try clear c98); (try clear c98b0); (try clear c99); (try clear c99b0); (try clear c99b1); (try clear c103); (try clear c104); (try clear c105); (try clear c105b0); (try clear c106); (try clear c106b0); (try clear p107); (try clear q107); (try clear hx107); (try clear hf107); (try clear c108); (try clear c108b0); (try clear p109); (try clear q109); (try clear hx109); (try clear hf109); (try clear c115); (try clear c115b0); (try clear c115b1); (try clear c120); (try clear c121); (try clear c121b0); (try clear c122); (try clear c122b0); (try clear c124); (try clear c124b0); (try clear c124b1); (try clear c124b2); (try clear c125); (try clear c126); (try clear c126b0); (try clear c127); (try clear c127b0); (try clear p128); (try clear q128); (try clear hx128); (try clear hf128); (try clear c132); (try clear c132b0); (try clear c132b1); (try clear c132b2); (try clear c139); (try clear hcz101_0); (try clear hcz101_1); (try clear hcz101_2); (try clear hcz27_0); (try clear hcz27_1); (try clear hcz27_2); (try clear hcz36_0); (try clear hcz36_1); (try clear hcz36_2); (try clear hcz87_0); (try clear hcz87_1); (try clear hcz87_2); (try clear hfz101_0); (try clear hfz101_1); (try clear hfz101_2); (try clear hfz27_0); (try clear hfz27_1); (try clear hfz27_2); (try clear hfz36_0); (try clear hfz36_1); (try clear hfz36_2); (try clear hfz87_0); (try clear hfz87_1); (try clear hfz87_2); (try clear hx107_0); (try clear hx109_0); (try clear hx128_0); (try clear hx200_0); (try clear hx200_1); (try clear hx200_2); (try clear hx202_0); (try clear hx208_0); (try clear hx215_0); (try clear hx222_0); (try clear hx223_0); (try clear hx224_0); (try clear hx231_0); (try clear hx59_0); (try clear hx61_0); (try clear hx74_0); (try clear p1); (try clear p10); (try clear p107); (try clear p109); (try clear p12); (try clear p128); (try clear p2); (try clear p20); (try clear p200); (try clear p202); (try clear p208); (try clear p21); (try clear p215); (try clear p22); (try clear p222); (try clear p223); (try clear p224); (try clear p23); (try clear p231); (try clear p5); (try clear p59); (try clear p6); (try clear p61); (try clear p64); (try clear p7); (try clear p74); (try clear q1); (try clear q10); (try clear q107); (try clear q109); (try clear q12); (try clear q128); (try clear q2); (try clear q20); (try clear q200); (try clear q202); (try clear q208); (try clear q21); (try clear q215); (try clear q22); (try clear q222); (try clear q223); (try clear q224); (try clear q23); (try clear q231); (try clear q4); (try clear q44); (try clear q5); (try clear q59); (try clear q6); (try clear q61); (try clear q7); (try clear q74); (obtain ⟨x26_6, x233_6, rfl, rfl, HA, HK6, HO_5, HO_7, HO_8, HO_231, BK201, HB⟩ := hrel)
                        cases gk with
                        | zero => exact absurd HA.out (by simp [estoverslaw32_SlotsReferences.l2])
                        | succ k6 =>
                          (have H := HA.out); (clear HA); (simp only [estoverslaw32_SlotsReferences.l2] at H)
                          by_cases c141 : x233_6 < (x5_34.length : Int)
                          rotate_left
                          · rw [if_neg c141] at H
                            (have c141b0 : decide (x233_6 < (x5_34.length : Int)) = false := decide_eq_false c141); (clear c141); (replace H := Option.bind_eq_some_iff.mp H); (obtain ⟨t234, A1670, H⟩ := H); (replace H : (if x26_6 = t234 then (estoverslaw32_SlotsReferences.l0 k6 x5_34 x7_34 x8_34 l1 (l1.length : Int) (wrap64 (x54_2 + 1))) else (some false)) = some r := H); (have A167 := Aside0.mk A1670); (clear A1670)
                            by_cases c168 : x26_6 = t234
                            rotate_left
                            · rw [if_neg c168] at H
                              exact absurd ((Option.some.inj H).trans HRT.out) (by decide)
                            (rw [if_pos c168] at H); (have c168b0 : (x26_6 == t234) = true := beq_iff_eq.mpr c168); (have c168b1 : (x26_6 != t234) = false := bne_eq_false_iff_eq.mpr c168); (clear c168); (have H' := Aside0.mk H); (clear H)
                            go_wp2_with (first | ((with_reducible refine gate_callee (f := 15) rfl ?_); refine goesL_ (some 264) rfl rfl Try.func15 (by kernel_rfl) rfl #[.slice Ao140 x5_34.length co140] rfl (by (try simp only [List.map_toArray, List.map_cons, List.map_nil]); first | done | rfl | (simp only [List.length_drop, List.length_take]; rfl)) ?_; (with_reducible refine (slots_Used.calls k6 _ _ x5_34 t234 _ ?side1 ?side2 A167.out).mono ?_); (case side1 => repeat (first | exact (Kd.R_reads' HO_5.out).2.2 | (with_reducible refine Kd.C_alloc ?_ _) | (with_reducible refine Kd.C_drewN ?_ _) | (with_reducible refine Kd.C_drew ?_))); (case side2 => exact (Kd.R_reads' HO_5.out).2.1); rintro e w169 ⟨rfl, hb⟩; refine ⟨_, rfl, ?_⟩; have n0_ := Aside0.mk (Kd.R_below (by (with_reducible repeat (first | apply Kd.R_alloc | apply Kd.R_drewN | apply Kd.R_drew)); exact HO_5.out) hb); have n1_ := Aside0.mk (Kd.R_below (by (with_reducible repeat (first | apply Kd.R_alloc | apply Kd.R_drewN | apply Kd.R_drew)); exact HO_7.out) hb); have n2_ := Aside0.mk (Kd.R_below (by (with_reducible repeat (first | apply Kd.R_alloc | apply Kd.R_drewN | apply Kd.R_drew)); exact HO_8.out) hb); have n3_ := Aside0.mk (Kd.R_below (by (with_reducible repeat (first | apply Kd.R_alloc | apply Kd.R_drewN | apply Kd.R_drew)); exact HO_231.out) hb); have n4_ := Aside0.mk (blk_below (g := gb201) (o := .cells #[.int .i64 ((rd_T34 l1 x54_2).f0), .int .i64 ((rd_T34 l1 x54_2).f1), .int .i64 ((rd_T34 l1 x54_2).f2)] 34 (0, 0)) (by (with_reducible repeat (first | refine blk_drewN ?_ _ | refine blk_drew ?_ | refine blk_alloc ?_ _)); exact BK201.out) hb); have n5_ := Aside0.mk (below_step (by repeat (first | (with_reducible first | exact HB.out | apply below_alloc | apply pw_below_drewN | apply below_drew1 | refine below_set ?_ GE201.out) | exact HB.out)) hb); clear HO_5; clear HO_7; clear HO_8; clear HO_231; clear BK201; clear HB; have HO_5 := n0_; have HO_7 := n1_; have HO_8 := n2_; have HO_231 := n3_; have BK201 := n4_; have HB := n5_; clear n0_ n1_ n2_ n3_ n4_ n5_; (try clear hb); (try clear hb2); (try clear hk); (try clear hi)))
                            go_roundg k6
                            case measure => have := HJ2.out; have := HK2.out; have := HJ24.out; have := HJ34.out; have := HJ130.out; have := HK6.out; omega
                            case rel => exact ⟨(x5_34), (x7_34), (x8_34), (wrap64 (x54_2 + 1)), (by first | rfl | (simp; done) | (simp [*]; done)), H', ⟨by have := HJ2.out; have := HK2.out; have := HJ24.out; have := HJ34.out; have := HJ130.out; have := HK6.out; omega⟩, ⟨by (with_reducible repeat (first | apply Kd.R_alloc | apply Kd.R_drewN | apply Kd.R_drew)); exact HO_5.out⟩, ⟨by (with_reducible repeat (first | apply Kd.R_alloc | apply Kd.R_drewN | apply Kd.R_drew)); exact HO_7.out⟩, ⟨by (with_reducible repeat (first | apply Kd.R_alloc | apply Kd.R_drewN | apply Kd.R_drew)); exact HO_8.out⟩, ⟨by repeat (first | (with_reducible first | exact HB.out | apply below_alloc | apply pw_below_drewN | apply below_drew1 | refine below_set ?_ GE201.out) | exact HB.out)⟩⟩
                          (rw [if_pos c141] at H); (have c141b0 : decide (x233_6 < (x5_34.length : Int)) = true := decide_eq_true c141); (clear c141)
                          by_cases c142 : 0 ≤ x233_6
                          rotate_left
                          · rw [if_neg c142] at H
                            exact absurd H (by simp)
                          (rw [if_pos c142] at H); (have c142b0 : decide (0 ≤ x233_6) = true := decide_eq_true c142); (clear c142)
                          by_cases c143 : x233_6 < (x5_34.length : Int)
                          rotate_left
                          · rw [if_neg c143] at H
                            exact absurd H (by simp)
                          (rw [if_pos c143] at H); (have c143b0 : decide (x233_6 < (x5_34.length : Int)) = true := decide_eq_true c143); (clear c143); (have HC144 := Aside0.mk H); (clear H); (have p235 : 0 ≤ (x233_6 : Int) := of_decide_eq_true (by first | (with_reducible assumption) | assumption)); (have q235 : x233_6 < (x5_34.length : Int) := of_decide_eq_true (by first | (with_reducible assumption) | assumption)); (obtain ⟨ad235, e235, hx235_0, hx235_1⟩ := at_T41 (Kd.R_reads' HO_231.out).2.2 x233_6 p235 q235)
                          cases e235
                          (replace p235 := eq_true p235); (replace q235 := eq_true q235)
                          go_upto_region 53 with (first | ((with_reducible refine gate_dst (N := 28) rfl ?_); (try (refine gate_guard (by rfl) ?_; dsimp only)); refine box_event ?hg (N := 28) ?hd (cs := #[.int .i64 0, .int .i64 0]) (t := 41) ?hr ?_; (case hd => rfl); (case hg => rfl); (case hr => first | (go_simp; done) | (go_simp; rfl)); intro gb236 hg w145 hbox hb; have n0_ := Aside0.mk (Kd.R_below (Kd.R_elderB (by (with_reducible repeat (first | apply Kd.R_alloc | apply Kd.R_drewN | apply Kd.R_drew)); exact HO_5.out) gb236 (Nat.le_of_eq hg.symm)) hb); have n1_ := Aside0.mk (Kd.R_below (by (with_reducible repeat (first | apply Kd.R_alloc | apply Kd.R_drewN | apply Kd.R_drew)); exact HO_7.out) hb); have n2_ := Aside0.mk (Kd.R_below (by (with_reducible repeat (first | apply Kd.R_alloc | apply Kd.R_drewN | apply Kd.R_drew)); exact HO_8.out) hb); have n3_ := Aside0.mk (Kd.R_below (Kd.R_elderB (by (with_reducible repeat (first | apply Kd.R_alloc | apply Kd.R_drewN | apply Kd.R_drew)); exact HO_231.out) gb236 (Nat.le_of_eq hg.symm)) hb); have n4_ := Aside0.mk (blk_below (g := gb201) (o := .cells #[.int .i64 ((rd_T34 l1 x54_2).f0), .int .i64 ((rd_T34 l1 x54_2).f1), .int .i64 ((rd_T34 l1 x54_2).f2)] 34 (0, 0)) (by (with_reducible repeat (first | refine blk_drewN ?_ _ | refine blk_drew ?_ | refine blk_alloc ?_ _)); exact BK201.out) hb); have n5_ := Aside0.mk (below_step (by repeat (first | (with_reducible first | exact HB.out | apply below_alloc | apply pw_below_drewN | apply below_drew1 | refine below_set ?_ GE201.out) | exact HB.out)) hb); have n6_ := Aside0.mk (hbox); have n7_ := Aside0.mk ((by rw [hg]; exact (below_size (by repeat (first | (with_reducible first | exact HB.out | apply below_alloc | apply pw_below_drewN | apply below_drew1 | refine below_set ?_ GE201.out) | exact HB.out))) : w.heap.size ≤ gb236)); have n8_ := Aside0.mk ((by rw [hg]; exact (below_size (by repeat (first | (with_reducible first | exact HB.out | apply below_alloc | apply pw_below_drewN | apply below_drew1 | refine below_set ?_ GE201.out) | exact HB.out))) : w.heap.size ≤ gb236)); have n9_ := Aside0.mk ((by rw [hg]; exact Nat.ne_of_lt (blk_lt (g := gb201) (o := .cells #[.int .i64 ((rd_T34 l1 x54_2).f0), .int .i64 ((rd_T34 l1 x54_2).f1), .int .i64 ((rd_T34 l1 x54_2).f2)] 34 (0, 0)) (by (with_reducible repeat (first | refine blk_drewN ?_ _ | refine blk_drew ?_ | refine blk_alloc ?_ _)); exact BK201.out)) : gb201 ≠ gb236)); have n10_ := Aside0.mk ((by rw [hg]; exact Nat.ne_of_gt (blk_lt (g := gb201) (o := .cells #[.int .i64 ((rd_T34 l1 x54_2).f0), .int .i64 ((rd_T34 l1 x54_2).f1), .int .i64 ((rd_T34 l1 x54_2).f2)] 34 (0, 0)) (by (with_reducible repeat (first | refine blk_drewN ?_ _ | refine blk_drew ?_ | refine blk_alloc ?_ _)); exact BK201.out)) : gb236 ≠ gb201)); clear HO_5; clear HO_7; clear HO_8; clear HO_231; clear BK201; clear HB; have HO_5 := n0_; have HO_7 := n1_; have HO_8 := n2_; have HO_231 := n3_; have BK201 := n4_; have HB := n5_; have BK236 := n6_; have GW236 := n7_; have GE236 := n8_; have NB201_236 := n9_; have NB236_201 := n10_; clear n0_ n1_ n2_ n3_ n4_ n5_ n6_ n7_ n8_ n9_ n10_; clear hb hbox hg; have hnb146 := NB236_201.out; have hnc146 := NB201_236.out; have hcz147_0 : w145.cell? ⟨gb236, 0, none⟩ = some (.int .i64 0) := (blk_cell BK236.out 0).trans rfl; have hcz147_1 : w145.cell? ⟨gb236, 1, none⟩ = some (.int .i64 0) := (blk_cell BK236.out 1).trans rfl; have hfz147_0 := blk_frozen BK236.out 0; have hfz147_1 := blk_frozen BK236.out 1))
                          (try simp only [Act.put, List.setIfInBounds_toArray, List.set_cons_zero, List.set_cons_succ])
                          go_cut [254] (fun v254 wc => ∃ (kq : Nat) (x254_143 : Bool), v254 = .bool x254_143 ∧ Aside0 (estoverslaw32_SlotsReferences.j13 kq x5_34 x7_34 x8_34 x26_6 x233_6 l1 (l1.length : Int) x54_2 x5_34 (x5_34.length : Int) x233_6 x254_143 = some r) ∧ Aside0 (kq ≤ k6) ∧ Aside0 (Kd.R k41 41 wc w.heap.size (fun k_ => k_ ≠ gb236) (.slice (some ad235) x5_34.length co140) x5_34) ∧ Aside0 (Kd.R (Kd.int .i64) 3 wc w.heap.size (fun _ => True) v195 x7_34) ∧ Aside0 (Kd.R Kd.bool 4 wc w.heap.size (fun _ => True) v198 x8_34) ∧ Aside0 (Kd.R k41 41 wc w.heap.size (fun k_ => k_ ≠ gb236) (.slice (some ad235) x5_34.length co140) x5_34) ∧ Aside0 (wc.heap[gb201]? = some (.cells #[.int .i64 ((rd_T34 l1 x54_2).f0), .int .i64 ((rd_T34 l1 x54_2).f1), .int .i64 ((rd_T34 l1 x54_2).f2)] 34 (0, 0))) ∧ Aside0 (wc.heap[gb236]? = some (.cells #[.int .i64 ((rd_T41 x5_34 x233_6).f0), .int .i64 ((rd_T41 x5_34 x233_6).f1)] 41 (0, 0))) ∧ Aside0 (Below w.heap.size w wc))
                          case first =>
                            (have H := HC144.out); (clear HC144)
                            by_cases c148 : x233_6 < (x7_34.length : Int)
                            rotate_left
                            · rw [if_neg c148] at H
                              exact absurd H (by simp)
                            (rw [if_pos c148] at H); (have c148b0 : decide (x233_6 < (x7_34.length : Int)) = true := decide_eq_true c148); (clear c148)
                            (first | rw [c148b0] | (simp only [i64_w, i32_w]; rw [c148b0]) | skip)
                            by_cases c149 : ((rd_T41 x5_34 x233_6).f1) = (rd x7_34 x233_6)
                            rotate_left
                            · rw [if_neg c149] at H
                              (have c149b0 : (((rd_T41 x5_34 x233_6).f1) == (rd x7_34 x233_6)) = false := beq_eq_false_iff_ne.mpr c149); (have c149b1 : (((rd_T41 x5_34 x233_6).f1) != (rd x7_34 x233_6)) = true := bne_iff_ne.mpr c149); (have H' := Aside0.mk H); (clear H)
                              try go_wp2
                              (have n0_ : Aside0 (Kd.R k41 41 ((w145.setCell ⟨gb236, 0, none⟩ (.int .i64 ((rd_T41 x5_34 x233_6).f0))).setCell ⟨gb236, 1, none⟩ (.int .i64 ((rd_T41 x5_34 x233_6).f1))) w.heap.size (fun k_ => k_ ≠ gb236) (.slice (some ad235) x5_34.length co140) x5_34) := ⟨by (with_reducible repeat (first | apply Kd.R_alloc | apply Kd.R_drewN | apply Kd.R_drew)); exact Kd.R_mono (Kd.R_far (p := ⟨gb236, 1, none⟩) (Kd.R_far (p := ⟨gb236, 0, none⟩) (Kd.R_mono HO_5.out (fun k_ hk => (⟨hk, hk.2⟩ : _ ∧ k_ ≠ gb236))) (fun _ hk => hk.2) (.int .i64 ((rd_T41 x5_34 x233_6).f0))) (fun _ hk => hk.2) (.int .i64 ((rd_T41 x5_34 x233_6).f1))) (fun _ hk => hk.1.2)⟩); (have n1_ : Aside0 (Kd.R (Kd.int .i64) 3 ((w145.setCell ⟨gb236, 0, none⟩ (.int .i64 ((rd_T41 x5_34 x233_6).f0))).setCell ⟨gb236, 1, none⟩ (.int .i64 ((rd_T41 x5_34 x233_6).f1))) w.heap.size (fun _ => True) v195 x7_34) := ⟨by (with_reducible repeat (first | apply Kd.R_alloc | apply Kd.R_drewN | apply Kd.R_drew)); exact Kd.R_mono (Kd.R_far (p := ⟨gb236, 1, none⟩) (Kd.R_far (p := ⟨gb236, 0, none⟩) (Kd.R_types HO_7.out BK236.out (by decide)) (fun _ hk => hk.2) (.int .i64 ((rd_T41 x5_34 x233_6).f0))) (fun _ hk => hk.2) (.int .i64 ((rd_T41 x5_34 x233_6).f1))) (fun _ hk => trivial)⟩); (have n2_ : Aside0 (Kd.R Kd.bool 4 ((w145.setCell ⟨gb236, 0, none⟩ (.int .i64 ((rd_T41 x5_34 x233_6).f0))).setCell ⟨gb236, 1, none⟩ (.int .i64 ((rd_T41 x5_34 x233_6).f1))) w.heap.size (fun _ => True) v198 x8_34) := ⟨by (with_reducible repeat (first | apply Kd.R_alloc | apply Kd.R_drewN | apply Kd.R_drew)); exact Kd.R_mono (Kd.R_far (p := ⟨gb236, 1, none⟩) (Kd.R_far (p := ⟨gb236, 0, none⟩) (Kd.R_types HO_8.out BK236.out (by decide)) (fun _ hk => hk.2) (.int .i64 ((rd_T41 x5_34 x233_6).f0))) (fun _ hk => hk.2) (.int .i64 ((rd_T41 x5_34 x233_6).f1))) (fun _ hk => trivial)⟩); (have n3_ : Aside0 (Kd.R k41 41 ((w145.setCell ⟨gb236, 0, none⟩ (.int .i64 ((rd_T41 x5_34 x233_6).f0))).setCell ⟨gb236, 1, none⟩ (.int .i64 ((rd_T41 x5_34 x233_6).f1))) w.heap.size (fun k_ => k_ ≠ gb236) (.slice (some ad235) x5_34.length co140) x5_34) := ⟨by (with_reducible repeat (first | apply Kd.R_alloc | apply Kd.R_drewN | apply Kd.R_drew)); exact Kd.R_mono (Kd.R_far (p := ⟨gb236, 1, none⟩) (Kd.R_far (p := ⟨gb236, 0, none⟩) (Kd.R_mono HO_231.out (fun k_ hk => (⟨hk, hk.2⟩ : _ ∧ k_ ≠ gb236))) (fun _ hk => hk.2) (.int .i64 ((rd_T41 x5_34 x233_6).f0))) (fun _ hk => hk.2) (.int .i64 ((rd_T41 x5_34 x233_6).f1))) (fun _ hk => hk.1.2)⟩); (have n4_ : Aside0 (((w145.setCell ⟨gb236, 0, none⟩ (.int .i64 ((rd_T41 x5_34 x233_6).f0))).setCell ⟨gb236, 1, none⟩ (.int .i64 ((rd_T41 x5_34 x233_6).f1))).heap[gb201]? = some (.cells #[.int .i64 ((rd_T34 l1 x54_2).f0), .int .i64 ((rd_T34 l1 x54_2).f1), .int .i64 ((rd_T34 l1 x54_2).f2)] 34 (0, 0))) := ⟨by (with_reducible repeat (first | refine blk_drewN ?_ _ | refine blk_drew ?_ | refine blk_alloc ?_ _)); refine blk_far ?_ NB201_236.out _; (with_reducible repeat (first | refine blk_drewN ?_ _ | refine blk_drew ?_ | refine blk_alloc ?_ _)); refine blk_far ?_ NB201_236.out _; (with_reducible repeat (first | refine blk_drewN ?_ _ | refine blk_drew ?_ | refine blk_alloc ?_ _)); exact BK201.out⟩); (have n5_ : Aside0 (((w145.setCell ⟨gb236, 0, none⟩ (.int .i64 ((rd_T41 x5_34 x233_6).f0))).setCell ⟨gb236, 1, none⟩ (.int .i64 ((rd_T41 x5_34 x233_6).f1))).heap[gb236]? = some (.cells #[.int .i64 ((rd_T41 x5_34 x233_6).f0), .int .i64 ((rd_T41 x5_34 x233_6).f1)] 41 (0, 0))) := ⟨by (with_reducible repeat (first | refine blk_drewN ?_ _ | refine blk_drew ?_ | refine blk_alloc ?_ _)); refine blk_put (cs := #[.int .i64 ((rd_T41 x5_34 x233_6).f0), .int .i64 0]) ?_ 1 _ rfl; (with_reducible repeat (first | refine blk_drewN ?_ _ | refine blk_drew ?_ | refine blk_alloc ?_ _)); refine blk_put (cs := #[.int .i64 0, .int .i64 0]) ?_ 0 _ rfl; (with_reducible repeat (first | refine blk_drewN ?_ _ | refine blk_drew ?_ | refine blk_alloc ?_ _)); exact BK236.out⟩); (have n6_ : Aside0 (Below w.heap.size w ((w145.setCell ⟨gb236, 0, none⟩ (.int .i64 ((rd_T41 x5_34 x233_6).f0))).setCell ⟨gb236, 1, none⟩ (.int .i64 ((rd_T41 x5_34 x233_6).f1)))) := ⟨by repeat (first | (with_reducible first | exact HB.out | apply below_alloc | apply pw_below_drewN | apply below_drew1 | refine below_set ?_ GE201.out | refine below_set ?_ GE236.out) | exact HB.out)⟩)
                              (try clear HO_5)
                              (try clear HO_7)
                              (try clear HO_8)
                              (try clear HO_231)
                              (try clear BK201)
                              (try clear BK236)
                              (try clear HB)
                              generalize ((w145.setCell ⟨gb236, 0, none⟩ (.int .i64 ((rd_T41 x5_34 x233_6).f0))).setCell ⟨gb236, 1, none⟩ (.int .i64 ((rd_T41 x5_34 x233_6).f1))) = w157 at n0_ n1_ n2_ n3_ n4_ n5_ n6_ ⊢
                              (have HO_5 := n0_); (have HO_7 := n1_); (have HO_8 := n2_); (have HO_231 := n3_); (have BK201 := n4_); (have BK236 := n5_); (have HB := n6_); (clear n0_ n1_ n2_ n3_ n4_ n5_ n6_); (have n0_ := Aside0.mk (Kd.R_drew HO_5.out)); (have n1_ := Aside0.mk (Kd.R_drew HO_7.out)); (have n2_ := Aside0.mk (Kd.R_drew HO_8.out)); (have n3_ := Aside0.mk (Kd.R_drew HO_231.out)); (have n4_ := Aside0.mk (blk_drew BK201.out)); (have n5_ := Aside0.mk (blk_drew BK236.out)); (have n6_ := Aside0.mk (below_drew1 HB.out)); (clear HO_5); (clear HO_7); (clear HO_8); (clear HO_231); (clear BK201); (clear BK236); (clear HB); (have HO_5 := n0_); (have HO_7 := n1_); (have HO_8 := n2_); (have HO_231 := n3_); (have BK201 := n4_); (have BK236 := n5_); (have HB := n6_); (clear n0_ n1_ n2_ n3_ n4_ n5_ n6_); (obtain ⟨Ao159, co159, eo159⟩ := Kd.R_slice HO_7.out)
                              (first | subst eo159 | (injection eo159 with f1_ f2_ f3_; have f4_ := f1_.symm; have f5_ := f3_.symm; clear f1_ f2_ f3_; subst f4_; subst f5_))
                              (have p237 : 0 ≤ (x233_6 : Int) := of_decide_eq_true (by first | (with_reducible assumption) | assumption)); (have q237 : x233_6 < (x7_34.length : Int) := of_decide_eq_true (by first | (with_reducible assumption) | assumption)); (obtain ⟨ad237, e237, hx237_0⟩ := Kd.at_int (Kd.R_reads' HO_7.out).2.2 x233_6 p237 q237)
                              cases e237
                              (replace p237 := eq_true p237); (replace q237 := eq_true q237)
                              refine start_ (n := 17) (S := fun w' => w'.cell? ⟨gb236, 0, none⟩ = some (.int .i64 ((rd_T41 x5_34 x233_6).f0)) ∧ w'.cell? ⟨gb236, 1, none⟩ = some (.int .i64 ((rd_T41 x5_34 x233_6).f1)) ∧ w'.cell? (ad237.add (x233_6).toNat) = some (.int .i64 (rd x7_34 x233_6))) (ds := []) #[false, false, false, false, false, false, false, false, false, false, false, false, false, false, false, false, false] (by kernel_rfl) rfl rfl ⟨(blk_cell BK236.out 0).trans rfl, (blk_cell BK236.out 1).trans rfl, hx237_0⟩ (fun hHeld => ?_); refine with_tabW estoverslaw32_SlotsReferences.tab53 estoverslaw32_SlotsReferences.bits53 (fun HT_ HW_ => ?_)
                              generalize w157.drew = w158 at HO_5 HO_7 HO_8 HO_231 BK201 BK236 HB hx237_0 hHeld ⊢
                              refine pure_ (i := 0) (N := some 238) (v := ?_) (a' := ?_) #[true, false, false, false, false, false, false, false, false, false, false, false, false, false, false, false, false] rfl rfl (any_of HT_.out (by kernel_rfl)) (fun _ _ _ h => h) (Or.inl ⟨by rfl, ?_⟩) ?_ ?_
                              rotate_left
                              · intro w'
                                go_simp
                                with_reducible rfl
                              rotate_left
                              · simp only [Act.put, List.setIfInBounds_toArray, List.set_cons_zero, List.set_cons_succ, i64_w, i32_w]
                                rfl
                              refine pure_ (i := 2) (N := some 240) (v := ?_) (a' := ?_) #[true, false, true, false, false, false, false, false, false, false, false, false, false, false, false, false, false] rfl rfl (any_of HT_.out (by kernel_rfl)) (fun _ _ _ h => h) (Or.inl ⟨by rfl, ?_⟩) ?_ ?_
                              rotate_left
                              · intro w'
                                go_simp
                                with_reducible rfl
                              rotate_left
                              · simp only [Act.put, List.setIfInBounds_toArray, List.set_cons_zero, List.set_cons_succ, i64_w, i32_w]
                                rfl
                              refine pure_ (i := 3) (N := some 241) (v := ?_) (a' := ?_) #[true, false, true, true, false, false, false, false, false, false, false, false, false, false, false, false, false] rfl rfl (any_of HT_.out (by kernel_rfl)) (fun _ _ _ h => h) (Or.inl ⟨by rfl, ?_⟩) ?_ ?_
                              rotate_left
                              · intro w'
                                go_simp
                                with_reducible rfl
                              rotate_left
                              · simp only [Act.put, List.setIfInBounds_toArray, List.set_cons_zero, List.set_cons_succ, i64_w, i32_w]
                                rfl
                              refine pure_ (i := 4) (N := some 242) (v := ?_) (a' := ?_) #[true, false, true, true, true, false, false, false, false, false, false, false, false, false, false, false, false] rfl rfl (any_of HT_.out (by kernel_rfl)) (fun _ _ _ h => h) (Or.inl ⟨by rfl, ?_⟩) ?_ ?_
                              rotate_left
                              · intro w'
                                go_simp
                                with_reducible rfl
                              rotate_left
                              · simp only [Act.put, List.setIfInBounds_toArray, List.set_cons_zero, List.set_cons_succ, i64_w, i32_w]
                                rfl
                              refine take_ (i := 1) (N := some 239) (v := ?_) (a' := ?_) #[true, true, true, true, true, false, false, false, false, false, false, false, false, false, false, false, false] rfl rfl (take_ofW HT_.out HW_.out (by kernel_rfl)) (fun _ _ _ h => h) (Or.inl ⟨by rfl, ?_⟩) hHeld ?_ ?_
                              rotate_left
                              · rintro w' ⟨s0, s1, s2⟩
                                go_simp
                                with_reducible rfl
                              rotate_left
                              · simp only [Act.put, List.setIfInBounds_toArray, List.set_cons_zero, List.set_cons_succ, i64_w, i32_w]
                                rfl
                              refine take_ (i := 5) (N := some 243) (v := ?_) (a' := ?_) #[true, true, true, true, true, true, false, false, false, false, false, false, false, false, false, false, false] rfl rfl (take_ofW HT_.out HW_.out (by kernel_rfl)) (fun _ _ _ h => h) (Or.inl ⟨by rfl, ?_⟩) hHeld ?_ ?_
                              rotate_left
                              · rintro w' ⟨s0, s1, s2⟩
                                go_simp
                                with_reducible rfl
                              rotate_left
                              · simp only [Act.put, List.setIfInBounds_toArray, List.set_cons_zero, List.set_cons_succ, i64_w, i32_w]
                                rfl
                              refine pure_ (i := 6) (N := some 244) (v := ?_) (a' := ?_) #[true, true, true, true, true, true, true, false, false, false, false, false, false, false, false, false, false] rfl rfl (any_of HT_.out (by kernel_rfl)) (fun _ _ _ h => h) (Or.inl ⟨by rfl, ?_⟩) ?_ ?_
                              rotate_left
                              · intro w'
                                go_simp
                                with_reducible rfl
                              rotate_left
                              · simp only [Act.put, List.setIfInBounds_toArray, List.set_cons_zero, List.set_cons_succ, i64_w, i32_w]
                                rfl
                              refine pure_ (i := 7) (N := some 245) (v := ?_) (a' := ?_) #[true, true, true, true, true, true, true, true, false, false, false, false, false, false, false, false, false] rfl rfl (any_of HT_.out (by kernel_rfl)) (fun _ _ _ h => h) (Or.inl ⟨by rfl, ?_⟩) ?_ ?_
                              rotate_left
                              · intro w'
                                go_simp
                                with_reducible rfl
                              rotate_left
                              · simp only [Act.put, List.setIfInBounds_toArray, List.set_cons_zero, List.set_cons_succ, i64_w, i32_w]
                                rfl
                              refine pure_ (i := 8) (N := some 246) (v := undef) (a' := ?_) #[true, true, true, true, true, true, true, true, true, false, false, false, false, false, false, false, false] rfl rfl (any_of HT_.out (by kernel_rfl)) (fun _ _ _ h => h) (Or.inr ⟨by rfl, rfl⟩) ?_ ?_
                              rotate_left
                              · simp only [Act.put, List.setIfInBounds_toArray, List.set_cons_zero, List.set_cons_succ, i64_w, i32_w]
                                rfl
                              refine pure_ (i := 9) (N := some 247) (v := undef) (a' := ?_) #[true, true, true, true, true, true, true, true, true, true, false, false, false, false, false, false, false] rfl rfl (any_of HT_.out (by kernel_rfl)) (fun _ _ _ h => h) (Or.inr ⟨by rfl, rfl⟩) ?_ ?_
                              rotate_left
                              · simp only [Act.put, List.setIfInBounds_toArray, List.set_cons_zero, List.set_cons_succ, i64_w, i32_w]
                                rfl
                              refine pure_ (i := 10) (N := some 248) (v := undef) (a' := ?_) #[true, true, true, true, true, true, true, true, true, true, true, false, false, false, false, false, false] rfl rfl (any_of HT_.out (by kernel_rfl)) (fun _ _ _ h => h) (Or.inr ⟨by rfl, rfl⟩) ?_ ?_
                              rotate_left
                              · simp only [Act.put, List.setIfInBounds_toArray, List.set_cons_zero, List.set_cons_succ, i64_w, i32_w]
                                rfl
                              refine pure_ (i := 11) (N := some 249) (v := undef) (a' := ?_) #[true, true, true, true, true, true, true, true, true, true, true, true, false, false, false, false, false] rfl rfl (any_of HT_.out (by kernel_rfl)) (fun _ _ _ h => h) (Or.inr ⟨by rfl, rfl⟩) ?_ ?_
                              rotate_left
                              · simp only [Act.put, List.setIfInBounds_toArray, List.set_cons_zero, List.set_cons_succ, i64_w, i32_w]
                                rfl
                              refine pure_ (i := 12) (N := some 250) (v := undef) (a' := ?_) #[true, true, true, true, true, true, true, true, true, true, true, true, true, false, false, false, false] rfl rfl (any_of HT_.out (by kernel_rfl)) (fun _ _ _ h => h) (Or.inr ⟨by rfl, rfl⟩) ?_ ?_
                              rotate_left
                              · simp only [Act.put, List.setIfInBounds_toArray, List.set_cons_zero, List.set_cons_succ, i64_w, i32_w]
                                rfl
                              refine pure_ (i := 13) (N := some 251) (v := undef) (a' := ?_) #[true, true, true, true, true, true, true, true, true, true, true, true, true, true, false, false, false] rfl rfl (any_of HT_.out (by kernel_rfl)) (fun _ _ _ h => h) (Or.inr ⟨by rfl, rfl⟩) ?_ ?_
                              rotate_left
                              · simp only [Act.put, List.setIfInBounds_toArray, List.set_cons_zero, List.set_cons_succ, i64_w, i32_w]
                                rfl
                              refine pure_ (i := 14) (N := some 252) (v := undef) (a' := ?_) #[true, true, true, true, true, true, true, true, true, true, true, true, true, true, true, false, false] rfl rfl (any_of HT_.out (by kernel_rfl)) (fun _ _ _ h => h) (Or.inr ⟨by rfl, rfl⟩) ?_ ?_
                              rotate_left
                              · simp only [Act.put, List.setIfInBounds_toArray, List.set_cons_zero, List.set_cons_succ, i64_w, i32_w]
                                rfl
                              refine pure_ (i := 15) (N := some 253) (v := undef) (a' := ?_) #[true, true, true, true, true, true, true, true, true, true, true, true, true, true, true, true, false] rfl rfl (any_of HT_.out (by kernel_rfl)) (fun _ _ _ h => h) (Or.inr ⟨by rfl, rfl⟩) ?_ ?_
                              rotate_left
                              · simp only [Act.put, List.setIfInBounds_toArray, List.set_cons_zero, List.set_cons_succ, i64_w, i32_w]
                                rfl
                              refine pure_ (i := 16) (N := some 254) (v := ?_) (a' := ?_) #[true, true, true, true, true, true, true, true, true, true, true, true, true, true, true, true, true] rfl rfl (any_of HT_.out (by kernel_rfl)) (fun _ _ _ h => h) (Or.inl ⟨by rfl, ?_⟩) ?_ ?_
                              rotate_left
                              · intro w'
                                go_simp
                                with_reducible rfl
                              rotate_left
                              · simp only [Act.put, List.setIfInBounds_toArray, List.set_cons_zero, List.set_cons_succ, i64_w, i32_w]
                                rfl
                              refine done_ (done_of HT_.out (by kernel_rfl)) ?_
                              try go_wp2
                              go_meet
                              case rel => exact ⟨_, (true), (by first | rfl | (simp; done) | (simp [*]; done)), H', ⟨by have := HJ2.out; have := HK2.out; have := HJ24.out; have := HJ34.out; have := HJ130.out; have := HK6.out; first | omega | exact Nat.le_refl _⟩, ⟨by (with_reducible repeat (first | apply Kd.R_alloc | apply Kd.R_drewN | apply Kd.R_drew)); exact HO_5.out⟩, ⟨by (with_reducible repeat (first | apply Kd.R_alloc | apply Kd.R_drewN | apply Kd.R_drew)); exact HO_7.out⟩, ⟨by (with_reducible repeat (first | apply Kd.R_alloc | apply Kd.R_drewN | apply Kd.R_drew)); exact HO_8.out⟩, ⟨by (with_reducible repeat (first | apply Kd.R_alloc | apply Kd.R_drewN | apply Kd.R_drew)); exact HO_231.out⟩, ⟨by (with_reducible repeat (first | refine blk_drewN ?_ _ | refine blk_drew ?_ | refine blk_alloc ?_ _)); exact BK201.out⟩, ⟨by (with_reducible repeat (first | refine blk_drewN ?_ _ | refine blk_drew ?_ | refine blk_alloc ?_ _)); exact BK236.out⟩, ⟨by repeat (first | (with_reducible first | exact HB.out | apply below_alloc | apply pw_below_drewN | apply below_drew1 | refine below_set ?_ GE201.out | refine below_set ?_ GE236.out) | exact HB.out)⟩⟩
                            (rw [if_pos c149] at H); (have c149b0 : (((rd_T41 x5_34 x233_6).f1) == (rd x7_34 x233_6)) = true := beq_iff_eq.mpr c149); (have c149b1 : (((rd_T41 x5_34 x233_6).f1) != (rd x7_34 x233_6)) = false := bne_eq_false_iff_eq.mpr c149); (clear c149); (replace H := Option.bind_eq_some_iff.mp H); (obtain ⟨t238, A1500, H⟩ := H); (replace H : (if x233_6 < (x8_34.length : Int) then (estoverslaw32_SlotsReferences.j13 k6 x5_34 x7_34 x8_34 x26_6 x233_6 l1 (l1.length : Int) x54_2 x5_34 (x5_34.length : Int) x233_6 (t238 == (rdOf false x8_34 x233_6))) else (none)) = some r := H); (have A150 := Aside0.mk A1500); (clear A1500)
                            by_cases c151 : x233_6 < (x8_34.length : Int)
                            rotate_left
                            · rw [if_neg c151] at H
                              exact absurd H (by simp)
                            (rw [if_pos c151] at H); (have c151b0 : decide (x233_6 < (x8_34.length : Int)) = true := decide_eq_true c151); (clear c151); (have H' := Aside0.mk H); (clear H)
                            try go_wp2
                            (have n0_ : Aside0 (Kd.R k41 41 ((w145.setCell ⟨gb236, 0, none⟩ (.int .i64 ((rd_T41 x5_34 x233_6).f0))).setCell ⟨gb236, 1, none⟩ (.int .i64 ((rd_T41 x5_34 x233_6).f1))) w.heap.size (fun k_ => k_ ≠ gb236) (.slice (some ad235) x5_34.length co140) x5_34) := ⟨by (with_reducible repeat (first | apply Kd.R_alloc | apply Kd.R_drewN | apply Kd.R_drew)); exact Kd.R_mono (Kd.R_far (p := ⟨gb236, 1, none⟩) (Kd.R_far (p := ⟨gb236, 0, none⟩) (Kd.R_mono HO_5.out (fun k_ hk => (⟨hk, hk.2⟩ : _ ∧ k_ ≠ gb236))) (fun _ hk => hk.2) (.int .i64 ((rd_T41 x5_34 x233_6).f0))) (fun _ hk => hk.2) (.int .i64 ((rd_T41 x5_34 x233_6).f1))) (fun _ hk => hk.1.2)⟩); (have n1_ : Aside0 (Kd.R (Kd.int .i64) 3 ((w145.setCell ⟨gb236, 0, none⟩ (.int .i64 ((rd_T41 x5_34 x233_6).f0))).setCell ⟨gb236, 1, none⟩ (.int .i64 ((rd_T41 x5_34 x233_6).f1))) w.heap.size (fun _ => True) v195 x7_34) := ⟨by (with_reducible repeat (first | apply Kd.R_alloc | apply Kd.R_drewN | apply Kd.R_drew)); exact Kd.R_mono (Kd.R_far (p := ⟨gb236, 1, none⟩) (Kd.R_far (p := ⟨gb236, 0, none⟩) (Kd.R_types HO_7.out BK236.out (by decide)) (fun _ hk => hk.2) (.int .i64 ((rd_T41 x5_34 x233_6).f0))) (fun _ hk => hk.2) (.int .i64 ((rd_T41 x5_34 x233_6).f1))) (fun _ hk => trivial)⟩); (have n2_ : Aside0 (Kd.R Kd.bool 4 ((w145.setCell ⟨gb236, 0, none⟩ (.int .i64 ((rd_T41 x5_34 x233_6).f0))).setCell ⟨gb236, 1, none⟩ (.int .i64 ((rd_T41 x5_34 x233_6).f1))) w.heap.size (fun _ => True) v198 x8_34) := ⟨by (with_reducible repeat (first | apply Kd.R_alloc | apply Kd.R_drewN | apply Kd.R_drew)); exact Kd.R_mono (Kd.R_far (p := ⟨gb236, 1, none⟩) (Kd.R_far (p := ⟨gb236, 0, none⟩) (Kd.R_types HO_8.out BK236.out (by decide)) (fun _ hk => hk.2) (.int .i64 ((rd_T41 x5_34 x233_6).f0))) (fun _ hk => hk.2) (.int .i64 ((rd_T41 x5_34 x233_6).f1))) (fun _ hk => trivial)⟩); (have n3_ : Aside0 (Kd.R k41 41 ((w145.setCell ⟨gb236, 0, none⟩ (.int .i64 ((rd_T41 x5_34 x233_6).f0))).setCell ⟨gb236, 1, none⟩ (.int .i64 ((rd_T41 x5_34 x233_6).f1))) w.heap.size (fun k_ => k_ ≠ gb236) (.slice (some ad235) x5_34.length co140) x5_34) := ⟨by (with_reducible repeat (first | apply Kd.R_alloc | apply Kd.R_drewN | apply Kd.R_drew)); exact Kd.R_mono (Kd.R_far (p := ⟨gb236, 1, none⟩) (Kd.R_far (p := ⟨gb236, 0, none⟩) (Kd.R_mono HO_231.out (fun k_ hk => (⟨hk, hk.2⟩ : _ ∧ k_ ≠ gb236))) (fun _ hk => hk.2) (.int .i64 ((rd_T41 x5_34 x233_6).f0))) (fun _ hk => hk.2) (.int .i64 ((rd_T41 x5_34 x233_6).f1))) (fun _ hk => hk.1.2)⟩); (have n4_ : Aside0 (((w145.setCell ⟨gb236, 0, none⟩ (.int .i64 ((rd_T41 x5_34 x233_6).f0))).setCell ⟨gb236, 1, none⟩ (.int .i64 ((rd_T41 x5_34 x233_6).f1))).heap[gb201]? = some (.cells #[.int .i64 ((rd_T34 l1 x54_2).f0), .int .i64 ((rd_T34 l1 x54_2).f1), .int .i64 ((rd_T34 l1 x54_2).f2)] 34 (0, 0))) := ⟨by (with_reducible repeat (first | refine blk_drewN ?_ _ | refine blk_drew ?_ | refine blk_alloc ?_ _)); refine blk_far ?_ NB201_236.out _; (with_reducible repeat (first | refine blk_drewN ?_ _ | refine blk_drew ?_ | refine blk_alloc ?_ _)); refine blk_far ?_ NB201_236.out _; (with_reducible repeat (first | refine blk_drewN ?_ _ | refine blk_drew ?_ | refine blk_alloc ?_ _)); exact BK201.out⟩); (have n5_ : Aside0 (((w145.setCell ⟨gb236, 0, none⟩ (.int .i64 ((rd_T41 x5_34 x233_6).f0))).setCell ⟨gb236, 1, none⟩ (.int .i64 ((rd_T41 x5_34 x233_6).f1))).heap[gb236]? = some (.cells #[.int .i64 ((rd_T41 x5_34 x233_6).f0), .int .i64 ((rd_T41 x5_34 x233_6).f1)] 41 (0, 0))) := ⟨by (with_reducible repeat (first | refine blk_drewN ?_ _ | refine blk_drew ?_ | refine blk_alloc ?_ _)); refine blk_put (cs := #[.int .i64 ((rd_T41 x5_34 x233_6).f0), .int .i64 0]) ?_ 1 _ rfl; (with_reducible repeat (first | refine blk_drewN ?_ _ | refine blk_drew ?_ | refine blk_alloc ?_ _)); refine blk_put (cs := #[.int .i64 0, .int .i64 0]) ?_ 0 _ rfl; (with_reducible repeat (first | refine blk_drewN ?_ _ | refine blk_drew ?_ | refine blk_alloc ?_ _)); exact BK236.out⟩); (have n6_ : Aside0 (Below w.heap.size w ((w145.setCell ⟨gb236, 0, none⟩ (.int .i64 ((rd_T41 x5_34 x233_6).f0))).setCell ⟨gb236, 1, none⟩ (.int .i64 ((rd_T41 x5_34 x233_6).f1)))) := ⟨by repeat (first | (with_reducible first | exact HB.out | apply below_alloc | apply pw_below_drewN | apply below_drew1 | refine below_set ?_ GE201.out | refine below_set ?_ GE236.out) | exact HB.out)⟩)
                            (try clear HO_5)
                            (try clear HO_7)
                            (try clear HO_8)
                            (try clear HO_231)
                            (try clear BK201)
                            (try clear BK236)
                            (try clear HB)
                            generalize ((w145.setCell ⟨gb236, 0, none⟩ (.int .i64 ((rd_T41 x5_34 x233_6).f0))).setCell ⟨gb236, 1, none⟩ (.int .i64 ((rd_T41 x5_34 x233_6).f1))) = w152 at n0_ n1_ n2_ n3_ n4_ n5_ n6_ ⊢
                            (have HO_5 := n0_); (have HO_7 := n1_); (have HO_8 := n2_); (have HO_231 := n3_); (have BK201 := n4_); (have BK236 := n5_); (have HB := n6_); (clear n0_ n1_ n2_ n3_ n4_ n5_ n6_); (have n0_ := Aside0.mk (Kd.R_drew HO_5.out)); (have n1_ := Aside0.mk (Kd.R_drew HO_7.out)); (have n2_ := Aside0.mk (Kd.R_drew HO_8.out)); (have n3_ := Aside0.mk (Kd.R_drew HO_231.out)); (have n4_ := Aside0.mk (blk_drew BK201.out)); (have n5_ := Aside0.mk (blk_drew BK236.out)); (have n6_ := Aside0.mk (below_drew1 HB.out)); (clear HO_5); (clear HO_7); (clear HO_8); (clear HO_231); (clear BK201); (clear BK236); (clear HB); (have HO_5 := n0_); (have HO_7 := n1_); (have HO_8 := n2_); (have HO_231 := n3_); (have BK201 := n4_); (have BK236 := n5_); (have HB := n6_); (clear n0_ n1_ n2_ n3_ n4_ n5_ n6_); (obtain ⟨Ao154, co154, eo154⟩ := Kd.R_slice HO_7.out)
                            (first | subst eo154 | (injection eo154 with f1_ f2_ f3_; have f4_ := f1_.symm; have f5_ := f3_.symm; clear f1_ f2_ f3_; subst f4_; subst f5_))
                            (have p237 : 0 ≤ (x233_6 : Int) := of_decide_eq_true (by first | (with_reducible assumption) | assumption)); (have q237 : x233_6 < (x7_34.length : Int) := of_decide_eq_true (by first | (with_reducible assumption) | assumption)); (obtain ⟨ad237, e237, hx237_0⟩ := Kd.at_int (Kd.R_reads' HO_7.out).2.2 x233_6 p237 q237)
                            cases e237
                            (replace p237 := eq_true p237); (replace q237 := eq_true q237); (obtain ⟨Ao155, co155, eo155⟩ := Kd.R_slice HO_8.out)
                            (first | subst eo155 | (injection eo155 with f1_ f2_ f3_; have f4_ := f1_.symm; have f5_ := f3_.symm; clear f1_ f2_ f3_; subst f4_; subst f5_))
                            (have p239 : 0 ≤ (x233_6 : Int) := of_decide_eq_true (by first | (with_reducible assumption) | assumption)); (have q239 : x233_6 < (x8_34.length : Int) := of_decide_eq_true (by first | (with_reducible assumption) | assumption)); (obtain ⟨ad239, e239, hx239_0⟩ := Kd.at_bool (Kd.R_reads' HO_8.out).2.2 x233_6 p239 q239)
                            cases e239
                            (replace p239 := eq_true p239); (replace q239 := eq_true q239)
                            refine start_ (n := 17) (S := fun w' => w'.cell? ⟨gb236, 0, none⟩ = some (.int .i64 ((rd_T41 x5_34 x233_6).f0)) ∧ w'.cell? ⟨gb236, 1, none⟩ = some (.int .i64 ((rd_T41 x5_34 x233_6).f1)) ∧ w'.cell? (ad237.add (x233_6).toNat) = some (.int .i64 (rd x7_34 x233_6)) ∧ w'.cell? (ad239.add (x233_6).toNat) = some (.bool (rdOf false x8_34 x233_6))) (ds := []) #[false, false, false, false, false, false, false, false, false, false, false, false, false, false, false, false, false] (by kernel_rfl) rfl rfl ⟨(blk_cell BK236.out 0).trans rfl, (blk_cell BK236.out 1).trans rfl, hx237_0, hx239_0⟩ (fun hHeld => ?_); refine with_tabW estoverslaw32_SlotsReferences.tab53 estoverslaw32_SlotsReferences.bits53 (fun HT_ HW_ => ?_)
                            generalize w152.drew = w153 at HO_5 HO_7 HO_8 HO_231 BK201 BK236 HB hx237_0 hx239_0 hHeld ⊢
                            refine pure_ (i := 0) (N := some 238) (v := ?_) (a' := ?_) #[true, false, false, false, false, false, false, false, false, false, false, false, false, false, false, false, false] rfl rfl (any_of HT_.out (by kernel_rfl)) (fun _ _ _ h => h) (Or.inl ⟨by rfl, ?_⟩) ?_ ?_
                            rotate_left
                            · intro w'
                              go_simp
                              with_reducible rfl
                            rotate_left
                            · simp only [Act.put, List.setIfInBounds_toArray, List.set_cons_zero, List.set_cons_succ, i64_w, i32_w]
                              rfl
                            refine pure_ (i := 2) (N := some 240) (v := ?_) (a' := ?_) #[true, false, true, false, false, false, false, false, false, false, false, false, false, false, false, false, false] rfl rfl (any_of HT_.out (by kernel_rfl)) (fun _ _ _ h => h) (Or.inl ⟨by rfl, ?_⟩) ?_ ?_
                            rotate_left
                            · intro w'
                              go_simp
                              with_reducible rfl
                            rotate_left
                            · simp only [Act.put, List.setIfInBounds_toArray, List.set_cons_zero, List.set_cons_succ, i64_w, i32_w]
                              rfl
                            refine pure_ (i := 3) (N := some 241) (v := ?_) (a' := ?_) #[true, false, true, true, false, false, false, false, false, false, false, false, false, false, false, false, false] rfl rfl (any_of HT_.out (by kernel_rfl)) (fun _ _ _ h => h) (Or.inl ⟨by rfl, ?_⟩) ?_ ?_
                            rotate_left
                            · intro w'
                              go_simp
                              with_reducible rfl
                            rotate_left
                            · simp only [Act.put, List.setIfInBounds_toArray, List.set_cons_zero, List.set_cons_succ, i64_w, i32_w]
                              rfl
                            refine pure_ (i := 4) (N := some 242) (v := ?_) (a' := ?_) #[true, false, true, true, true, false, false, false, false, false, false, false, false, false, false, false, false] rfl rfl (any_of HT_.out (by kernel_rfl)) (fun _ _ _ h => h) (Or.inl ⟨by rfl, ?_⟩) ?_ ?_
                            rotate_left
                            · intro w'
                              go_simp
                              with_reducible rfl
                            rotate_left
                            · simp only [Act.put, List.setIfInBounds_toArray, List.set_cons_zero, List.set_cons_succ, i64_w, i32_w]
                              rfl
                            refine take_ (i := 1) (N := some 239) (v := ?_) (a' := ?_) #[true, true, true, true, true, false, false, false, false, false, false, false, false, false, false, false, false] rfl rfl (take_ofW HT_.out HW_.out (by kernel_rfl)) (fun _ _ _ h => h) (Or.inl ⟨by rfl, ?_⟩) hHeld ?_ ?_
                            rotate_left
                            · rintro w' ⟨s0, s1, s2, s3⟩
                              go_simp
                              with_reducible rfl
                            rotate_left
                            · simp only [Act.put, List.setIfInBounds_toArray, List.set_cons_zero, List.set_cons_succ, i64_w, i32_w]
                              rfl
                            refine take_ (i := 5) (N := some 243) (v := ?_) (a' := ?_) #[true, true, true, true, true, true, false, false, false, false, false, false, false, false, false, false, false] rfl rfl (take_ofW HT_.out HW_.out (by kernel_rfl)) (fun _ _ _ h => h) (Or.inl ⟨by rfl, ?_⟩) hHeld ?_ ?_
                            rotate_left
                            · rintro w' ⟨s0, s1, s2, s3⟩
                              go_simp
                              with_reducible rfl
                            rotate_left
                            · simp only [Act.put, List.setIfInBounds_toArray, List.set_cons_zero, List.set_cons_succ, i64_w, i32_w]
                              rfl
                            refine pure_ (i := 6) (N := some 244) (v := ?_) (a' := ?_) #[true, true, true, true, true, true, true, false, false, false, false, false, false, false, false, false, false] rfl rfl (any_of HT_.out (by kernel_rfl)) (fun _ _ _ h => h) (Or.inl ⟨by rfl, ?_⟩) ?_ ?_
                            rotate_left
                            · intro w'
                              go_simp
                              with_reducible rfl
                            rotate_left
                            · simp only [Act.put, List.setIfInBounds_toArray, List.set_cons_zero, List.set_cons_succ, i64_w, i32_w]
                              rfl
                            refine pure_ (i := 7) (N := some 245) (v := ?_) (a' := ?_) #[true, true, true, true, true, true, true, true, false, false, false, false, false, false, false, false, false] rfl rfl (any_of HT_.out (by kernel_rfl)) (fun _ _ _ h => h) (Or.inl ⟨by rfl, ?_⟩) ?_ ?_
                            rotate_left
                            · intro w'
                              go_simp
                              with_reducible rfl
                            rotate_left
                            · simp only [Act.put, List.setIfInBounds_toArray, List.set_cons_zero, List.set_cons_succ, i64_w, i32_w]
                              rfl
                            refine pure_ (i := 8) (N := some 246) (v := ?_) (a' := ?_) #[true, true, true, true, true, true, true, true, true, false, false, false, false, false, false, false, false] rfl rfl (any_of HT_.out (by kernel_rfl)) (fun _ _ _ h => h) (Or.inl ⟨by rfl, ?_⟩) ?_ ?_
                            rotate_left
                            · intro w'
                              go_simp
                              with_reducible rfl
                            rotate_left
                            · simp only [Act.put, List.setIfInBounds_toArray, List.set_cons_zero, List.set_cons_succ, i64_w, i32_w]
                              rfl
                            refine pure_ (i := 9) (N := some 247) (v := ?_) (a' := ?_) #[true, true, true, true, true, true, true, true, true, true, false, false, false, false, false, false, false] rfl rfl (any_of HT_.out (by kernel_rfl)) (fun _ _ _ h => h) (Or.inl ⟨by rfl, ?_⟩) ?_ ?_
                            rotate_left
                            · intro w'
                              go_simp
                              with_reducible rfl
                            rotate_left
                            · simp only [Act.put, List.setIfInBounds_toArray, List.set_cons_zero, List.set_cons_succ, i64_w, i32_w]
                              rfl
                            refine pure_ (i := 11) (N := some 249) (v := ?_) (a' := ?_) #[true, true, true, true, true, true, true, true, true, true, false, true, false, false, false, false, false] rfl rfl (any_of HT_.out (by kernel_rfl)) (fun _ _ _ h => h) (Or.inl ⟨by rfl, ?_⟩) ?_ ?_
                            rotate_left
                            · intro w'
                              go_simp
                              with_reducible rfl
                            rotate_left
                            · simp only [Act.put, List.setIfInBounds_toArray, List.set_cons_zero, List.set_cons_succ, i64_w, i32_w]
                              rfl
                            refine pure_ (i := 12) (N := some 250) (v := ?_) (a' := ?_) #[true, true, true, true, true, true, true, true, true, true, false, true, true, false, false, false, false] rfl rfl (any_of HT_.out (by kernel_rfl)) (fun _ _ _ h => h) (Or.inl ⟨by rfl, ?_⟩) ?_ ?_
                            rotate_left
                            · intro w'
                              go_simp
                              with_reducible rfl
                            rotate_left
                            · simp only [Act.put, List.setIfInBounds_toArray, List.set_cons_zero, List.set_cons_succ, i64_w, i32_w]
                              rfl
                            refine pure_ (i := 13) (N := some 251) (v := ?_) (a' := ?_) #[true, true, true, true, true, true, true, true, true, true, false, true, true, true, false, false, false] rfl rfl (any_of HT_.out (by kernel_rfl)) (fun _ _ _ h => h) (Or.inl ⟨by rfl, ?_⟩) ?_ ?_
                            rotate_left
                            · intro w'
                              go_simp
                              with_reducible rfl
                            rotate_left
                            · simp only [Act.put, List.setIfInBounds_toArray, List.set_cons_zero, List.set_cons_succ, i64_w, i32_w]
                              rfl
                            refine take_ (i := 14) (N := some 252) (v := ?_) (a' := ?_) #[true, true, true, true, true, true, true, true, true, true, false, true, true, true, true, false, false] rfl rfl (take_ofW HT_.out HW_.out (by kernel_rfl)) (fun _ _ _ h => h) (Or.inl ⟨by rfl, ?_⟩) hHeld ?_ ?_
                            rotate_left
                            · rintro w' ⟨s0, s1, s2, s3⟩
                              go_simp
                              with_reducible rfl
                            rotate_left
                            · simp only [Act.put, List.setIfInBounds_toArray, List.set_cons_zero, List.set_cons_succ, i64_w, i32_w]
                              rfl
                            refine one_ (i := 10) (N := some 248) #[true, true, true, true, true, true, true, true, true, true, true, true, true, true, true, false, false] rfl rfl (one_of HT_.out (by kernel_rfl)) (by decide) (fun K hK => ?_)
                            refine goes_ Try.func17 (by kernel_rfl) rfl #[.slice (some ad235) x5_34.length co140, .int .i64 x233_6] (by rfl) rfl rfl (by (try simp only [List.map_toArray, List.map_cons, List.map_nil]); first | done | rfl | (simp only [List.length_drop, List.length_take]; rfl)) ?_
                            with_reducible refine (slots_IsFree.calls _ _ x5_34 x233_6 t238 _ ?side1 ?side2 A150.out).mono ?_
                            (case side1 => repeat (first | exact (Kd.R_reads' HO_5.out).2.2 | (with_reducible refine Kd.C_alloc ?_ _) | (with_reducible refine Kd.C_drewN ?_ _) | (with_reducible refine Kd.C_drew ?_)))
                            (case side2 => exact (Kd.R_reads' HO_5.out).2.1)
                            rintro e w156 ⟨rfl, hb⟩
                            (have HS2_ := (hb.cell (World.block_lt_of_cell? _ _ (hHeld.2.2.1))).trans (hHeld.2.2.1)); (have HS3_ := (hb.cell (World.block_lt_of_cell? _ _ (hHeld.2.2.2))).trans (hHeld.2.2.2))
                            refine ⟨_, rfl, ?_⟩
                            (have n0_ := Aside0.mk (Kd.R_below (by (with_reducible repeat (first | apply Kd.R_alloc | apply Kd.R_drewN | apply Kd.R_drew)); exact HO_5.out) hb)); (have n1_ := Aside0.mk (Kd.R_below (by (with_reducible repeat (first | apply Kd.R_alloc | apply Kd.R_drewN | apply Kd.R_drew)); exact HO_7.out) hb)); (have n2_ := Aside0.mk (Kd.R_below (by (with_reducible repeat (first | apply Kd.R_alloc | apply Kd.R_drewN | apply Kd.R_drew)); exact HO_8.out) hb)); (have n3_ := Aside0.mk (Kd.R_below (by (with_reducible repeat (first | apply Kd.R_alloc | apply Kd.R_drewN | apply Kd.R_drew)); exact HO_231.out) hb)); (have n4_ := Aside0.mk (blk_below (g := gb201) (o := .cells #[.int .i64 ((rd_T34 l1 x54_2).f0), .int .i64 ((rd_T34 l1 x54_2).f1), .int .i64 ((rd_T34 l1 x54_2).f2)] 34 (0, 0)) (by (with_reducible repeat (first | refine blk_drewN ?_ _ | refine blk_drew ?_ | refine blk_alloc ?_ _)); exact BK201.out) hb)); (have n5_ := Aside0.mk (blk_below (g := gb236) (o := .cells #[.int .i64 ((rd_T41 x5_34 x233_6).f0), .int .i64 ((rd_T41 x5_34 x233_6).f1)] 41 (0, 0)) (by (with_reducible repeat (first | refine blk_drewN ?_ _ | refine blk_drew ?_ | refine blk_alloc ?_ _)); exact BK236.out) hb)); (have n6_ := Aside0.mk (below_step (by repeat (first | (with_reducible first | exact HB.out | apply below_alloc | apply pw_below_drewN | apply below_drew1 | refine below_set ?_ GE201.out | refine below_set ?_ GE236.out) | exact HB.out)) hb)); (clear HO_5); (clear HO_7); (clear HO_8); (clear HO_231); (clear BK201); (clear BK236); (clear HB); (have HO_5 := n0_); (have HO_7 := n1_); (have HO_8 := n2_); (have HO_231 := n3_); (have BK201 := n4_); (have BK236 := n5_); (have HB := n6_); (clear n0_ n1_ n2_ n3_ n4_ n5_ n6_)
                            (try clear hb)
                            (try clear hb2)
                            (try clear hk)
                            (try clear hi)
                            refine hK.out _ _ ⟨(blk_cell BK236.out 0).trans rfl, (blk_cell BK236.out 1).trans rfl, HS2_, HS3_⟩ (fun hHeld => ?_)
                            clear hK K
                            refine norm_ (a' := ?_) ?_ ?_
                            rotate_left
                            · show Act.put _ (some 248) _ = _
                              simp only [Act.put, List.setIfInBounds_toArray, List.set_cons_zero, List.set_cons_succ, i64_w, i32_w]
                              rfl
                            refine pure_ (i := 15) (N := some 253) (v := ?_) (a' := ?_) #[true, true, true, true, true, true, true, true, true, true, true, true, true, true, true, true, false] rfl rfl (any_of HT_.out (by kernel_rfl)) (fun _ _ _ h => h) (Or.inl ⟨by rfl, ?_⟩) ?_ ?_
                            rotate_left
                            · intro w'
                              go_simp
                              with_reducible rfl
                            rotate_left
                            · simp only [Act.put, List.setIfInBounds_toArray, List.set_cons_zero, List.set_cons_succ, i64_w, i32_w]
                              rfl
                            refine pure_ (i := 16) (N := some 254) (v := ?_) (a' := ?_) #[true, true, true, true, true, true, true, true, true, true, true, true, true, true, true, true, true] rfl rfl (any_of HT_.out (by kernel_rfl)) (fun _ _ _ h => h) (Or.inl ⟨by rfl, ?_⟩) ?_ ?_
                            rotate_left
                            · intro w'
                              go_simp
                              with_reducible rfl
                            rotate_left
                            · simp only [Act.put, List.setIfInBounds_toArray, List.set_cons_zero, List.set_cons_succ, i64_w, i32_w]
                              rfl
                            refine done_ (done_of HT_.out (by kernel_rfl)) ?_
                            try go_wp2
                            go_meet
                            case rel => exact ⟨_, ((t238 == (rdOf false x8_34 x233_6))), (by first | rfl | (simp; done) | (simp [*]; done)), H', ⟨by have := HJ2.out; have := HK2.out; have := HJ24.out; have := HJ34.out; have := HJ130.out; have := HK6.out; first | omega | exact Nat.le_refl _⟩, ⟨by (with_reducible repeat (first | apply Kd.R_alloc | apply Kd.R_drewN | apply Kd.R_drew)); exact HO_5.out⟩, ⟨by (with_reducible repeat (first | apply Kd.R_alloc | apply Kd.R_drewN | apply Kd.R_drew)); exact HO_7.out⟩, ⟨by (with_reducible repeat (first | apply Kd.R_alloc | apply Kd.R_drewN | apply Kd.R_drew)); exact HO_8.out⟩, ⟨by (with_reducible repeat (first | apply Kd.R_alloc | apply Kd.R_drewN | apply Kd.R_drew)); exact HO_231.out⟩, ⟨by (with_reducible repeat (first | refine blk_drewN ?_ _ | refine blk_drew ?_ | refine blk_alloc ?_ _)); exact BK201.out⟩, ⟨by (with_reducible repeat (first | refine blk_drewN ?_ _ | refine blk_drew ?_ | refine blk_alloc ?_ _)); exact BK236.out⟩, ⟨by repeat (first | (with_reducible first | exact HB.out | apply below_alloc | apply pw_below_drewN | apply below_drew1 | refine below_set ?_ GE201.out | refine below_set ?_ GE236.out) | exact HB.out)⟩⟩
                          case rest => as_aux_lemma =>
                            (clear HC144); (try clear c1); (try clear p1); (try clear q1); (try clear hx1); (try clear p2); (try clear q2); (try clear hx2); (try clear q4); (try clear p5); (try clear q5); (try clear hx5); (try clear p6); (try clear q6); (try clear hx6); (try clear p7); (try clear q7); (try clear hx7); (try clear c10); (try clear p10); (try clear q10); (try clear hx10); (try clear hf10); (try clear c11); (try clear c12); (try clear p12); (try clear q12); (try clear hx12); (try clear hf12); (try clear c13); (try clear c14); (try clear c15); (try clear c17); (try clear p20); (try clear q20); (try clear hx20); (try clear p21); (try clear q21); (try clear hx21); (try clear p22); (try clear q22); (try clear hx22); (try clear p23); (try clear q23); (try clear hx23); (try clear q44); (try clear p59); (try clear q59); (try clear hx59); (try clear p61); (try clear q61); (try clear hx61); (try clear p64); (try clear p74); (try clear q74); (try clear hx74); (try clear c105); (try clear c105b0); (try clear c106); (try clear c106b0); (try clear p107); (try clear q107); (try clear hx107); (try clear hf107); (try clear c108); (try clear c108b0); (try clear p109); (try clear q109); (try clear hx109); (try clear hf109); (try clear c115); (try clear c115b0); (try clear c115b1); (try clear c120); (try clear c121); (try clear c121b0); (try clear c122); (try clear c122b0); (try clear c124); (try clear c124b0); (try clear c124b1); (try clear c124b2); (try clear c125); (try clear c126); (try clear c126b0); (try clear c127); (try clear c127b0); (try clear p128); (try clear q128); (try clear hx128); (try clear hf128); (try clear c132); (try clear c132b0); (try clear c132b1); (try clear c132b2); (try clear c139); (try clear c141); (try clear c141b0); (try clear c142); (try clear c142b0); (try clear c143); (try clear c143b0); (try clear c146); (try clear c148); (try clear c148b0); (try clear c149); (try clear c149b0); (try clear c149b1); (try clear c151); (try clear c151b0); (try clear hcz101_0); (try clear hcz101_1); (try clear hcz101_2); (try clear hcz147_0); (try clear hcz147_1); (try clear hcz27_0); (try clear hcz27_1); (try clear hcz27_2); (try clear hcz36_0); (try clear hcz36_1); (try clear hcz36_2); (try clear hcz87_0); (try clear hcz87_1); (try clear hcz87_2); (try clear hfz101_0); (try clear hfz101_1); (try clear hfz101_2); (try clear hfz147_0); (try clear hfz147_1); (try clear hfz27_0); (try clear hfz27_1); (try clear hfz27_2); (try clear hfz36_0); (try clear hfz36_1); (try clear hfz36_2); (try clear hfz87_0); (try clear hfz87_1); (try clear hfz87_2); (try clear hx107_0); (try clear hx109_0); (try clear hx128_0); (try clear hx200_0); (try clear hx200_1); (try clear hx200_2); (try clear hx202_0); (try clear hx208_0); (try clear hx215_0); (try clear hx222_0); (try clear hx223_0); (try clear hx224_0); (try clear hx231_0); (try clear hx235_0); (try clear hx235_1); (try clear hx237_0); (try clear hx239_0); (try clear hx59_0); (try clear hx61_0); (try clear hx74_0); (try clear p1); (try clear p10); (try clear p107); (try clear p109); (try clear p12); (try clear p128); (try clear p2); (try clear p20); (try clear p200); (try clear p202); (try clear p208); (try clear p21); (try clear p215); (try clear p22); (try clear p222); (try clear p223); (try clear p224); (try clear p23); (try clear p231); (try clear p235); (try clear p237); (try clear p239); (try clear p5); (try clear p59); (try clear p6); (try clear p61); (try clear p64); (try clear p7); (try clear p74); (try clear q1); (try clear q10); (try clear q107); (try clear q109); (try clear q12); (try clear q128); (try clear q2); (try clear q20); (try clear q200); (try clear q202); (try clear q208); (try clear q21); (try clear q215); (try clear q22); (try clear q222); (try clear q223); (try clear q224); (try clear q23); (try clear q231); (try clear q235); (try clear q237); (try clear q239); (try clear q4); (try clear q44); (try clear q5); (try clear q59); (try clear q6); (try clear q61); (try clear q7); (try clear q74); (obtain ⟨kq, x254_143, rfl, HA, HJ143, HO_5, HO_7, HO_8, HO_231, BK201, BK236, HB⟩ := hcut)
                            cases kq with
                            | zero => exact absurd HA.out (by simp [estoverslaw32_SlotsReferences.j13])
                            | succ kj143 =>
                              (have H := HA.out); (clear HA); (simp only [estoverslaw32_SlotsReferences.j13] at H)
                              by_cases c160 : x254_143 = true
                              · rw [if_pos c160] at H
                                exact absurd ((Option.some.inj H).trans HRT.out) (by decide)
                              (replace c160 := Bool.eq_false_iff.mpr c160); (subst c160); (have H1 : (if 0 ≤ x233_6 then (if x233_6 < (x8_34.length : Int) then (if rdOf false x8_34 x233_6 = true then (estoverslaw32_SlotsReferences.l2 kj143 x5_34 x7_34 x8_34 (wrap64 (x26_6 + 1)) l1 (l1.length : Int) x54_2 x5_34 (x5_34.length : Int) (wrap64 (x233_6 + 1))) else (estoverslaw32_SlotsReferences.l2 kj143 x5_34 x7_34 x8_34 x26_6 l1 (l1.length : Int) x54_2 x5_34 (x5_34.length : Int) (wrap64 (x233_6 + 1)))) else (none)) else (none)) = some r := by rw [if_neg (show ¬ (false = true) by decide)] at H; exact H); (clear H); (have H := H1); (clear H1)
                              by_cases c161 : 0 ≤ x233_6
                              rotate_left
                              · rw [if_neg c161] at H
                                exact absurd H (by simp)
                              (rw [if_pos c161] at H); (have c161b0 : decide (0 ≤ x233_6) = true := decide_eq_true c161); (clear c161)
                              by_cases c162 : x233_6 < (x8_34.length : Int)
                              rotate_left
                              · rw [if_neg c162] at H
                                exact absurd H (by simp)
                              (rw [if_pos c162] at H); (have c162b0 : decide (x233_6 < (x8_34.length : Int)) = true := decide_eq_true c162); (clear c162); (obtain ⟨bq163, hbq163⟩ : ∃ b_ : Bool, b_ = (rdOf false x8_34 x233_6) := ⟨_, rfl⟩); (replace H : (if bq163 = true then (estoverslaw32_SlotsReferences.l2 kj143 x5_34 x7_34 x8_34 (wrap64 (x26_6 + 1)) l1 (l1.length : Int) x54_2 x5_34 (x5_34.length : Int) (wrap64 (x233_6 + 1))) else (estoverslaw32_SlotsReferences.l2 kj143 x5_34 x7_34 x8_34 x26_6 l1 (l1.length : Int) x54_2 x5_34 (x5_34.length : Int) (wrap64 (x233_6 + 1)))) = some r := by rw [← hbq163] at H; exact H); (have Nbq163 := Aside0.mk hbq163); (clear hbq163)
                              by_cases c164 : bq163 = true
                              · subst c164
                                (have H1 : (estoverslaw32_SlotsReferences.l2 kj143 x5_34 x7_34 x8_34 (wrap64 (x26_6 + 1)) l1 (l1.length : Int) x54_2 x5_34 (x5_34.length : Int) (wrap64 (x233_6 + 1))) = some r := by rw [if_pos rfl] at H; exact H); (clear H); (have H := H1); (clear H1); (have H' := Aside0.mk H); (clear H); (obtain ⟨Ao165, co165, eo165⟩ := Kd.R_slice HO_8.out); (subst eo165); (have p240 : 0 ≤ (x233_6 : Int) := of_decide_eq_true (by first | (with_reducible assumption) | assumption)); (have q240 : x233_6 < (x8_34.length : Int) := of_decide_eq_true (by first | (with_reducible assumption) | assumption)); (obtain ⟨ad240, e240, hx240_0⟩ := Kd.at_bool (Kd.R_reads' HO_8.out).2.2 x233_6 p240 q240)
                                (try rw [← Nbq163.out] at hx240_0)
                                cases e240
                                (replace p240 := eq_true p240); (replace q240 := eq_true q240)
                                go_wp2
                                go_roundg kj143
                                case measure => have := HJ2.out; have := HK2.out; have := HJ24.out; have := HJ34.out; have := HJ130.out; have := HK6.out; have := HJ143.out; omega
                                case rel => exact ⟨(wrap64 (x26_6 + 1)), (wrap64 (x233_6 + 1)), (by first | rfl | (simp; done) | (simp [*]; done)), (by first | rfl | (simp; done) | (simp [*]; done)), H', ⟨by have := HJ2.out; have := HK2.out; have := HJ24.out; have := HJ34.out; have := HJ130.out; have := HK6.out; have := HJ143.out; omega⟩, ⟨by (with_reducible repeat (first | apply Kd.R_alloc | apply Kd.R_drewN | apply Kd.R_drew)); exact Kd.R_mono HO_5.out (fun _ hk => trivial)⟩, ⟨by (with_reducible repeat (first | apply Kd.R_alloc | apply Kd.R_drewN | apply Kd.R_drew)); exact HO_7.out⟩, ⟨by (with_reducible repeat (first | apply Kd.R_alloc | apply Kd.R_drewN | apply Kd.R_drew)); exact HO_8.out⟩, ⟨by (with_reducible repeat (first | apply Kd.R_alloc | apply Kd.R_drewN | apply Kd.R_drew)); exact Kd.R_mono HO_231.out (fun _ hk => trivial)⟩, ⟨by (with_reducible repeat (first | refine blk_drewN ?_ _ | refine blk_drew ?_ | refine blk_alloc ?_ _)); exact BK201.out⟩, ⟨by repeat (first | (with_reducible first | exact HB.out | apply below_alloc | apply pw_below_drewN | apply below_drew1 | refine below_set ?_ GE201.out | refine below_set ?_ GE236.out) | exact HB.out)⟩⟩
                              (replace c164 := Bool.eq_false_iff.mpr c164); (subst c164); (have H1 : (estoverslaw32_SlotsReferences.l2 kj143 x5_34 x7_34 x8_34 x26_6 l1 (l1.length : Int) x54_2 x5_34 (x5_34.length : Int) (wrap64 (x233_6 + 1))) = some r := by rw [if_neg (show ¬ (false = true) by decide)] at H; exact H); (clear H); (have H := H1); (clear H1); (have H' := Aside0.mk H); (clear H); (obtain ⟨Ao166, co166, eo166⟩ := Kd.R_slice HO_8.out); (subst eo166); (have p240 : 0 ≤ (x233_6 : Int) := of_decide_eq_true (by first | (with_reducible assumption) | assumption)); (have q240 : x233_6 < (x8_34.length : Int) := of_decide_eq_true (by first | (with_reducible assumption) | assumption)); (obtain ⟨ad240, e240, hx240_0⟩ := Kd.at_bool (Kd.R_reads' HO_8.out).2.2 x233_6 p240 q240)
                              (try rw [← Nbq163.out] at hx240_0)
                              cases e240
                              (replace p240 := eq_true p240); (replace q240 := eq_true q240)
                              go_wp2
                              go_roundg kj143
                              case measure => have := HJ2.out; have := HK2.out; have := HJ24.out; have := HJ34.out; have := HJ130.out; have := HK6.out; have := HJ143.out; omega
                              case rel => exact ⟨(x26_6), (wrap64 (x233_6 + 1)), (by first | rfl | (simp; done) | (simp [*]; done)), (by first | rfl | (simp; done) | (simp [*]; done)), H', ⟨by have := HJ2.out; have := HK2.out; have := HJ24.out; have := HJ34.out; have := HJ130.out; have := HK6.out; have := HJ143.out; omega⟩, ⟨by (with_reducible repeat (first | apply Kd.R_alloc | apply Kd.R_drewN | apply Kd.R_drew)); exact Kd.R_mono HO_5.out (fun _ hk => trivial)⟩, ⟨by (with_reducible repeat (first | apply Kd.R_alloc | apply Kd.R_drewN | apply Kd.R_drew)); exact HO_7.out⟩, ⟨by (with_reducible repeat (first | apply Kd.R_alloc | apply Kd.R_drewN | apply Kd.R_drew)); exact HO_8.out⟩, ⟨by (with_reducible repeat (first | apply Kd.R_alloc | apply Kd.R_drewN | apply Kd.R_drew)); exact Kd.R_mono HO_231.out (fun _ hk => trivial)⟩, ⟨by (with_reducible repeat (first | refine blk_drewN ?_ _ | refine blk_drew ?_ | refine blk_alloc ?_ _)); exact BK201.out⟩, ⟨by repeat (first | (with_reducible first | exact HB.out | apply below_alloc | apply pw_below_drewN | apply below_drew1 | refine below_set ?_ GE201.out | refine below_set ?_ GE236.out) | exact HB.out)⟩⟩
end Go.Proofs.Ytjaondnglmimaaa.X
