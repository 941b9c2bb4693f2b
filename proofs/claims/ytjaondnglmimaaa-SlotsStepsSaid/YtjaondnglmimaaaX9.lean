-- Written for this claim by a program of this session (wip/px.py) with the kit's print; the contracts of GIVEN functions are proved by hand.
import Derived.Test.YtjaondnglmimaaaX0
import Derived.Test.YtjaondnglmimaaaX3
import Derived.Test.YtjaondnglmimaaaX4
import Derived.Test.YtjaondnglmimaaaX8
import Derived.Test.YtjaondnglmimaaaGiven
namespace Go.Proofs.Ytjaondnglmimaaa.X
open Go.RowKit Go.Proofs.YtjaondnglmimaaaW.PrintWords Go.Proofs.YtjaondnglmimaaaW.PrintLast Go.Proofs.YtjaondnglmimaaaW.PrintMore
attribute [local go_sem] max2_int min2_int max_two min_two max_three min_three max_four min_four   -- for this text's walks alone
set_option linter.unusedVariables false
set_option linter.unusedSimpArgs false

/-! ### estoverslaw32_SlotsSteps: function 7 -/
mutual
def estoverslaw32_SlotsSteps.j0 : Nat → List (S41) → List (S34) → Bool → Option (Bool)
  | 0, _, _, _ => none
  | k + 1, x0, x1, x26 => if x26 = true then ((estoverslaw32_awake.f k).bind fun t329 => (some t329)) else (estoverslaw32_SlotsSteps.l0 k x0 x1 (x1.length : Int) 0)
def estoverslaw32_SlotsSteps.l0 : Nat → List (S41) → List (S34) → Int → Int → Option (Bool)
  | 0, _, _, _, _ => none
  | k + 1, x0, x28, x29, x30 => if x30 < x29 then (if 0 ≤ x30 then (if x30 < (x28.length : Int) then (if ((rd_T34 x28 x30).f0) = 0 then ((slots_Alloc.f x0).bind fun bt332 => ((estoversref32_Alloc.f k x0).bind fun bt337 => (estoverslaw32_SlotsSteps.j3 k x0 bt332.1 bt337.1 bt332.2.1 bt337.2.1 bt332.2.2 bt337.2.2 false false x28 x29 x30))) else (if ((rd_T34 x28 x30).f0) = 1 then ((slots_Dup.f x0 ((rd_T34 x28 x30).f1)).bind fun bt342 => ((estoversref32_Dup.f k x0 ((rd_T34 x28 x30).f1)).bind fun bt346 => (estoverslaw32_SlotsSteps.j3 k x0 bt342.1 bt346.1 0 0 bt342.2 bt346.2 false false x28 x29 x30))) else (if ((rd_T34 x28 x30).f0) = 2 then (estoverslaw32_SlotsSteps.j2 k x0 0 0 false false x28 x29 x30 ((rd_T34 x28 x30).f0) (((rd_T34 x28 x30).f0) == 2) ((rd_T34 x28 x30).f0) ((rd_T34 x28 x30).f1) ((rd_T34 x28 x30).f2)) else (estoverslaw32_SlotsSteps.j2 k x0 0 0 false false x28 x29 x30 ((rd_T34 x28 x30).f0) (((rd_T34 x28 x30).f0) == 3) ((rd_T34 x28 x30).f0) ((rd_T34 x28 x30).f1) ((rd_T34 x28 x30).f2))))) else (none)) else (none)) else (some true)
def estoverslaw32_SlotsSteps.j3 : Nat → List (S41) → List (S41) → List (S41) → Int → Int → Int → Int → Bool → Bool → List (S34) → Int → Int → Option (Bool)
  | 0, _, _, _, _, _, _, _, _, _, _, _, _ => none
  | k + 1, x0, x7, x8, x9, x10, x11, x12, x13, x14, x28, x29, x30 => if x11 = x12 then (if x9 = x10 then (if (x13 != x14) = true then (estoverslaw32_SlotsSteps.j4 k x0 x8 x12 x28 x29 x30 true) else ((estoversref32_Same.f k x7 x8).bind fun t376 => (estoverslaw32_SlotsSteps.j4 k x0 x8 x12 x28 x29 x30 (!t376)))) else (estoverslaw32_SlotsSteps.j4 k x0 x8 x12 x28 x29 x30 true)) else (estoverslaw32_SlotsSteps.j4 k x0 x8 x12 x28 x29 x30 true)
def estoverslaw32_SlotsSteps.j4 : Nat → List (S41) → List (S41) → Int → List (S34) → Int → Int → Bool → Option (Bool)
  | 0, _, _, _, _, _, _, _ => none
  | k + 1, x0, x8, x12, x28, x29, x30, x143 => if x143 = true then (some false) else (if x12 = 0 then (estoverslaw32_SlotsSteps.l0 k x8 x28 x29 (wrap64 (x30 + 1))) else (estoverslaw32_SlotsSteps.l0 k x0 x28 x29 (wrap64 (x30 + 1))))
def estoverslaw32_SlotsSteps.j2 : Nat → List (S41) → Int → Int → Bool → Bool → List (S34) → Int → Int → Int → Bool → Int → Int → Int → Option (Bool)
  | 0, _, _, _, _, _, _, _, _, _, _, _, _, _ => none
  | k + 1, x0, x9, x10, x13, x14, x28, x29, x30, x35, x84, x332000, x332001, x332002 => if x84 = true then ((slots_Drop.f x0 x332001 (x332000 == 3)).bind fun bt350 => ((estoversref32_Drop.f k x0 x332001 (x332000 == 3)).bind fun bt355 => (estoverslaw32_SlotsSteps.j3 k x0 bt350.1 bt355.1 x9 x10 bt350.2.2 bt355.2.2 bt350.2.1 bt355.2.1 x28 x29 x30))) else (if x35 = 4 then ((slots_Release.f x0 x332001).bind fun bt360 => ((estoversref32_Release.f k x0 x332001).bind fun bt364 => (estoverslaw32_SlotsSteps.j3 k x0 bt360.1 bt364.1 x9 x10 bt360.2 bt364.2 x13 x14 x28 x29 x30))) else ((slots_Place.f x0 x332001 x332002).bind fun bt368 => ((estoversref32_Place.f k x0 x332001 x332002).bind fun bt372 => (estoverslaw32_SlotsSteps.j3 k x0 bt368.1 bt372.1 x9 x10 bt368.2 bt372.2 x13 x14 x28 x29 x30))))
end
def estoverslaw32_SlotsSteps.f (k : Nat) (l0 : List (S41)) (l1 : List (S34)) : Option (Bool) := (estoverslaw32_awake.f k).bind fun t328 => (if t328 = true then (if (l0.length : Int) > 100 then (estoverslaw32_SlotsSteps.j0 k l0 l1 true) else (estoverslaw32_SlotsSteps.j0 k l0 l1 (decide ((l1.length : Int) > 40)))) else (estoverslaw32_SlotsSteps.j0 k l0 l1 true))
theorem estoverslaw32_SlotsSteps.mono_l : ∀ k, (∀ y0 y1 y2, LeO (estoverslaw32_SlotsSteps.j0 k y0 y1 y2) (estoverslaw32_SlotsSteps.j0 (k + 1) y0 y1 y2)) ∧ (∀ y0 y1 y2 y3, LeO (estoverslaw32_SlotsSteps.l0 k y0 y1 y2 y3) (estoverslaw32_SlotsSteps.l0 (k + 1) y0 y1 y2 y3)) ∧ (∀ y0 y1 y2 y3 y4 y5 y6 y7 y8 y9 y10 y11, LeO (estoverslaw32_SlotsSteps.j3 k y0 y1 y2 y3 y4 y5 y6 y7 y8 y9 y10 y11) (estoverslaw32_SlotsSteps.j3 (k + 1) y0 y1 y2 y3 y4 y5 y6 y7 y8 y9 y10 y11)) ∧ (∀ y0 y1 y2 y3 y4 y5 y6, LeO (estoverslaw32_SlotsSteps.j4 k y0 y1 y2 y3 y4 y5 y6) (estoverslaw32_SlotsSteps.j4 (k + 1) y0 y1 y2 y3 y4 y5 y6)) ∧ (∀ y0 y1 y2 y3 y4 y5 y6 y7 y8 y9 y10 y11 y12, LeO (estoverslaw32_SlotsSteps.j2 k y0 y1 y2 y3 y4 y5 y6 y7 y8 y9 y10 y11 y12) (estoverslaw32_SlotsSteps.j2 (k + 1) y0 y1 y2 y3 y4 y5 y6 y7 y8 y9 y10 y11 y12))
  | 0 => ⟨fun _ _ _ r h => by simp [estoverslaw32_SlotsSteps.j0] at h, fun _ _ _ _ r h => by simp [estoverslaw32_SlotsSteps.l0] at h, fun _ _ _ _ _ _ _ _ _ _ _ _ r h => by simp [estoverslaw32_SlotsSteps.j3] at h, fun _ _ _ _ _ _ _ r h => by simp [estoverslaw32_SlotsSteps.j4] at h, fun _ _ _ _ _ _ _ _ _ _ _ _ _ r h => by simp [estoverslaw32_SlotsSteps.j2] at h⟩
  | k + 1 => by
    obtain ⟨ih0, ih1, ih2, ih3, ih4⟩ := estoverslaw32_SlotsSteps.mono_l k
    refine ⟨?_, ?_, ?_, ?_, ?_⟩
    · intro y0 y1 y2
      unfold estoverslaw32_SlotsSteps.j0
      repeat' first
      | (with_reducible exact ih0 _ _ _)
      | (with_reducible exact ih1 _ _ _ _)
      | (with_reducible exact ih2 _ _ _ _ _ _ _ _ _ _ _ _)
      | (with_reducible exact ih3 _ _ _ _ _ _ _)
      | (with_reducible exact ih4 _ _ _ _ _ _ _ _ _ _ _ _ _)
      | (with_reducible exact estoverslaw32_awake.mono _)
      | (with_reducible exact estoversref32_Alloc.mono _ _)
      | (with_reducible exact estoversref32_Drop.mono _ _ _ _)
      | (with_reducible exact estoversref32_Dup.mono _ _ _)
      | (with_reducible exact estoversref32_Place.mono _ _ _ _)
      | (with_reducible exact estoversref32_Release.mono _ _ _)
      | (with_reducible exact estoversref32_Same.mono _ _ _)
      | (with_reducible exact LeO.refl _)
      | (with_reducible exact LeO.none _)
      | (with_reducible refine LeO.ite ?_ ?_)
      | (with_reducible refine LeO.bind ?_ (fun _ => ?_))
      | exact ih0 _ _ _
      | exact ih1 _ _ _ _
      | exact ih2 _ _ _ _ _ _ _ _ _ _ _ _
      | exact ih3 _ _ _ _ _ _ _
      | exact ih4 _ _ _ _ _ _ _ _ _ _ _ _ _
      | exact estoverslaw32_awake.mono _
      | exact estoversref32_Alloc.mono _ _
      | exact estoversref32_Drop.mono _ _ _ _
      | exact estoversref32_Dup.mono _ _ _
      | exact estoversref32_Place.mono _ _ _ _
      | exact estoversref32_Release.mono _ _ _
      | exact estoversref32_Same.mono _ _ _
      | exact LeO.none _
      | refine LeO.ite ?_ ?_
      | refine LeO.bind ?_ (fun _ => ?_)
    · intro y0 y1 y2 y3
      unfold estoverslaw32_SlotsSteps.l0
      repeat' first
      | (with_reducible exact ih0 _ _ _)
      | (with_reducible exact ih1 _ _ _ _)
      | (with_reducible exact ih2 _ _ _ _ _ _ _ _ _ _ _ _)
      | (with_reducible exact ih3 _ _ _ _ _ _ _)
      | (with_reducible exact ih4 _ _ _ _ _ _ _ _ _ _ _ _ _)
      | (with_reducible exact estoverslaw32_awake.mono _)
      | (with_reducible exact estoversref32_Alloc.mono _ _)
      | (with_reducible exact estoversref32_Drop.mono _ _ _ _)
      | (with_reducible exact estoversref32_Dup.mono _ _ _)
      | (with_reducible exact estoversref32_Place.mono _ _ _ _)
      | (with_reducible exact estoversref32_Release.mono _ _ _)
      | (with_reducible exact estoversref32_Same.mono _ _ _)
      | (with_reducible exact LeO.refl _)
      | (with_reducible exact LeO.none _)
      | (with_reducible refine LeO.ite ?_ ?_)
      | (with_reducible refine LeO.bind ?_ (fun _ => ?_))
      | exact ih0 _ _ _
      | exact ih1 _ _ _ _
      | exact ih2 _ _ _ _ _ _ _ _ _ _ _ _
      | exact ih3 _ _ _ _ _ _ _
      | exact ih4 _ _ _ _ _ _ _ _ _ _ _ _ _
      | exact estoverslaw32_awake.mono _
      | exact estoversref32_Alloc.mono _ _
      | exact estoversref32_Drop.mono _ _ _ _
      | exact estoversref32_Dup.mono _ _ _
      | exact estoversref32_Place.mono _ _ _ _
      | exact estoversref32_Release.mono _ _ _
      | exact estoversref32_Same.mono _ _ _
      | exact LeO.none _
      | refine LeO.ite ?_ ?_
      | refine LeO.bind ?_ (fun _ => ?_)
    · intro y0 y1 y2 y3 y4 y5 y6 y7 y8 y9 y10 y11
      unfold estoverslaw32_SlotsSteps.j3
      repeat' first
      | (with_reducible exact ih0 _ _ _)
      | (with_reducible exact ih1 _ _ _ _)
      | (with_reducible exact ih2 _ _ _ _ _ _ _ _ _ _ _ _)
      | (with_reducible exact ih3 _ _ _ _ _ _ _)
      | (with_reducible exact ih4 _ _ _ _ _ _ _ _ _ _ _ _ _)
      | (with_reducible exact estoverslaw32_awake.mono _)
      | (with_reducible exact estoversref32_Alloc.mono _ _)
      | (with_reducible exact estoversref32_Drop.mono _ _ _ _)
      | (with_reducible exact estoversref32_Dup.mono _ _ _)
      | (with_reducible exact estoversref32_Place.mono _ _ _ _)
      | (with_reducible exact estoversref32_Release.mono _ _ _)
      | (with_reducible exact estoversref32_Same.mono _ _ _)
      | (with_reducible exact LeO.refl _)
      | (with_reducible exact LeO.none _)
      | (with_reducible refine LeO.ite ?_ ?_)
      | (with_reducible refine LeO.bind ?_ (fun _ => ?_))
      | exact ih0 _ _ _
      | exact ih1 _ _ _ _
      | exact ih2 _ _ _ _ _ _ _ _ _ _ _ _
      | exact ih3 _ _ _ _ _ _ _
      | exact ih4 _ _ _ _ _ _ _ _ _ _ _ _ _
      | exact estoverslaw32_awake.mono _
      | exact estoversref32_Alloc.mono _ _
      | exact estoversref32_Drop.mono _ _ _ _
      | exact estoversref32_Dup.mono _ _ _
      | exact estoversref32_Place.mono _ _ _ _
      | exact estoversref32_Release.mono _ _ _
      | exact estoversref32_Same.mono _ _ _
      | exact LeO.none _
      | refine LeO.ite ?_ ?_
      | refine LeO.bind ?_ (fun _ => ?_)
    · intro y0 y1 y2 y3 y4 y5 y6
      unfold estoverslaw32_SlotsSteps.j4
      repeat' first
      | (with_reducible exact ih0 _ _ _)
      | (with_reducible exact ih1 _ _ _ _)
      | (with_reducible exact ih2 _ _ _ _ _ _ _ _ _ _ _ _)
      | (with_reducible exact ih3 _ _ _ _ _ _ _)
      | (with_reducible exact ih4 _ _ _ _ _ _ _ _ _ _ _ _ _)
      | (with_reducible exact estoverslaw32_awake.mono _)
      | (with_reducible exact estoversref32_Alloc.mono _ _)
      | (with_reducible exact estoversref32_Drop.mono _ _ _ _)
      | (with_reducible exact estoversref32_Dup.mono _ _ _)
      | (with_reducible exact estoversref32_Place.mono _ _ _ _)
      | (with_reducible exact estoversref32_Release.mono _ _ _)
      | (with_reducible exact estoversref32_Same.mono _ _ _)
      | (with_reducible exact LeO.refl _)
      | (with_reducible exact LeO.none _)
      | (with_reducible refine LeO.ite ?_ ?_)
      | (with_reducible refine LeO.bind ?_ (fun _ => ?_))
      | exact ih0 _ _ _
      | exact ih1 _ _ _ _
      | exact ih2 _ _ _ _ _ _ _ _ _ _ _ _
      | exact ih3 _ _ _ _ _ _ _
      | exact ih4 _ _ _ _ _ _ _ _ _ _ _ _ _
      | exact estoverslaw32_awake.mono _
      | exact estoversref32_Alloc.mono _ _
      | exact estoversref32_Drop.mono _ _ _ _
      | exact estoversref32_Dup.mono _ _ _
      | exact estoversref32_Place.mono _ _ _ _
      | exact estoversref32_Release.mono _ _ _
      | exact estoversref32_Same.mono _ _ _
      | exact LeO.none _
      | refine LeO.ite ?_ ?_
      | refine LeO.bind ?_ (fun _ => ?_)
    · intro y0 y1 y2 y3 y4 y5 y6 y7 y8 y9 y10 y11 y12
      unfold estoverslaw32_SlotsSteps.j2
      repeat' first
      | (with_reducible exact ih0 _ _ _)
      | (with_reducible exact ih1 _ _ _ _)
      | (with_reducible exact ih2 _ _ _ _ _ _ _ _ _ _ _ _)
      | (with_reducible exact ih3 _ _ _ _ _ _ _)
      | (with_reducible exact ih4 _ _ _ _ _ _ _ _ _ _ _ _ _)
      | (with_reducible exact estoverslaw32_awake.mono _)
      | (with_reducible exact estoversref32_Alloc.mono _ _)
      | (with_reducible exact estoversref32_Drop.mono _ _ _ _)
      | (with_reducible exact estoversref32_Dup.mono _ _ _)
      | (with_reducible exact estoversref32_Place.mono _ _ _ _)
      | (with_reducible exact estoversref32_Release.mono _ _ _)
      | (with_reducible exact estoversref32_Same.mono _ _ _)
      | (with_reducible exact LeO.refl _)
      | (with_reducible exact LeO.none _)
      | (with_reducible refine LeO.ite ?_ ?_)
      | (with_reducible refine LeO.bind ?_ (fun _ => ?_))
      | exact ih0 _ _ _
      | exact ih1 _ _ _ _
      | exact ih2 _ _ _ _ _ _ _ _ _ _ _ _
      | exact ih3 _ _ _ _ _ _ _
      | exact ih4 _ _ _ _ _ _ _ _ _ _ _ _ _
      | exact estoverslaw32_awake.mono _
      | exact estoversref32_Alloc.mono _ _
      | exact estoversref32_Drop.mono _ _ _ _
      | exact estoversref32_Dup.mono _ _ _
      | exact estoversref32_Place.mono _ _ _ _
      | exact estoversref32_Release.mono _ _ _
      | exact estoversref32_Same.mono _ _ _
      | exact LeO.none _
      | refine LeO.ite ?_ ?_
      | refine LeO.bind ?_ (fun _ => ?_)
theorem estoverslaw32_SlotsSteps.mono : ∀ a0 a1 k, LeO (estoverslaw32_SlotsSteps.f k a0 a1) (estoverslaw32_SlotsSteps.f (k + 1) a0 a1) := by
  intro a0 a1 k
  obtain ⟨ih0, ih1, ih2, ih3, ih4⟩ := estoverslaw32_SlotsSteps.mono_l k
  unfold estoverslaw32_SlotsSteps.f
  repeat' first
      | (with_reducible exact ih0 _ _ _)
      | (with_reducible exact ih1 _ _ _ _)
      | (with_reducible exact ih2 _ _ _ _ _ _ _ _ _ _ _ _)
      | (with_reducible exact ih3 _ _ _ _ _ _ _)
      | (with_reducible exact ih4 _ _ _ _ _ _ _ _ _ _ _ _ _)
      | (with_reducible exact estoverslaw32_awake.mono _)
      | (with_reducible exact estoversref32_Alloc.mono _ _)
      | (with_reducible exact estoversref32_Drop.mono _ _ _ _)
      | (with_reducible exact estoversref32_Dup.mono _ _ _)
      | (with_reducible exact estoversref32_Place.mono _ _ _ _)
      | (with_reducible exact estoversref32_Release.mono _ _ _)
      | (with_reducible exact estoversref32_Same.mono _ _ _)
      | (with_reducible exact LeO.refl _)
      | (with_reducible exact LeO.none _)
      | (with_reducible refine LeO.ite ?_ ?_)
      | (with_reducible refine LeO.bind ?_ (fun _ => ?_))
      | exact ih0 _ _ _
      | exact ih1 _ _ _ _
      | exact ih2 _ _ _ _ _ _ _ _ _ _ _ _
      | exact ih3 _ _ _ _ _ _ _
      | exact ih4 _ _ _ _ _ _ _ _ _ _ _ _ _
      | exact estoverslaw32_awake.mono _
      | exact estoversref32_Alloc.mono _ _
      | exact estoversref32_Drop.mono _ _ _ _
      | exact estoversref32_Dup.mono _ _ _
      | exact estoversref32_Place.mono _ _ _ _
      | exact estoversref32_Release.mono _ _ _
      | exact estoversref32_Same.mono _ _ _
      | exact LeO.none _
      | refine LeO.ite ?_ ?_
      | refine LeO.bind ?_ (fun _ => ?_)
set_option maxHeartbeats 8000000 in
set_option maxRecDepth 100000 in
theorem estoverslaw32_SlotsSteps.calls (k : Nat) (P0_ : Nat → Prop) (A0 : Option Addr) (c0 : Nat) (l0 : List (S41)) (A1 : Option Addr) (c1 : Nat) (l1 : List (S34)) (r : Bool) (w : World) (hs0 : Kd.V k41 41 w w.heap.size (fun k_ => P0_ k_) (.slice A0 l0.length c0) l0) (hr1 : Kd.C k34 w A1 l1.length l1) (hc1 : l1.length ≤ c1) (h : estoverslaw32_SlotsSteps.f k l0 l1 = some r) :
    Calls Try.prog 7 #[.slice A0 l0.length c0, .slice A1 l1.length c1] w fun e w' => e = .returned (.bool r) ∧ Below w.heap.size w w' := by
  have hu34 := Try.underlying34
  have HO0 := Aside0.mk (show Kd.V k41 41 w w.heap.size (fun k_ => (P0_ k_ ∨ w.heap.size ≤ k_)) (.slice A0 l0.length c0) l0 from Kd.V_mono hs0 (fun k_ hk => .inl hk))
  have HR1 := Aside0.mk hr1
  have HC1 := Aside0.mk hc1
  clear hr1 hc1
  have HB := Aside0.mk (Below.refl w.heap.size w)
  have H : ((estoverslaw32_awake.f k).bind fun t328 => (if t328 = true then (if (l0.length : Int) > 100 then (estoverslaw32_SlotsSteps.j0 k l0 l1 true) else (estoverslaw32_SlotsSteps.j0 k l0 l1 (decide ((l1.length : Int) > 40)))) else (estoverslaw32_SlotsSteps.j0 k l0 l1 true))) = some r := h
  clear h
  have HC3 := Aside0.mk H
  clear H
  go_enter Try.func7, Try.ntmps7
  go_upto_region 1 with (fail)
  go_cut [26] (fun v26 wc => ∃ (kq : Nat) (x26_2 : Bool), v26 = .bool x26_2 ∧ Aside0 (estoverslaw32_SlotsSteps.j0 kq l0 l1 x26_2 = some r) ∧ Aside0 (kq ≤ k) ∧ Aside0 (Kd.V k41 41 wc w.heap.size (fun k_ => (P0_ k_ ∨ w.heap.size ≤ k_)) (.slice A0 l0.length c0) l0) ∧ Aside0 (Below w.heap.size w wc))
  case first =>
    have H := HC3.out
    clear HC3
    replace H := Option.bind_eq_some_iff.mp H
    obtain ⟨t328, A40, H⟩ := H
    replace H : (if t328 = true then (if (l0.length : Int) > 100 then (estoverslaw32_SlotsSteps.j0 k l0 l1 true) else (estoverslaw32_SlotsSteps.j0 k l0 l1 (decide ((l1.length : Int) > 40)))) else (estoverslaw32_SlotsSteps.j0 k l0 l1 true)) = some r := H
    have A4 := Aside0.mk A40
    clear A40
    by_cases c5 : t328 = true
    · subst c5
      have H1 : (if (l0.length : Int) > 100 then (estoverslaw32_SlotsSteps.j0 k l0 l1 true) else (estoverslaw32_SlotsSteps.j0 k l0 l1 (decide ((l1.length : Int) > 40)))) = some r := by rw [if_pos rfl] at H; exact H
      clear H
      have H := H1
      clear H1
      by_cases c6 : (l0.length : Int) > 100
      · rw [if_pos c6] at H
        have c6b0 : decide (100 < (l0.length : Int)) = true := decide_eq_true c6
        have c6b1 : decide (100 < l0.length) = true := decide_eq_true (by omega)
        clear c6
        (first | rw [c6b0] | (simp only [i64_w, i32_w]; rw [c6b0]) | skip)
        have H' := Aside0.mk H
        clear H
        go_wp2_with (first | ((with_reducible refine gate_callee (f := 9) rfl ?_); refine goesL_ (some 15) rfl rfl Try.func9 (by kernel_rfl) rfl #[] rfl (by (try simp only [List.map_toArray, List.map_cons, List.map_nil]); first | done | rfl | (simp only [List.length_drop, List.length_take]; rfl)) ?_; (with_reducible refine (estoverslaw32_awake.calls k  true _ A4.out).mono ?_); rintro e w7 ⟨rfl, hb⟩; refine ⟨_, rfl, ?_⟩; have n0_ := Aside0.mk (Kd.V_below (by (with_reducible repeat (first | apply Kd.V_alloc | apply Kd.V_drewN | apply Kd.V_drew)); exact HO0.out) hb); have n1_ := Aside0.mk (below_step (by repeat (first | (with_reducible first | exact HB.out | apply below_alloc | apply pw_below_drewN | apply below_drew1) | exact HB.out)) hb); clear HO0; clear HB; have HO0 := n0_; have HB := n1_; clear n0_ n1_; (try clear hb); (try clear hb2); (try clear hk); (try clear hi)))
        go_meet
        case rel => exact ⟨_, (true), (by first | rfl | (simp; done) | (simp [*]; done)), H', ⟨by first | omega | exact Nat.le_refl _⟩, ⟨by (with_reducible repeat (first | apply Kd.V_alloc | apply Kd.V_drewN | apply Kd.V_drew)); exact HO0.out⟩, ⟨by repeat (first | (with_reducible first | exact HB.out | apply below_alloc | apply pw_below_drewN | apply below_drew1) | exact HB.out)⟩⟩
      · rw [if_neg c6] at H
        have c6b0 : decide (100 < (l0.length : Int)) = false := decide_eq_false c6
        have c6b1 : decide (100 < l0.length) = false := decide_eq_false (by omega)
        clear c6
        (first | rw [c6b0] | (simp only [i64_w, i32_w]; rw [c6b0]) | skip)
        have H' := Aside0.mk H
        clear H
        go_wp2_with (first | ((with_reducible refine gate_callee (f := 9) rfl ?_); refine goesL_ (some 15) rfl rfl Try.func9 (by kernel_rfl) rfl #[] rfl (by (try simp only [List.map_toArray, List.map_cons, List.map_nil]); first | done | rfl | (simp only [List.length_drop, List.length_take]; rfl)) ?_; (with_reducible refine (estoverslaw32_awake.calls k  true _ A4.out).mono ?_); rintro e w8 ⟨rfl, hb⟩; refine ⟨_, rfl, ?_⟩; have n0_ := Aside0.mk (Kd.V_below (by (with_reducible repeat (first | apply Kd.V_alloc | apply Kd.V_drewN | apply Kd.V_drew)); exact HO0.out) hb); have n1_ := Aside0.mk (below_step (by repeat (first | (with_reducible first | exact HB.out | apply below_alloc | apply pw_below_drewN | apply below_drew1) | exact HB.out)) hb); clear HO0; clear HB; have HO0 := n0_; have HB := n1_; clear n0_ n1_; (try clear hb); (try clear hb2); (try clear hk); (try clear hi)))
        go_meet
        case rel => exact ⟨_, (decide ((l1.length : Int) > 40)), (by first | rfl | (simp; done) | (simp [*]; done)), H', ⟨by first | omega | exact Nat.le_refl _⟩, ⟨by (with_reducible repeat (first | apply Kd.V_alloc | apply Kd.V_drewN | apply Kd.V_drew)); exact HO0.out⟩, ⟨by repeat (first | (with_reducible first | exact HB.out | apply below_alloc | apply pw_below_drewN | apply below_drew1) | exact HB.out)⟩⟩
    · replace c5 := Bool.eq_false_iff.mpr c5
      subst c5
      have H1 : (estoverslaw32_SlotsSteps.j0 k l0 l1 true) = some r := by rw [if_neg (show ¬ (false = true) by decide)] at H; exact H
      clear H
      have H := H1
      clear H1
      have H' := Aside0.mk H
      clear H
      go_wp2_with (first | ((with_reducible refine gate_callee (f := 9) rfl ?_); refine goesL_ (some 15) rfl rfl Try.func9 (by kernel_rfl) rfl #[] rfl (by (try simp only [List.map_toArray, List.map_cons, List.map_nil]); first | done | rfl | (simp only [List.length_drop, List.length_take]; rfl)) ?_; (with_reducible refine (estoverslaw32_awake.calls k  false _ A4.out).mono ?_); rintro e w9 ⟨rfl, hb⟩; refine ⟨_, rfl, ?_⟩; have n0_ := Aside0.mk (Kd.V_below (by (with_reducible repeat (first | apply Kd.V_alloc | apply Kd.V_drewN | apply Kd.V_drew)); exact HO0.out) hb); have n1_ := Aside0.mk (below_step (by repeat (first | (with_reducible first | exact HB.out | apply below_alloc | apply pw_below_drewN | apply below_drew1) | exact HB.out)) hb); clear HO0; clear HB; have HO0 := n0_; have HB := n1_; clear n0_ n1_; (try clear hb); (try clear hb2); (try clear hk); (try clear hi)))
      go_meet
      case rel => exact ⟨_, (true), (by first | rfl | (simp; done) | (simp [*]; done)), H', ⟨by first | omega | exact Nat.le_refl _⟩, ⟨by (with_reducible repeat (first | apply Kd.V_alloc | apply Kd.V_drewN | apply Kd.V_drew)); exact HO0.out⟩, ⟨by repeat (first | (with_reducible first | exact HB.out | apply below_alloc | apply pw_below_drewN | apply below_drew1) | exact HB.out)⟩⟩
  case rest =>
    clear HC3
    try clear c1
    try clear p2
    try clear c5
    try clear c6
    try clear c6b0
    try clear c6b1
    try clear c7
    try clear c9
    obtain ⟨kq, x26_2, rfl, HA, HJ2, HO_0, HB⟩ := hcut
    cases kq with
    | zero => exact absurd HA.out (by simp [estoverslaw32_SlotsSteps.j0])
    | succ kj2 =>
      have H := HA.out
      clear HA
      simp only [estoverslaw32_SlotsSteps.j0] at H
      by_cases c10 : x26_2 = true
      · subst c10
        have H1 : ((estoverslaw32_awake.f kj2).bind fun t329 => (some t329)) = some r := by rw [if_pos rfl] at H; exact H
        clear H
        have H := H1
        clear H1
        replace H := Option.bind_eq_some_iff.mp H
        obtain ⟨t329, A110, H⟩ := H
        replace H : (some t329) = some r := H
        have A11 := Aside0.mk A110
        clear A110
        obtain rfl := Option.some.inj H
        go_wp2_with (first | ((with_reducible refine gate_callee (f := 9) rfl ?_); refine goesL_ (some 27) rfl rfl Try.func9 (by kernel_rfl) rfl #[] rfl (by (try simp only [List.map_toArray, List.map_cons, List.map_nil]); first | done | rfl | (simp only [List.length_drop, List.length_take]; rfl)) ?_; (with_reducible refine (estoverslaw32_awake.calls kj2  t329 _ A11.out).mono ?_); rintro e w12 ⟨rfl, hb⟩; refine ⟨_, rfl, ?_⟩; have n0_ := Aside0.mk (Kd.V_below (by (with_reducible repeat (first | apply Kd.V_alloc | apply Kd.V_drewN | apply Kd.V_drew)); exact HO_0.out) hb); have n1_ := Aside0.mk (below_step (by repeat (first | (with_reducible first | exact HB.out | apply below_alloc | apply pw_below_drewN | apply below_drew1) | exact HB.out)) hb); clear HO_0; clear HB; have HO_0 := n0_; have HB := n1_; clear n0_ n1_; (try clear hb); (try clear hb2); (try clear hk); (try clear hi)))
        go_ret
        exact ⟨by first | rfl | (simp [errW_none, errW_some] <;> rfl) | (simp [*, errW_none, errW_some] <;> rfl), by repeat (first | (with_reducible first | exact HB.out | apply below_alloc | apply pw_below_drewN | apply below_drew1) | exact HB.out)⟩
      · replace c10 := Bool.eq_false_iff.mpr c10
        subst c10
        have H1 : (estoverslaw32_SlotsSteps.l0 kj2 l0 l1 (l1.length : Int) 0) = some r := by rw [if_neg (show ¬ (false = true) by decide)] at H; exact H
        clear H
        have H := H1
        clear H1
        have H' := Aside0.mk H
        clear H
        go_wp2
        go_loopg [0, 30] kj2 (fun kq v0 v30 w' => ∃ (x0_2 : List (S41)) (x30_2 : Int), v30 = .int .i64 x30_2 ∧ Aside0 (estoverslaw32_SlotsSteps.l0 kq x0_2 l1 (l1.length : Int) x30_2 = some r) ∧ Aside0 (kq ≤ kj2) ∧ Aside0 (Kd.V k41 41 w' w.heap.size (fun k_ => (P0_ k_ ∨ w.heap.size ≤ k_)) v0 x0_2) ∧ Aside0 (Below w.heap.size w w'))
        case atStart => exact ⟨(l0), (0), (by first | rfl | (simp; done) | (simp [*]; done)), H', ⟨Nat.le_refl _⟩, ⟨by (with_reducible repeat (first | apply Kd.V_alloc | apply Kd.V_drewN | apply Kd.V_drew)); exact HO_0.out⟩, ⟨by repeat (first | (with_reducible first | exact HB.out | apply below_alloc | apply pw_below_drewN | apply below_drew1) | exact HB.out)⟩⟩
        case round =>
          clear H'
          try clear c1
          try clear p2
          try clear c5
          try clear c6
          try clear c6b0
          try clear c6b1
          try clear c7
          try clear c9
          try clear c10
          try clear p2
          obtain ⟨x0_2, x30_2, rfl, HA, HK2, HO_0, HB⟩ := hrel
          cases gk with
          | zero => exact absurd HA.out (by simp [estoverslaw32_SlotsSteps.l0])
          | succ k2 =>
            have H := HA.out
            clear HA
            simp only [estoverslaw32_SlotsSteps.l0] at H
            by_cases c13 : x30_2 < (l1.length : Int)
            · rw [if_pos c13] at H
              have c13b0 : decide (x30_2 < (l1.length : Int)) = true := decide_eq_true c13
              clear c13
              by_cases c14 : 0 ≤ x30_2
              · rw [if_pos c14] at H
                have c14b0 : decide (0 ≤ x30_2) = true := decide_eq_true c14
                clear c14
                by_cases c15 : x30_2 < (l1.length : Int)
                · rw [if_pos c15] at H
                  have c15b0 : decide (x30_2 < (l1.length : Int)) = true := decide_eq_true c15
                  clear c15
                  have HC16 := Aside0.mk H
                  clear H
                  have p330 : 0 ≤ (x30_2 : Int) := of_decide_eq_true (by first | (with_reducible assumption) | assumption)
                  have q330 : x30_2 < (l1.length : Int) := of_decide_eq_true (by first | (with_reducible assumption) | assumption)
                  obtain ⟨ad330, e330, hx330_0, hx330_1, hx330_2⟩ := at_T34 HR1.out x30_2 p330 q330
                  cases e330
                  replace hx330_0 := (HB.out.cell (World.block_lt_of_cell? w _ hx330_0)).trans hx330_0
                  replace hx330_1 := (HB.out.cell (World.block_lt_of_cell? w _ hx330_1)).trans hx330_1
                  replace hx330_2 := (HB.out.cell (World.block_lt_of_cell? w _ hx330_2)).trans hx330_2
                  replace p330 := eq_true p330
                  replace q330 := eq_true q330
                  go_upto_block 2 with (first | ((with_reducible refine gate_dst (N := 6) rfl ?_); (try (refine gate_guard (by rfl) ?_; dsimp only)); refine box_event ?hg (N := 6) ?hd (cs := #[.int .i64 0, .int .i64 0, .int .i64 0]) (t := 34) ?hr ?_; (case hd => rfl); (case hg => rfl); (case hr => first | (go_simp; done) | (go_simp; rfl)); intro gb331 hg w17 hbox hb; have n0_ := Aside0.mk (Kd.V_below (Kd.V_elderB (by (with_reducible repeat (first | apply Kd.V_alloc | apply Kd.V_drewN | apply Kd.V_drew)); exact HO_0.out) gb331 (Nat.le_of_eq hg.symm)) hb); have n1_ := Aside0.mk (below_step (by repeat (first | (with_reducible first | exact HB.out | apply below_alloc | apply pw_below_drewN | apply below_drew1) | exact HB.out)) hb); have n2_ := Aside0.mk (hbox); have n3_ := Aside0.mk ((by rw [hg]; exact (below_size (by repeat (first | (with_reducible first | exact HB.out | apply below_alloc | apply pw_below_drewN | apply below_drew1) | exact HB.out))) : w.heap.size ≤ gb331)); have n4_ := Aside0.mk ((by rw [hg]; exact (below_size (by repeat (first | (with_reducible first | exact HB.out | apply below_alloc | apply pw_below_drewN | apply below_drew1) | exact HB.out))) : w.heap.size ≤ gb331)); clear HO_0; clear HB; have HO_0 := n0_; have HB := n1_; have BK331 := n2_; have GW331 := n3_; have GE331 := n4_; clear n0_ n1_ n2_ n3_ n4_; clear hb hbox hg; have hcz18_0 : w17.cell? ⟨gb331, 0, none⟩ = some (.int .i64 0) := (blk_cell BK331.out 0).trans rfl; have hcz18_1 : w17.cell? ⟨gb331, 1, none⟩ = some (.int .i64 0) := (blk_cell BK331.out 1).trans rfl; have hcz18_2 : w17.cell? ⟨gb331, 2, none⟩ = some (.int .i64 0) := (blk_cell BK331.out 2).trans rfl; have hfz18_0 := blk_frozen BK331.out 0; have hfz18_1 := blk_frozen BK331.out 1; have hfz18_2 := blk_frozen BK331.out 2))
                  (try simp only [Act.put, List.setIfInBounds_toArray, List.set_cons_zero, List.set_cons_succ])
                  go_cut [7, 8, 9, 10, 11, 12, 13, 14] (fun v7 v8 v9 v10 v11 v12 v13 v14 wc => ∃ (kq : Nat) (x7_15 : List (S41)) (x8_15 : List (S41)) (x9_15 : Int) (x10_15 : Int) (x11_15 : Int) (x12_15 : Int) (x13_15 : Bool) (x14_15 : Bool), v9 = .int .i64 x9_15 ∧ v10 = .int .i64 x10_15 ∧ v11 = .int .i64 x11_15 ∧ v12 = .int .i64 x12_15 ∧ v13 = .bool x13_15 ∧ v14 = .bool x14_15 ∧ Aside0 (estoverslaw32_SlotsSteps.j3 kq x0_2 x7_15 x8_15 x9_15 x10_15 x11_15 x12_15 x13_15 x14_15 l1 (l1.length : Int) x30_2 = some r) ∧ Aside0 (kq ≤ k2) ∧ Aside0 (Kd.V k41 41 wc w.heap.size (fun k_ => (P0_ k_ ∨ w.heap.size ≤ k_) ∧ some k_ ≠ (v7 : Value).ownBlock ∧ some k_ ≠ (v8 : Value).ownBlock ∧ k_ ≠ gb331) u0 x0_2) ∧ Aside0 (Kd.R k41 41 wc w.heap.size (fun k_ => (w.heap.size ≤ k_) ∧ some k_ ≠ (v8 : Value).ownBlock) v7 x7_15) ∧ Aside0 (Kd.R k41 41 wc w.heap.size (fun k_ => (w.heap.size ≤ k_) ∧ some k_ ≠ (v7 : Value).ownBlock) v8 x8_15) ∧ Aside0 (wc.heap[gb331]? = some (.cells #[.int .i64 ((rd_T34 l1 x30_2).f0), .int .i64 ((rd_T34 l1 x30_2).f1), .int .i64 ((rd_T34 l1 x30_2).f2)] 34 (0, 0))) ∧ Aside0 (Below w.heap.size w wc))
                  case first =>
                    have H := HC16.out
                    clear HC16
                    by_cases c19 : ((rd_T34 l1 x30_2).f0) = 0
                    · rw [if_pos c19] at H
                      have c19b0 : (((rd_T34 l1 x30_2).f0) == 0) = true := beq_iff_eq.mpr c19
                      have c19b1 : (((rd_T34 l1 x30_2).f0) != 0) = false := bne_eq_false_iff_eq.mpr c19
                      clear c19
                      (first | rw [c19b0] | (simp only [i64_w, i32_w]; rw [c19b0]) | skip)
                      replace H := Option.bind_eq_some_iff.mp H
                      obtain ⟨⟨t332, t333, t334⟩, A200, H⟩ := H
                      replace H : ((estoversref32_Alloc.f k2 x0_2).bind fun bt337 => (estoverslaw32_SlotsSteps.j3 k2 x0_2 t332 bt337.1 t333 bt337.2.1 t334 bt337.2.2 false false l1 (l1.length : Int) x30_2)) = some r := H
                      have A20 := Aside0.mk A200
                      clear A200
                      replace H := Option.bind_eq_some_iff.mp H
                      obtain ⟨⟨t337, t338, t339⟩, A210, H⟩ := H
                      replace H : (estoverslaw32_SlotsSteps.j3 k2 x0_2 t332 t337 t333 t338 t334 t339 false false l1 (l1.length : Int) x30_2) = some r := H
                      have A21 := Aside0.mk A210
                      clear A210
                      have H' := Aside0.mk H
                      clear H
                      obtain ⟨Ao22, co22, eo22⟩ := Kd.V_slice HO_0.out
                      subst eo22
                      go_wp2_with (first | ((with_reducible refine gate_callee (f := 19) rfl ?_); refine goesL_ (some 58) rfl rfl Try.func19 (by kernel_rfl) rfl #[.slice Ao22 x0_2.length co22] rfl (by (try simp only [List.map_toArray, List.map_cons, List.map_nil]); first | done | rfl | (simp only [List.length_drop, List.length_take]; rfl)) ?_; (with_reducible refine (slots_Alloc.calls _ _ x0_2 t332 t333 t334 _ ?side1 ?side2 A20.out).mono ?_); (case side1 => refine (Kd.V_reads' (e := 41) (base := w.heap.size) (ok := fun k_ => ((P0_ k_ ∨ w.heap.size ≤ k_) ∧ k_ ≠ gb331)) (n := x0_2.length) (c := co22) ?_).2.2; exact (by (with_reducible repeat (first | apply Kd.V_alloc | apply Kd.V_drewN | apply Kd.V_drew)); exact (Kd.V_mono (Kd.V_far (p := ⟨gb331, 2, none⟩) (Kd.V_far (p := ⟨gb331, 1, none⟩) (Kd.V_far (p := ⟨gb331, 0, none⟩) (Kd.V_mono HO_0.out (fun k_ hk => (⟨hk, hk.2⟩ : _ ∧ k_ ≠ gb331))) (fun _ hk => hk.2) (.int .i64 ((rd_T34 l1 x30_2).f0))) (fun _ hk => hk.2) (.int .i64 ((rd_T34 l1 x30_2).f1))) (fun _ hk => hk.2) (.int .i64 ((rd_T34 l1 x30_2).f2))) (fun _ h_ => h_.1)))); (case side2 => exact (Kd.V_reads' HO_0.out).2.1); rintro e w23 ⟨v335, rfl, ho0, hb⟩; refine ⟨_, rfl, ?_⟩; have n0_ := Aside0.mk (Kd.V_elder' (by (with_reducible repeat (first | apply Kd.V_alloc | apply Kd.V_drewN | apply Kd.V_drew)); exact (Kd.V_mono (Kd.V_far (p := ⟨gb331, 2, none⟩) (Kd.V_far (p := ⟨gb331, 1, none⟩) (Kd.V_far (p := ⟨gb331, 0, none⟩) (Kd.V_mono HO_0.out (fun k_ hk => (⟨hk, hk.2⟩ : _ ∧ k_ ≠ gb331))) (fun _ hk => hk.2) (.int .i64 ((rd_T34 l1 x30_2).f0))) (fun _ hk => hk.2) (.int .i64 ((rd_T34 l1 x30_2).f1))) (fun _ hk => hk.2) (.int .i64 ((rd_T34 l1 x30_2).f2))) (fun _ h_ => h_.1))) (Kd.R_base ho0) hb); have n1_ := Aside0.mk (Kd.R_lower (Kd.R_newM (M := fun k_ => (w.heap.size ≤ k_)) ho0 (below_size (by repeat (first | (with_reducible first | exact HB.out | apply below_alloc | apply pw_below_drewN | apply below_drew1 | refine below_set ?_ GE331.out) | exact HB.out))) (fun k_ h_ => h_)) (below_size (by repeat (first | (with_reducible first | exact HB.out | apply below_alloc | apply pw_below_drewN | apply below_drew1 | refine below_set ?_ GE331.out) | exact HB.out)))); have n2_ := Aside0.mk (blk_below (g := gb331) (o := .cells #[.int .i64 ((rd_T34 l1 x30_2).f0), .int .i64 ((rd_T34 l1 x30_2).f1), .int .i64 ((rd_T34 l1 x30_2).f2)] 34 (0, 0)) (by (with_reducible repeat (first | refine blk_drewN ?_ _ | refine blk_drew ?_ | refine blk_alloc ?_ _)); refine blk_put (cs := #[.int .i64 ((rd_T34 l1 x30_2).f0), .int .i64 ((rd_T34 l1 x30_2).f1), .int .i64 0]) ?_ 2 _ rfl; (with_reducible repeat (first | refine blk_drewN ?_ _ | refine blk_drew ?_ | refine blk_alloc ?_ _)); refine blk_put (cs := #[.int .i64 ((rd_T34 l1 x30_2).f0), .int .i64 0, .int .i64 0]) ?_ 1 _ rfl; (with_reducible repeat (first | refine blk_drewN ?_ _ | refine blk_drew ?_ | refine blk_alloc ?_ _)); refine blk_put (cs := #[.int .i64 0, .int .i64 0, .int .i64 0]) ?_ 0 _ rfl; (with_reducible repeat (first | refine blk_drewN ?_ _ | refine blk_drew ?_ | refine blk_alloc ?_ _)); exact BK331.out) hb); have n3_ := Aside0.mk (below_step (by repeat (first | (with_reducible first | exact HB.out | apply below_alloc | apply pw_below_drewN | apply below_drew1 | refine below_set ?_ GE331.out) | exact HB.out)) hb); clear HO_0; clear BK331; clear HB; have HO_0 := n0_; have HO336 := n1_; have BK331 := n2_; have HB := n3_; clear n0_ n1_ n2_ n3_; (try clear hb); (try clear hb2); (try clear hk); (try clear hi); (try clear ho0)) | ((with_reducible refine gate_callee (f := 23) rfl ?_); refine goesL_ (some 64) rfl rfl Try.func23 (by kernel_rfl) rfl #[.slice Ao22 x0_2.length co22] rfl (by (try simp only [List.map_toArray, List.map_cons, List.map_nil]); first | done | rfl | (simp only [List.length_drop, List.length_take]; rfl)) ?_; (with_reducible refine (estoversref32_Alloc.calls k2 _ _ x0_2 t337 t338 t339 _ ?side1 ?side2 A21.out).mono ?_); (case side1 => repeat (first | exact (Kd.V_reads' HO_0.out).2.2 | (with_reducible refine Kd.C_alloc ?_ _) | (with_reducible refine Kd.C_drewN ?_ _) | (with_reducible refine Kd.C_drew ?_))); (case side2 => exact (Kd.V_reads' HO_0.out).2.1); rintro e w24 ⟨v340, rfl, ho0, hb⟩; refine ⟨_, rfl, ?_⟩; have n0_ := Aside0.mk (Kd.V_elder' (by (with_reducible repeat (first | apply Kd.V_alloc | apply Kd.V_drewN | apply Kd.V_drew)); exact HO_0.out) (Kd.R_base ho0) hb); have n1_ := Aside0.mk (Kd.R_elder' (by (with_reducible repeat (first | apply Kd.R_alloc | apply Kd.R_drewN | apply Kd.R_drew)); exact HO336.out) (Kd.R_base ho0) hb); have n2_ := Aside0.mk (Kd.R_lower (Kd.R_new' (Kd.R_newM (M := fun k_ => (w.heap.size ≤ k_)) ho0 (below_size (by repeat (first | (with_reducible first | exact HB.out | apply below_alloc | apply pw_below_drewN | apply below_drew1 | refine below_set ?_ GE331.out) | exact HB.out))) (fun k_ h_ => h_)) (Kd.R_lt (by (with_reducible repeat (first | apply Kd.R_alloc | apply Kd.R_drewN | apply Kd.R_drew)); exact HO336.out))) (below_size (by repeat (first | (with_reducible first | exact HB.out | apply below_alloc | apply pw_below_drewN | apply below_drew1 | refine below_set ?_ GE331.out) | exact HB.out)))); have n3_ := Aside0.mk (blk_below (g := gb331) (o := .cells #[.int .i64 ((rd_T34 l1 x30_2).f0), .int .i64 ((rd_T34 l1 x30_2).f1), .int .i64 ((rd_T34 l1 x30_2).f2)] 34 (0, 0)) (by (with_reducible repeat (first | refine blk_drewN ?_ _ | refine blk_drew ?_ | refine blk_alloc ?_ _)); exact BK331.out) hb); have n4_ := Aside0.mk (below_step (by repeat (first | (with_reducible first | exact HB.out | apply below_alloc | apply pw_below_drewN | apply below_drew1 | refine below_set ?_ GE331.out) | exact HB.out)) hb); clear HO_0; clear HO336; clear BK331; clear HB; have HO_0 := n0_; have HO336 := n1_; have HO341 := n2_; have BK331 := n3_; have HB := n4_; clear n0_ n1_ n2_ n3_ n4_; (try clear hb); (try clear hb2); (try clear hk); (try clear hi); (try clear ho0)))
                      go_meet
                      case rel => exact ⟨_, (t332), (t337), (t333), (t338), (t334), (t339), (false), (false), (by first | rfl | (simp; done) | (simp [*]; done)), (by first | rfl | (simp; done) | (simp [*]; done)), (by first | rfl | (simp; done) | (simp [*]; done)), (by first | rfl | (simp; done) | (simp [*]; done)), (by first | rfl | (simp; done) | (simp [*]; done)), (by first | rfl | (simp; done) | (simp [*]; done)), H', ⟨by have := HJ2.out; have := HK2.out; first | omega | exact Nat.le_refl _⟩, ⟨by (with_reducible repeat (first | apply Kd.V_alloc | apply Kd.V_drewN | apply Kd.V_drew)); exact Kd.V_mono HO_0.out (fun _ hk => ⟨hk.1.1.1, ⟨hk.1.2, ⟨hk.2, hk.1.1.2⟩⟩⟩)⟩, ⟨by (with_reducible repeat (first | apply Kd.R_alloc | apply Kd.R_drewN | apply Kd.R_drew)); exact Kd.R_mono HO336.out (fun _ hk => ⟨hk.1.1, hk.2⟩)⟩, ⟨by (with_reducible repeat (first | apply Kd.R_alloc | apply Kd.R_drewN | apply Kd.R_drew)); exact Kd.R_mono HO341.out (fun _ hk => ⟨hk.1.1, hk.2⟩)⟩, ⟨by (with_reducible repeat (first | refine blk_drewN ?_ _ | refine blk_drew ?_ | refine blk_alloc ?_ _)); exact BK331.out⟩, ⟨by repeat (first | (with_reducible first | exact HB.out | apply below_alloc | apply pw_below_drewN | apply below_drew1 | refine below_set ?_ GE331.out) | exact HB.out)⟩⟩
                    · rw [if_neg c19] at H
                      have c19b0 : (((rd_T34 l1 x30_2).f0) == 0) = false := beq_eq_false_iff_ne.mpr c19
                      have c19b1 : (((rd_T34 l1 x30_2).f0) != 0) = true := bne_iff_ne.mpr c19
                      (first | rw [c19b0] | (simp only [i64_w, i32_w]; rw [c19b0]) | skip)
                      by_cases c25 : ((rd_T34 l1 x30_2).f0) = 1
                      · rw [if_pos c25] at H
                        have c25b0 : (((rd_T34 l1 x30_2).f0) == 1) = true := beq_iff_eq.mpr c25
                        have c25b1 : (((rd_T34 l1 x30_2).f0) != 1) = false := bne_eq_false_iff_eq.mpr c25
                        clear c25
                        replace H := Option.bind_eq_some_iff.mp H
                        obtain ⟨⟨t342, t343⟩, A260, H⟩ := H
                        replace H : ((estoversref32_Dup.f k2 x0_2 ((rd_T34 l1 x30_2).f1)).bind fun bt346 => (estoverslaw32_SlotsSteps.j3 k2 x0_2 t342 bt346.1 0 0 t343 bt346.2 false false l1 (l1.length : Int) x30_2)) = some r := H
                        have A26 := Aside0.mk A260
                        clear A260
                        replace H := Option.bind_eq_some_iff.mp H
                        obtain ⟨⟨t346, t347⟩, A270, H⟩ := H
                        replace H : (estoverslaw32_SlotsSteps.j3 k2 x0_2 t342 t346 0 0 t343 t347 false false l1 (l1.length : Int) x30_2) = some r := H
                        have A27 := Aside0.mk A270
                        clear A270
                        have H' := Aside0.mk H
                        clear H
                        have hcz28_0 : w17.cell? ⟨gb331, 0, none⟩ = some (.int .i64 0) := (blk_cell BK331.out 0).trans rfl
                        have hcz28_1 : w17.cell? ⟨gb331, 1, none⟩ = some (.int .i64 0) := (blk_cell BK331.out 1).trans rfl
                        have hcz28_2 : w17.cell? ⟨gb331, 2, none⟩ = some (.int .i64 0) := (blk_cell BK331.out 2).trans rfl
                        have hfz28_0 := blk_frozen BK331.out 0
                        have hfz28_1 := blk_frozen BK331.out 1
                        have hfz28_2 := blk_frozen BK331.out 2
                        obtain ⟨Ao29, co29, eo29⟩ := Kd.V_slice HO_0.out
                        subst eo29
                        go_wp2_with (first | ((with_reducible refine gate_callee (f := 20) rfl ?_); refine goesL_ (some 74) rfl rfl Try.func20 (by kernel_rfl) rfl #[.slice Ao29 x0_2.length co29, .int .i64 ((rd_T34 l1 x30_2).f1)] rfl (by (try simp only [List.map_toArray, List.map_cons, List.map_nil]); first | done | rfl | (simp only [List.length_drop, List.length_take]; rfl)) ?_; (with_reducible refine (slots_Dup.calls _ _ x0_2 ((rd_T34 l1 x30_2).f1) t342 t343 _ ?side1 ?side2 A26.out).mono ?_); (case side1 => refine (Kd.V_reads' (e := 41) (base := w.heap.size) (ok := fun k_ => ((P0_ k_ ∨ w.heap.size ≤ k_) ∧ k_ ≠ gb331)) (n := x0_2.length) (c := co29) ?_).2.2; exact (by (with_reducible repeat (first | apply Kd.V_alloc | apply Kd.V_drewN | apply Kd.V_drew)); exact (Kd.V_mono (Kd.V_far (p := ⟨gb331, 2, none⟩) (Kd.V_far (p := ⟨gb331, 1, none⟩) (Kd.V_far (p := ⟨gb331, 0, none⟩) (Kd.V_mono HO_0.out (fun k_ hk => (⟨hk, hk.2⟩ : _ ∧ k_ ≠ gb331))) (fun _ hk => hk.2) (.int .i64 ((rd_T34 l1 x30_2).f0))) (fun _ hk => hk.2) (.int .i64 ((rd_T34 l1 x30_2).f1))) (fun _ hk => hk.2) (.int .i64 ((rd_T34 l1 x30_2).f2))) (fun _ h_ => h_.1)))); (case side2 => exact (Kd.V_reads' HO_0.out).2.1); rintro e w30 ⟨v344, rfl, ho0, hb⟩; refine ⟨_, rfl, ?_⟩; have n0_ := Aside0.mk (Kd.V_elder' (by (with_reducible repeat (first | apply Kd.V_alloc | apply Kd.V_drewN | apply Kd.V_drew)); exact (Kd.V_mono (Kd.V_far (p := ⟨gb331, 2, none⟩) (Kd.V_far (p := ⟨gb331, 1, none⟩) (Kd.V_far (p := ⟨gb331, 0, none⟩) (Kd.V_mono HO_0.out (fun k_ hk => (⟨hk, hk.2⟩ : _ ∧ k_ ≠ gb331))) (fun _ hk => hk.2) (.int .i64 ((rd_T34 l1 x30_2).f0))) (fun _ hk => hk.2) (.int .i64 ((rd_T34 l1 x30_2).f1))) (fun _ hk => hk.2) (.int .i64 ((rd_T34 l1 x30_2).f2))) (fun _ h_ => h_.1))) (Kd.R_base ho0) hb); have n1_ := Aside0.mk (Kd.R_lower (Kd.R_newM (M := fun k_ => (w.heap.size ≤ k_)) ho0 (below_size (by repeat (first | (with_reducible first | exact HB.out | apply below_alloc | apply pw_below_drewN | apply below_drew1 | refine below_set ?_ GE331.out) | exact HB.out))) (fun k_ h_ => h_)) (below_size (by repeat (first | (with_reducible first | exact HB.out | apply below_alloc | apply pw_below_drewN | apply below_drew1 | refine below_set ?_ GE331.out) | exact HB.out)))); have n2_ := Aside0.mk (blk_below (g := gb331) (o := .cells #[.int .i64 ((rd_T34 l1 x30_2).f0), .int .i64 ((rd_T34 l1 x30_2).f1), .int .i64 ((rd_T34 l1 x30_2).f2)] 34 (0, 0)) (by (with_reducible repeat (first | refine blk_drewN ?_ _ | refine blk_drew ?_ | refine blk_alloc ?_ _)); refine blk_put (cs := #[.int .i64 ((rd_T34 l1 x30_2).f0), .int .i64 ((rd_T34 l1 x30_2).f1), .int .i64 0]) ?_ 2 _ rfl; (with_reducible repeat (first | refine blk_drewN ?_ _ | refine blk_drew ?_ | refine blk_alloc ?_ _)); refine blk_put (cs := #[.int .i64 ((rd_T34 l1 x30_2).f0), .int .i64 0, .int .i64 0]) ?_ 1 _ rfl; (with_reducible repeat (first | refine blk_drewN ?_ _ | refine blk_drew ?_ | refine blk_alloc ?_ _)); refine blk_put (cs := #[.int .i64 0, .int .i64 0, .int .i64 0]) ?_ 0 _ rfl; (with_reducible repeat (first | refine blk_drewN ?_ _ | refine blk_drew ?_ | refine blk_alloc ?_ _)); exact BK331.out) hb); have n3_ := Aside0.mk (below_step (by repeat (first | (with_reducible first | exact HB.out | apply below_alloc | apply pw_below_drewN | apply below_drew1 | refine below_set ?_ GE331.out) | exact HB.out)) hb); clear HO_0; clear BK331; clear HB; have HO_0 := n0_; have HO345 := n1_; have BK331 := n2_; have HB := n3_; clear n0_ n1_ n2_ n3_; (try clear hb); (try clear hb2); (try clear hk); (try clear hi); (try clear ho0); have hcz31_0 : w30.cell? ⟨gb331, 0, none⟩ = some (.int .i64 ((rd_T34 l1 x30_2).f0)) := (blk_cell BK331.out 0).trans rfl; have hcz31_1 : w30.cell? ⟨gb331, 1, none⟩ = some (.int .i64 ((rd_T34 l1 x30_2).f1)) := (blk_cell BK331.out 1).trans rfl; have hcz31_2 : w30.cell? ⟨gb331, 2, none⟩ = some (.int .i64 ((rd_T34 l1 x30_2).f2)) := (blk_cell BK331.out 2).trans rfl; have hfz31_0 := blk_frozen BK331.out 0; have hfz31_1 := blk_frozen BK331.out 1; have hfz31_2 := blk_frozen BK331.out 2) | ((with_reducible refine gate_callee (f := 24) rfl ?_); refine goesL_ (some 81) rfl rfl Try.func24 (by kernel_rfl) rfl #[.slice Ao29 x0_2.length co29, .int .i64 ((rd_T34 l1 x30_2).f1)] rfl (by (try simp only [List.map_toArray, List.map_cons, List.map_nil]); first | done | rfl | (simp only [List.length_drop, List.length_take]; rfl)) ?_; (with_reducible refine (estoversref32_Dup.calls k2 _ _ x0_2 ((rd_T34 l1 x30_2).f1) t346 t347 _ ?side1 ?side2 A27.out).mono ?_); (case side1 => repeat (first | exact (Kd.V_reads' HO_0.out).2.2 | (with_reducible refine Kd.C_alloc ?_ _) | (with_reducible refine Kd.C_drewN ?_ _) | (with_reducible refine Kd.C_drew ?_))); (case side2 => exact (Kd.V_reads' HO_0.out).2.1); rintro e w32 ⟨v348, rfl, ho0, hb⟩; refine ⟨_, rfl, ?_⟩; have n0_ := Aside0.mk (Kd.V_elder' (by (with_reducible repeat (first | apply Kd.V_alloc | apply Kd.V_drewN | apply Kd.V_drew)); exact HO_0.out) (Kd.R_base ho0) hb); have n1_ := Aside0.mk (Kd.R_elder' (by (with_reducible repeat (first | apply Kd.R_alloc | apply Kd.R_drewN | apply Kd.R_drew)); exact HO345.out) (Kd.R_base ho0) hb); have n2_ := Aside0.mk (Kd.R_lower (Kd.R_new' (Kd.R_newM (M := fun k_ => (w.heap.size ≤ k_)) ho0 (below_size (by repeat (first | (with_reducible first | exact HB.out | apply below_alloc | apply pw_below_drewN | apply below_drew1 | refine below_set ?_ GE331.out) | exact HB.out))) (fun k_ h_ => h_)) (Kd.R_lt (by (with_reducible repeat (first | apply Kd.R_alloc | apply Kd.R_drewN | apply Kd.R_drew)); exact HO345.out))) (below_size (by repeat (first | (with_reducible first | exact HB.out | apply below_alloc | apply pw_below_drewN | apply below_drew1 | refine below_set ?_ GE331.out) | exact HB.out)))); have n3_ := Aside0.mk (blk_below (g := gb331) (o := .cells #[.int .i64 ((rd_T34 l1 x30_2).f0), .int .i64 ((rd_T34 l1 x30_2).f1), .int .i64 ((rd_T34 l1 x30_2).f2)] 34 (0, 0)) (by (with_reducible repeat (first | refine blk_drewN ?_ _ | refine blk_drew ?_ | refine blk_alloc ?_ _)); exact BK331.out) hb); have n4_ := Aside0.mk (below_step (by repeat (first | (with_reducible first | exact HB.out | apply below_alloc | apply pw_below_drewN | apply below_drew1 | refine below_set ?_ GE331.out) | exact HB.out)) hb); clear HO_0; clear HO345; clear BK331; clear HB; have HO_0 := n0_; have HO345 := n1_; have HO349 := n2_; have BK331 := n3_; have HB := n4_; clear n0_ n1_ n2_ n3_ n4_; (try clear hb); (try clear hb2); (try clear hk); (try clear hi); (try clear ho0)))
                        go_meet
                        case rel => exact ⟨_, (t342), (t346), (0), (0), (t343), (t347), (false), (false), (by first | rfl | (simp; done) | (simp [*]; done)), (by first | rfl | (simp; done) | (simp [*]; done)), (by first | rfl | (simp; done) | (simp [*]; done)), (by first | rfl | (simp; done) | (simp [*]; done)), (by first | rfl | (simp; done) | (simp [*]; done)), (by first | rfl | (simp; done) | (simp [*]; done)), H', ⟨by have := HJ2.out; have := HK2.out; first | omega | exact Nat.le_refl _⟩, ⟨by (with_reducible repeat (first | apply Kd.V_alloc | apply Kd.V_drewN | apply Kd.V_drew)); exact Kd.V_mono HO_0.out (fun _ hk => ⟨hk.1.1.1, ⟨hk.1.2, ⟨hk.2, hk.1.1.2⟩⟩⟩)⟩, ⟨by (with_reducible repeat (first | apply Kd.R_alloc | apply Kd.R_drewN | apply Kd.R_drew)); exact Kd.R_mono HO345.out (fun _ hk => ⟨hk.1.1, hk.2⟩)⟩, ⟨by (with_reducible repeat (first | apply Kd.R_alloc | apply Kd.R_drewN | apply Kd.R_drew)); exact Kd.R_mono HO349.out (fun _ hk => ⟨hk.1.1, hk.2⟩)⟩, ⟨by (with_reducible repeat (first | refine blk_drewN ?_ _ | refine blk_drew ?_ | refine blk_alloc ?_ _)); exact BK331.out⟩, ⟨by repeat (first | (with_reducible first | exact HB.out | apply below_alloc | apply pw_below_drewN | apply below_drew1 | refine below_set ?_ GE331.out) | exact HB.out)⟩⟩
                      · rw [if_neg c25] at H
                        have c25b0 : (((rd_T34 l1 x30_2).f0) == 1) = false := beq_eq_false_iff_ne.mpr c25
                        have c25b1 : (((rd_T34 l1 x30_2).f0) != 1) = true := bne_iff_ne.mpr c25
                        have HC33 := Aside0.mk H
                        clear H
                        go_upto_if 84 with (fail)
                        go_cut [84] (fun v84 wc => ∃ (kq : Nat) (x84_32 : Bool), v84 = .bool x84_32 ∧ Aside0 (estoverslaw32_SlotsSteps.j2 kq x0_2 0 0 false false l1 (l1.length : Int) x30_2 ((rd_T34 l1 x30_2).f0) x84_32 ((rd_T34 l1 x30_2).f0) ((rd_T34 l1 x30_2).f1) ((rd_T34 l1 x30_2).f2) = some r) ∧ Aside0 (kq ≤ k2) ∧ Aside0 (Kd.V k41 41 wc w.heap.size (fun k_ => (P0_ k_ ∨ w.heap.size ≤ k_) ∧ k_ ≠ gb331) u0 x0_2) ∧ Aside0 (wc.heap[gb331]? = some (.cells #[.int .i64 ((rd_T34 l1 x30_2).f0), .int .i64 ((rd_T34 l1 x30_2).f1), .int .i64 ((rd_T34 l1 x30_2).f2)] 34 (0, 0))) ∧ Aside0 (Below w.heap.size w wc))
                        case first =>
                          have H := HC33.out
                          clear HC33
                          by_cases c34 : ((rd_T34 l1 x30_2).f0) = 2
                          · rw [if_pos c34] at H
                            have c34b0 : (((rd_T34 l1 x30_2).f0) == 2) = true := beq_iff_eq.mpr c34
                            have c34b1 : (((rd_T34 l1 x30_2).f0) != 2) = false := bne_eq_false_iff_eq.mpr c34
                            clear c34
                            (first | rw [c34b0] | (simp only [i64_w, i32_w]; rw [c34b0]) | skip)
                            have H' := Aside0.mk H
                            clear H
                            go_wp2
                            go_meet
                            case rel => exact ⟨_, ((((rd_T34 l1 x30_2).f0) == 2)), (by first | rfl | (simp; done) | (simp [*]; done)), H', ⟨by have := HJ2.out; have := HK2.out; first | omega | exact Nat.le_refl _⟩, ⟨by (with_reducible repeat (first | apply Kd.V_alloc | apply Kd.V_drewN | apply Kd.V_drew)); exact Kd.V_mono (Kd.V_far (p := ⟨gb331, 2, none⟩) (Kd.V_far (p := ⟨gb331, 1, none⟩) (Kd.V_far (p := ⟨gb331, 0, none⟩) (Kd.V_mono HO_0.out (fun k_ hk => (⟨hk, hk.2⟩ : _ ∧ k_ ≠ gb331))) (fun _ hk => hk.2) (.int .i64 ((rd_T34 l1 x30_2).f0))) (fun _ hk => hk.2) (.int .i64 ((rd_T34 l1 x30_2).f1))) (fun _ hk => hk.2) (.int .i64 ((rd_T34 l1 x30_2).f2))) (fun _ hk => ⟨hk.1.1, hk.1.2⟩)⟩, ⟨by (with_reducible repeat (first | refine blk_drewN ?_ _ | refine blk_drew ?_ | refine blk_alloc ?_ _)); refine blk_put (cs := #[.int .i64 ((rd_T34 l1 x30_2).f0), .int .i64 ((rd_T34 l1 x30_2).f1), .int .i64 0]) ?_ 2 _ rfl; (with_reducible repeat (first | refine blk_drewN ?_ _ | refine blk_drew ?_ | refine blk_alloc ?_ _)); refine blk_put (cs := #[.int .i64 ((rd_T34 l1 x30_2).f0), .int .i64 0, .int .i64 0]) ?_ 1 _ rfl; (with_reducible repeat (first | refine blk_drewN ?_ _ | refine blk_drew ?_ | refine blk_alloc ?_ _)); refine blk_put (cs := #[.int .i64 0, .int .i64 0, .int .i64 0]) ?_ 0 _ rfl; (with_reducible repeat (first | refine blk_drewN ?_ _ | refine blk_drew ?_ | refine blk_alloc ?_ _)); exact BK331.out⟩, ⟨by repeat (first | (with_reducible first | exact HB.out | apply below_alloc | apply pw_below_drewN | apply below_drew1 | refine below_set ?_ GE331.out) | exact HB.out)⟩⟩
                          · rw [if_neg c34] at H
                            have c34b0 : (((rd_T34 l1 x30_2).f0) == 2) = false := beq_eq_false_iff_ne.mpr c34
                            have c34b1 : (((rd_T34 l1 x30_2).f0) != 2) = true := bne_iff_ne.mpr c34
                            (first | rw [c34b0] | (simp only [i64_w, i32_w]; rw [c34b0]) | skip)
                            have H' := Aside0.mk H
                            clear H
                            go_wp2
                            go_meet
                            case rel => exact ⟨_, ((((rd_T34 l1 x30_2).f0) == 3)), (by first | rfl | (simp; done) | (simp [*]; done)), H', ⟨by have := HJ2.out; have := HK2.out; first | omega | exact Nat.le_refl _⟩, ⟨by (with_reducible repeat (first | apply Kd.V_alloc | apply Kd.V_drewN | apply Kd.V_drew)); exact Kd.V_mono (Kd.V_far (p := ⟨gb331, 2, none⟩) (Kd.V_far (p := ⟨gb331, 1, none⟩) (Kd.V_far (p := ⟨gb331, 0, none⟩) (Kd.V_mono HO_0.out (fun k_ hk => (⟨hk, hk.2⟩ : _ ∧ k_ ≠ gb331))) (fun _ hk => hk.2) (.int .i64 ((rd_T34 l1 x30_2).f0))) (fun _ hk => hk.2) (.int .i64 ((rd_T34 l1 x30_2).f1))) (fun _ hk => hk.2) (.int .i64 ((rd_T34 l1 x30_2).f2))) (fun _ hk => ⟨hk.1.1, hk.1.2⟩)⟩, ⟨by (with_reducible repeat (first | refine blk_drewN ?_ _ | refine blk_drew ?_ | refine blk_alloc ?_ _)); refine blk_put (cs := #[.int .i64 ((rd_T34 l1 x30_2).f0), .int .i64 ((rd_T34 l1 x30_2).f1), .int .i64 0]) ?_ 2 _ rfl; (with_reducible repeat (first | refine blk_drewN ?_ _ | refine blk_drew ?_ | refine blk_alloc ?_ _)); refine blk_put (cs := #[.int .i64 ((rd_T34 l1 x30_2).f0), .int .i64 0, .int .i64 0]) ?_ 1 _ rfl; (with_reducible repeat (first | refine blk_drewN ?_ _ | refine blk_drew ?_ | refine blk_alloc ?_ _)); refine blk_put (cs := #[.int .i64 0, .int .i64 0, .int .i64 0]) ?_ 0 _ rfl; (with_reducible repeat (first | refine blk_drewN ?_ _ | refine blk_drew ?_ | refine blk_alloc ?_ _)); exact BK331.out⟩, ⟨by repeat (first | (with_reducible first | exact HB.out | apply below_alloc | apply pw_below_drewN | apply below_drew1 | refine below_set ?_ GE331.out) | exact HB.out)⟩⟩
                        case rest =>
                          clear HC33
                          try clear c1
                          try clear c2
                          try clear p2
                          try clear c3
                          try clear p3
                          try clear q3
                          try clear hx3
                          try clear c5
                          try clear c6
                          try clear c6b0
                          try clear c6b1
                          try clear c7
                          try clear c9
                          try clear c10
                          try clear c13
                          try clear c13b0
                          try clear c14
                          try clear c14b0
                          try clear c15
                          try clear c15b0
                          try clear c19
                          try clear c19b0
                          try clear c19b1
                          try clear c20
                          try clear c23
                          try clear c24
                          try clear c25
                          try clear c25b0
                          try clear c25b1
                          try clear p33
                          try clear q33
                          try clear hx33
                          try clear c34
                          try clear c34b0
                          try clear c34b1
                          try clear hcz18_0
                          try clear hcz18_1
                          try clear hcz18_2
                          try clear hcz28_0
                          try clear hcz28_1
                          try clear hcz28_2
                          try clear hcz31_0
                          try clear hcz31_1
                          try clear hcz31_2
                          try clear hfz18_0
                          try clear hfz18_1
                          try clear hfz18_2
                          try clear hfz28_0
                          try clear hfz28_1
                          try clear hfz28_2
                          try clear hfz31_0
                          try clear hfz31_1
                          try clear hfz31_2
                          try clear hx330_0
                          try clear hx330_1
                          try clear hx330_2
                          try clear p2
                          try clear p330
                          try clear q330
                          obtain ⟨kq, x84_32, rfl, HA, HJ32, HO_0, BK331, HB⟩ := hcut
                          cases kq with
                          | zero => exact absurd HA.out (by simp [estoverslaw32_SlotsSteps.j2])
                          | succ kj32 =>
                            have H := HA.out
                            clear HA
                            simp only [estoverslaw32_SlotsSteps.j2] at H
                            by_cases c35 : x84_32 = true
                            · subst c35
                              have H1 : ((slots_Drop.f x0_2 ((rd_T34 l1 x30_2).f1) (((rd_T34 l1 x30_2).f0) == 3)).bind fun bt350 => ((estoversref32_Drop.f kj32 x0_2 ((rd_T34 l1 x30_2).f1) (((rd_T34 l1 x30_2).f0) == 3)).bind fun bt355 => (estoverslaw32_SlotsSteps.j3 kj32 x0_2 bt350.1 bt355.1 0 0 bt350.2.2 bt355.2.2 bt350.2.1 bt355.2.1 l1 (l1.length : Int) x30_2))) = some r := by rw [if_pos rfl] at H; exact H
                              clear H
                              have H := H1
                              clear H1
                              replace H := Option.bind_eq_some_iff.mp H
                              obtain ⟨⟨t350, t351, t352⟩, A360, H⟩ := H
                              replace H : ((estoversref32_Drop.f kj32 x0_2 ((rd_T34 l1 x30_2).f1) (((rd_T34 l1 x30_2).f0) == 3)).bind fun bt355 => (estoverslaw32_SlotsSteps.j3 kj32 x0_2 t350 bt355.1 0 0 t352 bt355.2.2 t351 bt355.2.1 l1 (l1.length : Int) x30_2)) = some r := H
                              have A36 := Aside0.mk A360
                              clear A360
                              replace H := Option.bind_eq_some_iff.mp H
                              obtain ⟨⟨t355, t356, t357⟩, A370, H⟩ := H
                              replace H : (estoverslaw32_SlotsSteps.j3 kj32 x0_2 t350 t355 0 0 t352 t357 t351 t356 l1 (l1.length : Int) x30_2) = some r := H
                              have A37 := Aside0.mk A370
                              clear A370
                              have H' := Aside0.mk H
                              clear H
                              have hcz38_0 : wc.cell? ⟨gb331, 0, none⟩ = some (.int .i64 ((rd_T34 l1 x30_2).f0)) := (blk_cell BK331.out 0).trans rfl
                              have hcz38_1 : wc.cell? ⟨gb331, 1, none⟩ = some (.int .i64 ((rd_T34 l1 x30_2).f1)) := (blk_cell BK331.out 1).trans rfl
                              have hcz38_2 : wc.cell? ⟨gb331, 2, none⟩ = some (.int .i64 ((rd_T34 l1 x30_2).f2)) := (blk_cell BK331.out 2).trans rfl
                              have hfz38_0 := blk_frozen BK331.out 0
                              have hfz38_1 := blk_frozen BK331.out 1
                              have hfz38_2 := blk_frozen BK331.out 2
                              obtain ⟨Ao39, co39, eo39⟩ := Kd.V_slice HO_0.out
                              subst eo39
                              go_wp2_with (first | ((with_reducible refine gate_callee (f := 21) rfl ?_); refine goesL_ (some 94) rfl rfl Try.func21 (by kernel_rfl) rfl #[.slice Ao39 x0_2.length co39, .int .i64 ((rd_T34 l1 x30_2).f1), .bool (((rd_T34 l1 x30_2).f0) == 3)] rfl (by (try simp only [List.map_toArray, List.map_cons, List.map_nil]); first | done | rfl | (simp only [List.length_drop, List.length_take]; rfl)) ?_; (with_reducible refine (slots_Drop.calls _ _ x0_2 ((rd_T34 l1 x30_2).f1) (((rd_T34 l1 x30_2).f0) == 3) t350 t351 t352 _ ?side1 ?side2 A36.out).mono ?_); (case side1 => repeat (first | exact (Kd.V_reads' HO_0.out).2.2 | (with_reducible refine Kd.C_alloc ?_ _) | (with_reducible refine Kd.C_drewN ?_ _) | (with_reducible refine Kd.C_drew ?_))); (case side2 => exact (Kd.V_reads' HO_0.out).2.1); rintro e w40 ⟨v353, rfl, ho0, hb⟩; refine ⟨_, rfl, ?_⟩; have n0_ := Aside0.mk (Kd.V_elder' (by (with_reducible repeat (first | apply Kd.V_alloc | apply Kd.V_drewN | apply Kd.V_drew)); exact HO_0.out) (Kd.R_base ho0) hb); have n1_ := Aside0.mk (Kd.R_lower (Kd.R_newM (M := fun k_ => (w.heap.size ≤ k_)) ho0 (below_size (by repeat (first | (with_reducible first | exact HB.out | apply below_alloc | apply pw_below_drewN | apply below_drew1 | refine below_set ?_ GE331.out) | exact HB.out))) (fun k_ h_ => h_)) (below_size (by repeat (first | (with_reducible first | exact HB.out | apply below_alloc | apply pw_below_drewN | apply below_drew1 | refine below_set ?_ GE331.out) | exact HB.out)))); have n2_ := Aside0.mk (blk_below (g := gb331) (o := .cells #[.int .i64 ((rd_T34 l1 x30_2).f0), .int .i64 ((rd_T34 l1 x30_2).f1), .int .i64 ((rd_T34 l1 x30_2).f2)] 34 (0, 0)) (by (with_reducible repeat (first | refine blk_drewN ?_ _ | refine blk_drew ?_ | refine blk_alloc ?_ _)); exact BK331.out) hb); have n3_ := Aside0.mk (below_step (by repeat (first | (with_reducible first | exact HB.out | apply below_alloc | apply pw_below_drewN | apply below_drew1 | refine below_set ?_ GE331.out) | exact HB.out)) hb); clear HO_0; clear BK331; clear HB; have HO_0 := n0_; have HO354 := n1_; have BK331 := n2_; have HB := n3_; clear n0_ n1_ n2_ n3_; (try clear hb); (try clear hb2); (try clear hk); (try clear hi); (try clear ho0); have hcz41_0 : w40.cell? ⟨gb331, 0, none⟩ = some (.int .i64 ((rd_T34 l1 x30_2).f0)) := (blk_cell BK331.out 0).trans rfl; have hcz41_1 : w40.cell? ⟨gb331, 1, none⟩ = some (.int .i64 ((rd_T34 l1 x30_2).f1)) := (blk_cell BK331.out 1).trans rfl; have hcz41_2 : w40.cell? ⟨gb331, 2, none⟩ = some (.int .i64 ((rd_T34 l1 x30_2).f2)) := (blk_cell BK331.out 2).trans rfl; have hfz41_0 := blk_frozen BK331.out 0; have hfz41_1 := blk_frozen BK331.out 1; have hfz41_2 := blk_frozen BK331.out 2) | ((with_reducible refine gate_callee (f := 25) rfl ?_); refine goesL_ (some 105) rfl rfl Try.func25 (by kernel_rfl) rfl #[.slice Ao39 x0_2.length co39, .int .i64 ((rd_T34 l1 x30_2).f1), .bool (((rd_T34 l1 x30_2).f0) == 3)] rfl (by (try simp only [List.map_toArray, List.map_cons, List.map_nil]); first | done | rfl | (simp only [List.length_drop, List.length_take]; rfl)) ?_; (with_reducible refine (estoversref32_Drop.calls kj32 _ _ x0_2 ((rd_T34 l1 x30_2).f1) (((rd_T34 l1 x30_2).f0) == 3) t355 t356 t357 _ ?side1 ?side2 A37.out).mono ?_); (case side1 => repeat (first | exact (Kd.V_reads' HO_0.out).2.2 | (with_reducible refine Kd.C_alloc ?_ _) | (with_reducible refine Kd.C_drewN ?_ _) | (with_reducible refine Kd.C_drew ?_))); (case side2 => exact (Kd.V_reads' HO_0.out).2.1); rintro e w42 ⟨v358, rfl, ho0, hb⟩; refine ⟨_, rfl, ?_⟩; have n0_ := Aside0.mk (Kd.V_elder' (by (with_reducible repeat (first | apply Kd.V_alloc | apply Kd.V_drewN | apply Kd.V_drew)); exact HO_0.out) (Kd.R_base ho0) hb); have n1_ := Aside0.mk (Kd.R_elder' (by (with_reducible repeat (first | apply Kd.R_alloc | apply Kd.R_drewN | apply Kd.R_drew)); exact HO354.out) (Kd.R_base ho0) hb); have n2_ := Aside0.mk (Kd.R_lower (Kd.R_new' (Kd.R_newM (M := fun k_ => (w.heap.size ≤ k_)) ho0 (below_size (by repeat (first | (with_reducible first | exact HB.out | apply below_alloc | apply pw_below_drewN | apply below_drew1 | refine below_set ?_ GE331.out) | exact HB.out))) (fun k_ h_ => h_)) (Kd.R_lt (by (with_reducible repeat (first | apply Kd.R_alloc | apply Kd.R_drewN | apply Kd.R_drew)); exact HO354.out))) (below_size (by repeat (first | (with_reducible first | exact HB.out | apply below_alloc | apply pw_below_drewN | apply below_drew1 | refine below_set ?_ GE331.out) | exact HB.out)))); have n3_ := Aside0.mk (blk_below (g := gb331) (o := .cells #[.int .i64 ((rd_T34 l1 x30_2).f0), .int .i64 ((rd_T34 l1 x30_2).f1), .int .i64 ((rd_T34 l1 x30_2).f2)] 34 (0, 0)) (by (with_reducible repeat (first | refine blk_drewN ?_ _ | refine blk_drew ?_ | refine blk_alloc ?_ _)); exact BK331.out) hb); have n4_ := Aside0.mk (below_step (by repeat (first | (with_reducible first | exact HB.out | apply below_alloc | apply pw_below_drewN | apply below_drew1 | refine below_set ?_ GE331.out) | exact HB.out)) hb); clear HO_0; clear HO354; clear BK331; clear HB; have HO_0 := n0_; have HO354 := n1_; have HO359 := n2_; have BK331 := n3_; have HB := n4_; clear n0_ n1_ n2_ n3_ n4_; (try clear hb); (try clear hb2); (try clear hk); (try clear hi); (try clear ho0)))
                              go_meet
                              case rel => exact ⟨_, (t350), (t355), (0), (0), (t352), (t357), (t351), (t356), (by first | rfl | (simp; done) | (simp [*]; done)), (by first | rfl | (simp; done) | (simp [*]; done)), (by first | rfl | (simp; done) | (simp [*]; done)), (by first | rfl | (simp; done) | (simp [*]; done)), (by first | rfl | (simp; done) | (simp [*]; done)), (by first | rfl | (simp; done) | (simp [*]; done)), H', ⟨by have := HJ2.out; have := HK2.out; have := HJ32.out; first | omega | exact Nat.le_refl _⟩, ⟨by (with_reducible repeat (first | apply Kd.V_alloc | apply Kd.V_drewN | apply Kd.V_drew)); exact Kd.V_mono HO_0.out (fun _ hk => ⟨hk.1.1.1, ⟨hk.1.2, ⟨hk.2, hk.1.1.2⟩⟩⟩)⟩, ⟨by (with_reducible repeat (first | apply Kd.R_alloc | apply Kd.R_drewN | apply Kd.R_drew)); exact Kd.R_mono HO354.out (fun _ hk => ⟨hk.1.1, hk.2⟩)⟩, ⟨by (with_reducible repeat (first | apply Kd.R_alloc | apply Kd.R_drewN | apply Kd.R_drew)); exact Kd.R_mono HO359.out (fun _ hk => ⟨hk.1.1, hk.2⟩)⟩, ⟨by (with_reducible repeat (first | refine blk_drewN ?_ _ | refine blk_drew ?_ | refine blk_alloc ?_ _)); exact BK331.out⟩, ⟨by repeat (first | (with_reducible first | exact HB.out | apply below_alloc | apply pw_below_drewN | apply below_drew1 | refine below_set ?_ GE331.out) | exact HB.out)⟩⟩
                            · replace c35 := Bool.eq_false_iff.mpr c35
                              subst c35
                              have H1 : (if ((rd_T34 l1 x30_2).f0) = 4 then ((slots_Release.f x0_2 ((rd_T34 l1 x30_2).f1)).bind fun bt360 => ((estoversref32_Release.f kj32 x0_2 ((rd_T34 l1 x30_2).f1)).bind fun bt364 => (estoverslaw32_SlotsSteps.j3 kj32 x0_2 bt360.1 bt364.1 0 0 bt360.2 bt364.2 false false l1 (l1.length : Int) x30_2))) else ((slots_Place.f x0_2 ((rd_T34 l1 x30_2).f1) ((rd_T34 l1 x30_2).f2)).bind fun bt368 => ((estoversref32_Place.f kj32 x0_2 ((rd_T34 l1 x30_2).f1) ((rd_T34 l1 x30_2).f2)).bind fun bt372 => (estoverslaw32_SlotsSteps.j3 kj32 x0_2 bt368.1 bt372.1 0 0 bt368.2 bt372.2 false false l1 (l1.length : Int) x30_2)))) = some r := by rw [if_neg (show ¬ (false = true) by decide)] at H; exact H
                              clear H
                              have H := H1
                              clear H1
                              by_cases c43 : ((rd_T34 l1 x30_2).f0) = 4
                              · rw [if_pos c43] at H
                                have c43b0 : (((rd_T34 l1 x30_2).f0) == 4) = true := beq_iff_eq.mpr c43
                                have c43b1 : (((rd_T34 l1 x30_2).f0) != 4) = false := bne_eq_false_iff_eq.mpr c43
                                clear c43
                                replace H := Option.bind_eq_some_iff.mp H
                                obtain ⟨⟨t360, t361⟩, A440, H⟩ := H
                                replace H : ((estoversref32_Release.f kj32 x0_2 ((rd_T34 l1 x30_2).f1)).bind fun bt364 => (estoverslaw32_SlotsSteps.j3 kj32 x0_2 t360 bt364.1 0 0 t361 bt364.2 false false l1 (l1.length : Int) x30_2)) = some r := H
                                have A44 := Aside0.mk A440
                                clear A440
                                replace H := Option.bind_eq_some_iff.mp H
                                obtain ⟨⟨t364, t365⟩, A450, H⟩ := H
                                replace H : (estoverslaw32_SlotsSteps.j3 kj32 x0_2 t360 t364 0 0 t361 t365 false false l1 (l1.length : Int) x30_2) = some r := H
                                have A45 := Aside0.mk A450
                                clear A450
                                have H' := Aside0.mk H
                                clear H
                                have hcz46_0 : wc.cell? ⟨gb331, 0, none⟩ = some (.int .i64 ((rd_T34 l1 x30_2).f0)) := (blk_cell BK331.out 0).trans rfl
                                have hcz46_1 : wc.cell? ⟨gb331, 1, none⟩ = some (.int .i64 ((rd_T34 l1 x30_2).f1)) := (blk_cell BK331.out 1).trans rfl
                                have hcz46_2 : wc.cell? ⟨gb331, 2, none⟩ = some (.int .i64 ((rd_T34 l1 x30_2).f2)) := (blk_cell BK331.out 2).trans rfl
                                have hfz46_0 := blk_frozen BK331.out 0
                                have hfz46_1 := blk_frozen BK331.out 1
                                have hfz46_2 := blk_frozen BK331.out 2
                                obtain ⟨Ao47, co47, eo47⟩ := Kd.V_slice HO_0.out
                                subst eo47
                                go_wp2_with (first | ((with_reducible refine gate_callee (f := 22) rfl ?_); refine goesL_ (some 115) rfl rfl Try.func22 (by kernel_rfl) rfl #[.slice Ao47 x0_2.length co47, .int .i64 ((rd_T34 l1 x30_2).f1)] rfl (by (try simp only [List.map_toArray, List.map_cons, List.map_nil]); first | done | rfl | (simp only [List.length_drop, List.length_take]; rfl)) ?_; (with_reducible refine (slots_Release.calls _ _ x0_2 ((rd_T34 l1 x30_2).f1) t360 t361 _ ?side1 ?side2 A44.out).mono ?_); (case side1 => repeat (first | exact (Kd.V_reads' HO_0.out).2.2 | (with_reducible refine Kd.C_alloc ?_ _) | (with_reducible refine Kd.C_drewN ?_ _) | (with_reducible refine Kd.C_drew ?_))); (case side2 => exact (Kd.V_reads' HO_0.out).2.1); rintro e w48 ⟨v362, rfl, ho0, hb⟩; refine ⟨_, rfl, ?_⟩; have n0_ := Aside0.mk (Kd.V_elder' (by (with_reducible repeat (first | apply Kd.V_alloc | apply Kd.V_drewN | apply Kd.V_drew)); exact HO_0.out) (Kd.R_base ho0) hb); have n1_ := Aside0.mk (Kd.R_lower (Kd.R_newM (M := fun k_ => (w.heap.size ≤ k_)) ho0 (below_size (by repeat (first | (with_reducible first | exact HB.out | apply below_alloc | apply pw_below_drewN | apply below_drew1 | refine below_set ?_ GE331.out) | exact HB.out))) (fun k_ h_ => h_)) (below_size (by repeat (first | (with_reducible first | exact HB.out | apply below_alloc | apply pw_below_drewN | apply below_drew1 | refine below_set ?_ GE331.out) | exact HB.out)))); have n2_ := Aside0.mk (blk_below (g := gb331) (o := .cells #[.int .i64 ((rd_T34 l1 x30_2).f0), .int .i64 ((rd_T34 l1 x30_2).f1), .int .i64 ((rd_T34 l1 x30_2).f2)] 34 (0, 0)) (by (with_reducible repeat (first | refine blk_drewN ?_ _ | refine blk_drew ?_ | refine blk_alloc ?_ _)); exact BK331.out) hb); have n3_ := Aside0.mk (below_step (by repeat (first | (with_reducible first | exact HB.out | apply below_alloc | apply pw_below_drewN | apply below_drew1 | refine below_set ?_ GE331.out) | exact HB.out)) hb); clear HO_0; clear BK331; clear HB; have HO_0 := n0_; have HO363 := n1_; have BK331 := n2_; have HB := n3_; clear n0_ n1_ n2_ n3_; (try clear hb); (try clear hb2); (try clear hk); (try clear hi); (try clear ho0); have hcz49_0 : w48.cell? ⟨gb331, 0, none⟩ = some (.int .i64 ((rd_T34 l1 x30_2).f0)) := (blk_cell BK331.out 0).trans rfl; have hcz49_1 : w48.cell? ⟨gb331, 1, none⟩ = some (.int .i64 ((rd_T34 l1 x30_2).f1)) := (blk_cell BK331.out 1).trans rfl; have hcz49_2 : w48.cell? ⟨gb331, 2, none⟩ = some (.int .i64 ((rd_T34 l1 x30_2).f2)) := (blk_cell BK331.out 2).trans rfl; have hfz49_0 := blk_frozen BK331.out 0; have hfz49_1 := blk_frozen BK331.out 1; have hfz49_2 := blk_frozen BK331.out 2) | ((with_reducible refine gate_callee (f := 26) rfl ?_); refine goesL_ (some 122) rfl rfl Try.func26 (by kernel_rfl) rfl #[.slice Ao47 x0_2.length co47, .int .i64 ((rd_T34 l1 x30_2).f1)] rfl (by (try simp only [List.map_toArray, List.map_cons, List.map_nil]); first | done | rfl | (simp only [List.length_drop, List.length_take]; rfl)) ?_; (with_reducible refine (estoversref32_Release.calls kj32 _ _ x0_2 ((rd_T34 l1 x30_2).f1) t364 t365 _ ?side1 ?side2 A45.out).mono ?_); (case side1 => repeat (first | exact (Kd.V_reads' HO_0.out).2.2 | (with_reducible refine Kd.C_alloc ?_ _) | (with_reducible refine Kd.C_drewN ?_ _) | (with_reducible refine Kd.C_drew ?_))); (case side2 => exact (Kd.V_reads' HO_0.out).2.1); rintro e w50 ⟨v366, rfl, ho0, hb⟩; refine ⟨_, rfl, ?_⟩; have n0_ := Aside0.mk (Kd.V_elder' (by (with_reducible repeat (first | apply Kd.V_alloc | apply Kd.V_drewN | apply Kd.V_drew)); exact HO_0.out) (Kd.R_base ho0) hb); have n1_ := Aside0.mk (Kd.R_elder' (by (with_reducible repeat (first | apply Kd.R_alloc | apply Kd.R_drewN | apply Kd.R_drew)); exact HO363.out) (Kd.R_base ho0) hb); have n2_ := Aside0.mk (Kd.R_lower (Kd.R_new' (Kd.R_newM (M := fun k_ => (w.heap.size ≤ k_)) ho0 (below_size (by repeat (first | (with_reducible first | exact HB.out | apply below_alloc | apply pw_below_drewN | apply below_drew1 | refine below_set ?_ GE331.out) | exact HB.out))) (fun k_ h_ => h_)) (Kd.R_lt (by (with_reducible repeat (first | apply Kd.R_alloc | apply Kd.R_drewN | apply Kd.R_drew)); exact HO363.out))) (below_size (by repeat (first | (with_reducible first | exact HB.out | apply below_alloc | apply pw_below_drewN | apply below_drew1 | refine below_set ?_ GE331.out) | exact HB.out)))); have n3_ := Aside0.mk (blk_below (g := gb331) (o := .cells #[.int .i64 ((rd_T34 l1 x30_2).f0), .int .i64 ((rd_T34 l1 x30_2).f1), .int .i64 ((rd_T34 l1 x30_2).f2)] 34 (0, 0)) (by (with_reducible repeat (first | refine blk_drewN ?_ _ | refine blk_drew ?_ | refine blk_alloc ?_ _)); exact BK331.out) hb); have n4_ := Aside0.mk (below_step (by repeat (first | (with_reducible first | exact HB.out | apply below_alloc | apply pw_below_drewN | apply below_drew1 | refine below_set ?_ GE331.out) | exact HB.out)) hb); clear HO_0; clear HO363; clear BK331; clear HB; have HO_0 := n0_; have HO363 := n1_; have HO367 := n2_; have BK331 := n3_; have HB := n4_; clear n0_ n1_ n2_ n3_ n4_; (try clear hb); (try clear hb2); (try clear hk); (try clear hi); (try clear ho0)))
                                go_meet
                                case rel => exact ⟨_, (t360), (t364), (0), (0), (t361), (t365), (false), (false), (by first | rfl | (simp; done) | (simp [*]; done)), (by first | rfl | (simp; done) | (simp [*]; done)), (by first | rfl | (simp; done) | (simp [*]; done)), (by first | rfl | (simp; done) | (simp [*]; done)), (by first | rfl | (simp; done) | (simp [*]; done)), (by first | rfl | (simp; done) | (simp [*]; done)), H', ⟨by have := HJ2.out; have := HK2.out; have := HJ32.out; first | omega | exact Nat.le_refl _⟩, ⟨by (with_reducible repeat (first | apply Kd.V_alloc | apply Kd.V_drewN | apply Kd.V_drew)); exact Kd.V_mono HO_0.out (fun _ hk => ⟨hk.1.1.1, ⟨hk.1.2, ⟨hk.2, hk.1.1.2⟩⟩⟩)⟩, ⟨by (with_reducible repeat (first | apply Kd.R_alloc | apply Kd.R_drewN | apply Kd.R_drew)); exact Kd.R_mono HO363.out (fun _ hk => ⟨hk.1.1, hk.2⟩)⟩, ⟨by (with_reducible repeat (first | apply Kd.R_alloc | apply Kd.R_drewN | apply Kd.R_drew)); exact Kd.R_mono HO367.out (fun _ hk => ⟨hk.1.1, hk.2⟩)⟩, ⟨by (with_reducible repeat (first | refine blk_drewN ?_ _ | refine blk_drew ?_ | refine blk_alloc ?_ _)); exact BK331.out⟩, ⟨by repeat (first | (with_reducible first | exact HB.out | apply below_alloc | apply pw_below_drewN | apply below_drew1 | refine below_set ?_ GE331.out) | exact HB.out)⟩⟩
                              · rw [if_neg c43] at H
                                have c43b0 : (((rd_T34 l1 x30_2).f0) == 4) = false := beq_eq_false_iff_ne.mpr c43
                                have c43b1 : (((rd_T34 l1 x30_2).f0) != 4) = true := bne_iff_ne.mpr c43
                                replace H := Option.bind_eq_some_iff.mp H
                                obtain ⟨⟨t368, t369⟩, A510, H⟩ := H
                                replace H : ((estoversref32_Place.f kj32 x0_2 ((rd_T34 l1 x30_2).f1) ((rd_T34 l1 x30_2).f2)).bind fun bt372 => (estoverslaw32_SlotsSteps.j3 kj32 x0_2 t368 bt372.1 0 0 t369 bt372.2 false false l1 (l1.length : Int) x30_2)) = some r := H
                                have A51 := Aside0.mk A510
                                clear A510
                                replace H := Option.bind_eq_some_iff.mp H
                                obtain ⟨⟨t372, t373⟩, A520, H⟩ := H
                                replace H : (estoverslaw32_SlotsSteps.j3 kj32 x0_2 t368 t372 0 0 t369 t373 false false l1 (l1.length : Int) x30_2) = some r := H
                                have A52 := Aside0.mk A520
                                clear A520
                                have H' := Aside0.mk H
                                clear H
                                have hcz53_0 : wc.cell? ⟨gb331, 0, none⟩ = some (.int .i64 ((rd_T34 l1 x30_2).f0)) := (blk_cell BK331.out 0).trans rfl
                                have hcz53_1 : wc.cell? ⟨gb331, 1, none⟩ = some (.int .i64 ((rd_T34 l1 x30_2).f1)) := (blk_cell BK331.out 1).trans rfl
                                have hcz53_2 : wc.cell? ⟨gb331, 2, none⟩ = some (.int .i64 ((rd_T34 l1 x30_2).f2)) := (blk_cell BK331.out 2).trans rfl
                                have hfz53_0 := blk_frozen BK331.out 0
                                have hfz53_1 := blk_frozen BK331.out 1
                                have hfz53_2 := blk_frozen BK331.out 2
                                obtain ⟨Ao54, co54, eo54⟩ := Kd.V_slice HO_0.out
                                subst eo54
                                go_wp2_with (first | ((with_reducible refine gate_callee (f := 27) rfl ?_); refine goesL_ (some 42) rfl rfl Try.func27 (by kernel_rfl) rfl #[.slice Ao54 x0_2.length co54, .int .i64 ((rd_T34 l1 x30_2).f1), .int .i64 ((rd_T34 l1 x30_2).f2)] rfl (by (try simp only [List.map_toArray, List.map_cons, List.map_nil]); first | done | rfl | (simp only [List.length_drop, List.length_take]; rfl)) ?_; (with_reducible refine (slots_Place.calls _ _ x0_2 ((rd_T34 l1 x30_2).f1) ((rd_T34 l1 x30_2).f2) t368 t369 _ ?side1 ?side2 A51.out).mono ?_); (case side1 => repeat (first | exact (Kd.V_reads' HO_0.out).2.2 | (with_reducible refine Kd.C_alloc ?_ _) | (with_reducible refine Kd.C_drewN ?_ _) | (with_reducible refine Kd.C_drew ?_))); (case side2 => exact (Kd.V_reads' HO_0.out).2.1); rintro e w55 ⟨v370, rfl, ho0, hb⟩; refine ⟨_, rfl, ?_⟩; have n0_ := Aside0.mk (Kd.V_elder' (by (with_reducible repeat (first | apply Kd.V_alloc | apply Kd.V_drewN | apply Kd.V_drew)); exact HO_0.out) (Kd.R_base ho0) hb); have n1_ := Aside0.mk (Kd.R_lower (Kd.R_newM (M := fun k_ => (w.heap.size ≤ k_)) ho0 (below_size (by repeat (first | (with_reducible first | exact HB.out | apply below_alloc | apply pw_below_drewN | apply below_drew1 | refine below_set ?_ GE331.out) | exact HB.out))) (fun k_ h_ => h_)) (below_size (by repeat (first | (with_reducible first | exact HB.out | apply below_alloc | apply pw_below_drewN | apply below_drew1 | refine below_set ?_ GE331.out) | exact HB.out)))); have n2_ := Aside0.mk (blk_below (g := gb331) (o := .cells #[.int .i64 ((rd_T34 l1 x30_2).f0), .int .i64 ((rd_T34 l1 x30_2).f1), .int .i64 ((rd_T34 l1 x30_2).f2)] 34 (0, 0)) (by (with_reducible repeat (first | refine blk_drewN ?_ _ | refine blk_drew ?_ | refine blk_alloc ?_ _)); exact BK331.out) hb); have n3_ := Aside0.mk (below_step (by repeat (first | (with_reducible first | exact HB.out | apply below_alloc | apply pw_below_drewN | apply below_drew1 | refine below_set ?_ GE331.out) | exact HB.out)) hb); clear HO_0; clear BK331; clear HB; have HO_0 := n0_; have HO371 := n1_; have BK331 := n2_; have HB := n3_; clear n0_ n1_ n2_ n3_; (try clear hb); (try clear hb2); (try clear hk); (try clear hi); (try clear ho0); have hcz56_0 : w55.cell? ⟨gb331, 0, none⟩ = some (.int .i64 ((rd_T34 l1 x30_2).f0)) := (blk_cell BK331.out 0).trans rfl; have hcz56_1 : w55.cell? ⟨gb331, 1, none⟩ = some (.int .i64 ((rd_T34 l1 x30_2).f1)) := (blk_cell BK331.out 1).trans rfl; have hcz56_2 : w55.cell? ⟨gb331, 2, none⟩ = some (.int .i64 ((rd_T34 l1 x30_2).f2)) := (blk_cell BK331.out 2).trans rfl; have hfz56_0 := blk_frozen BK331.out 0; have hfz56_1 := blk_frozen BK331.out 1; have hfz56_2 := blk_frozen BK331.out 2) | ((with_reducible refine gate_callee (f := 28) rfl ?_); refine goesL_ (some 51) rfl rfl Try.func28 (by kernel_rfl) rfl #[.slice Ao54 x0_2.length co54, .int .i64 ((rd_T34 l1 x30_2).f1), .int .i64 ((rd_T34 l1 x30_2).f2)] rfl (by (try simp only [List.map_toArray, List.map_cons, List.map_nil]); first | done | rfl | (simp only [List.length_drop, List.length_take]; rfl)) ?_; (with_reducible refine (estoversref32_Place.calls kj32 _ _ x0_2 ((rd_T34 l1 x30_2).f1) ((rd_T34 l1 x30_2).f2) t372 t373 _ ?side1 ?side2 A52.out).mono ?_); (case side1 => repeat (first | exact (Kd.V_reads' HO_0.out).2.2 | (with_reducible refine Kd.C_alloc ?_ _) | (with_reducible refine Kd.C_drewN ?_ _) | (with_reducible refine Kd.C_drew ?_))); (case side2 => exact (Kd.V_reads' HO_0.out).2.1); rintro e w57 ⟨v374, rfl, ho0, hb⟩; refine ⟨_, rfl, ?_⟩; have n0_ := Aside0.mk (Kd.V_elder' (by (with_reducible repeat (first | apply Kd.V_alloc | apply Kd.V_drewN | apply Kd.V_drew)); exact HO_0.out) (Kd.R_base ho0) hb); have n1_ := Aside0.mk (Kd.R_elder' (by (with_reducible repeat (first | apply Kd.R_alloc | apply Kd.R_drewN | apply Kd.R_drew)); exact HO371.out) (Kd.R_base ho0) hb); have n2_ := Aside0.mk (Kd.R_lower (Kd.R_new' (Kd.R_newM (M := fun k_ => (w.heap.size ≤ k_)) ho0 (below_size (by repeat (first | (with_reducible first | exact HB.out | apply below_alloc | apply pw_below_drewN | apply below_drew1 | refine below_set ?_ GE331.out) | exact HB.out))) (fun k_ h_ => h_)) (Kd.R_lt (by (with_reducible repeat (first | apply Kd.R_alloc | apply Kd.R_drewN | apply Kd.R_drew)); exact HO371.out))) (below_size (by repeat (first | (with_reducible first | exact HB.out | apply below_alloc | apply pw_below_drewN | apply below_drew1 | refine below_set ?_ GE331.out) | exact HB.out)))); have n3_ := Aside0.mk (blk_below (g := gb331) (o := .cells #[.int .i64 ((rd_T34 l1 x30_2).f0), .int .i64 ((rd_T34 l1 x30_2).f1), .int .i64 ((rd_T34 l1 x30_2).f2)] 34 (0, 0)) (by (with_reducible repeat (first | refine blk_drewN ?_ _ | refine blk_drew ?_ | refine blk_alloc ?_ _)); exact BK331.out) hb); have n4_ := Aside0.mk (below_step (by repeat (first | (with_reducible first | exact HB.out | apply below_alloc | apply pw_below_drewN | apply below_drew1 | refine below_set ?_ GE331.out) | exact HB.out)) hb); clear HO_0; clear HO371; clear BK331; clear HB; have HO_0 := n0_; have HO371 := n1_; have HO375 := n2_; have BK331 := n3_; have HB := n4_; clear n0_ n1_ n2_ n3_ n4_; (try clear hb); (try clear hb2); (try clear hk); (try clear hi); (try clear ho0)))
                                go_meet
                                case rel => exact ⟨_, (t368), (t372), (0), (0), (t369), (t373), (false), (false), (by first | rfl | (simp; done) | (simp [*]; done)), (by first | rfl | (simp; done) | (simp [*]; done)), (by first | rfl | (simp; done) | (simp [*]; done)), (by first | rfl | (simp; done) | (simp [*]; done)), (by first | rfl | (simp; done) | (simp [*]; done)), (by first | rfl | (simp; done) | (simp [*]; done)), H', ⟨by have := HJ2.out; have := HK2.out; have := HJ32.out; first | omega | exact Nat.le_refl _⟩, ⟨by (with_reducible repeat (first | apply Kd.V_alloc | apply Kd.V_drewN | apply Kd.V_drew)); exact Kd.V_mono HO_0.out (fun _ hk => ⟨hk.1.1.1, ⟨hk.1.2, ⟨hk.2, hk.1.1.2⟩⟩⟩)⟩, ⟨by (with_reducible repeat (first | apply Kd.R_alloc | apply Kd.R_drewN | apply Kd.R_drew)); exact Kd.R_mono HO371.out (fun _ hk => ⟨hk.1.1, hk.2⟩)⟩, ⟨by (with_reducible repeat (first | apply Kd.R_alloc | apply Kd.R_drewN | apply Kd.R_drew)); exact Kd.R_mono HO375.out (fun _ hk => ⟨hk.1.1, hk.2⟩)⟩, ⟨by (with_reducible repeat (first | refine blk_drewN ?_ _ | refine blk_drew ?_ | refine blk_alloc ?_ _)); exact BK331.out⟩, ⟨by repeat (first | (with_reducible first | exact HB.out | apply below_alloc | apply pw_below_drewN | apply below_drew1 | refine below_set ?_ GE331.out) | exact HB.out)⟩⟩
                  case rest =>
                    clear HC16
                    try clear c1
                    try clear c2
                    try clear p2
                    try clear c3
                    try clear p3
                    try clear q3
                    try clear hx3
                    try clear c4
                    try clear c5
                    try clear c6
                    try clear c6b0
                    try clear c6b1
                    try clear c7
                    try clear c9
                    try clear c10
                    try clear c13
                    try clear c13b0
                    try clear c14
                    try clear c14b0
                    try clear c15
                    try clear c15b0
                    try clear c19
                    try clear c19b0
                    try clear c19b1
                    try clear c20
                    try clear c21
                    try clear c22
                    try clear c23
                    try clear c24
                    try clear c25
                    try clear c25b0
                    try clear c25b1
                    try clear c26
                    try clear c27
                    try clear c28
                    try clear p33
                    try clear q33
                    try clear hx33
                    try clear c34
                    try clear c34b0
                    try clear c34b1
                    try clear c35
                    try clear c43
                    try clear c43b0
                    try clear c43b1
                    try clear hcz18_0
                    try clear hcz18_1
                    try clear hcz18_2
                    try clear hcz28_0
                    try clear hcz28_1
                    try clear hcz28_2
                    try clear hcz31_0
                    try clear hcz31_1
                    try clear hcz31_2
                    try clear hcz38_0
                    try clear hcz38_1
                    try clear hcz38_2
                    try clear hcz41_0
                    try clear hcz41_1
                    try clear hcz41_2
                    try clear hcz46_0
                    try clear hcz46_1
                    try clear hcz46_2
                    try clear hcz49_0
                    try clear hcz49_1
                    try clear hcz49_2
                    try clear hcz53_0
                    try clear hcz53_1
                    try clear hcz53_2
                    try clear hcz56_0
                    try clear hcz56_1
                    try clear hcz56_2
                    try clear hfz18_0
                    try clear hfz18_1
                    try clear hfz18_2
                    try clear hfz28_0
                    try clear hfz28_1
                    try clear hfz28_2
                    try clear hfz31_0
                    try clear hfz31_1
                    try clear hfz31_2
                    try clear hfz38_0
                    try clear hfz38_1
                    try clear hfz38_2
                    try clear hfz41_0
                    try clear hfz41_1
                    try clear hfz41_2
                    try clear hfz46_0
                    try clear hfz46_1
                    try clear hfz46_2
                    try clear hfz49_0
                    try clear hfz49_1
                    try clear hfz49_2
                    try clear hfz53_0
                    try clear hfz53_1
                    try clear hfz53_2
                    try clear hfz56_0
                    try clear hfz56_1
                    try clear hfz56_2
                    try clear hx330_0
                    try clear hx330_1
                    try clear hx330_2
                    try clear p2
                    try clear p3
                    try clear p33
                    try clear p330
                    try clear q3
                    try clear q33
                    try clear q330
                    obtain ⟨kq, x7_15, x8_15, x9_15, x10_15, x11_15, x12_15, x13_15, x14_15, rfl, rfl, rfl, rfl, rfl, rfl, HA, HJ15, HO_0, HO_7, HO_8, BK331, HB⟩ := hcut
                    cases kq with
                    | zero => exact absurd HA.out (by simp [estoverslaw32_SlotsSteps.j3])
                    | succ kj15 =>
                      have H := HA.out
                      clear HA
                      simp only [estoverslaw32_SlotsSteps.j3] at H
                      have HC58 := Aside0.mk H
                      clear H
                      go_upto_region 25 with (fail)
                      go_cut [143] (fun v143 wc => ∃ (kq : Nat) (x143_57 : Bool), v143 = .bool x143_57 ∧ Aside0 (estoverslaw32_SlotsSteps.j4 kq x0_2 x8_15 x12_15 l1 (l1.length : Int) x30_2 x143_57 = some r) ∧ Aside0 (kq ≤ kj15) ∧ Aside0 (Kd.V k41 41 wc w.heap.size (fun k_ => (P0_ k_ ∨ w.heap.size ≤ k_) ∧ some k_ ≠ (u8 : Value).ownBlock ∧ k_ ≠ gb331) u0 x0_2) ∧ Aside0 (Kd.R k41 41 wc w.heap.size (fun k_ => (w.heap.size ≤ k_)) u8 x8_15) ∧ Aside0 (wc.heap[gb331]? = some (.cells #[.int .i64 ((rd_T34 l1 x30_2).f0), .int .i64 ((rd_T34 l1 x30_2).f1), .int .i64 ((rd_T34 l1 x30_2).f2)] 34 (0, 0))) ∧ Aside0 (Below w.heap.size w wc))
                      case first =>
                        have H := HC58.out
                        clear HC58
                        by_cases c59 : x11_15 = x12_15
                        · rw [if_pos c59] at H
                          have c59b0 : (x11_15 == x12_15) = true := beq_iff_eq.mpr c59
                          have c59b1 : (x11_15 != x12_15) = false := bne_eq_false_iff_eq.mpr c59
                          clear c59
                          (first | rw [c59b0] | (simp only [i64_w, i32_w]; rw [c59b0]) | skip)
                          by_cases c60 : x9_15 = x10_15
                          · rw [if_pos c60] at H
                            have c60b0 : (x9_15 == x10_15) = true := beq_iff_eq.mpr c60
                            have c60b1 : (x9_15 != x10_15) = false := bne_eq_false_iff_eq.mpr c60
                            clear c60
                            by_cases c61 : (x13_15 != x14_15) = true
                            · rw [if_pos c61] at H
                              have c61b0 : (x13_15 != x14_15) = true := c61
                              (try (have c61b1 : decide (x13_15 = x14_15) = false := by simpa using c61))
                              (try (have c61b2 : (x13_15 == x14_15) = false := by simpa using c61))
                              (try (have c61b3 : ¬ (x13_15 = x14_15) := by simpa using c61))
                              clear c61
                              have H' := Aside0.mk H
                              clear H
                              go_wp2
                              go_meet
                              case rel => exact ⟨_, (true), (by first | rfl | (simp; done) | (simp [*]; done)), H', ⟨by have := HJ2.out; have := HK2.out; have := HJ15.out; first | omega | exact Nat.le_refl _⟩, ⟨by (with_reducible repeat (first | apply Kd.V_alloc | apply Kd.V_drewN | apply Kd.V_drew)); exact Kd.V_mono HO_0.out (fun _ hk => ⟨hk.1, ⟨hk.2.2.1, hk.2.2.2⟩⟩)⟩, ⟨by (with_reducible repeat (first | apply Kd.R_alloc | apply Kd.R_drewN | apply Kd.R_drew)); exact Kd.R_mono HO_8.out (fun _ hk => hk.1)⟩, ⟨by (with_reducible repeat (first | refine blk_drewN ?_ _ | refine blk_drew ?_ | refine blk_alloc ?_ _)); exact BK331.out⟩, ⟨by repeat (first | (with_reducible first | exact HB.out | apply below_alloc | apply pw_below_drewN | apply below_drew1 | refine below_set ?_ GE331.out) | exact HB.out)⟩⟩
                            · rw [if_neg c61] at H
                              have c61b0 : (x13_15 != x14_15) = false := by simpa using c61
                              (try (have c61b1 : decide (x13_15 = x14_15) = true := by simpa using c61))
                              (try (have c61b2 : (x13_15 == x14_15) = true := by simpa using c61))
                              clear c61
                              replace H := Option.bind_eq_some_iff.mp H
                              obtain ⟨t376, A620, H⟩ := H
                              replace H : (estoverslaw32_SlotsSteps.j4 kj15 x0_2 x8_15 x12_15 l1 (l1.length : Int) x30_2 (!t376)) = some r := H
                              have A62 := Aside0.mk A620
                              clear A620
                              have H' := Aside0.mk H
                              clear H
                              obtain ⟨Ao63, co63, eo63⟩ := Kd.R_slice HO_7.out
                              subst eo63
                              obtain ⟨Ao64, co64, eo64⟩ := Kd.R_slice HO_8.out
                              subst eo64
                              go_wp2_with (first | (go_at_call 12; (with_reducible refine (estoversref32_Same.calls kj15 _ _ x7_15 _ _ x8_15 t376 _ ?side1 ?side2 ?side3 ?side4 A62.out).mono ?_); (case side1 => repeat (first | exact (Kd.R_reads' HO_7.out).2.2 | (with_reducible refine Kd.C_alloc ?_ _) | (with_reducible refine Kd.C_drewN ?_ _) | (with_reducible refine Kd.C_drew ?_))); (case side2 => exact (Kd.R_reads' HO_7.out).2.1); (case side3 => repeat (first | exact (Kd.R_reads' HO_8.out).2.2 | (with_reducible refine Kd.C_alloc ?_ _) | (with_reducible refine Kd.C_drewN ?_ _) | (with_reducible refine Kd.C_drew ?_))); (case side4 => exact (Kd.R_reads' HO_8.out).2.1); rintro e w' ⟨rfl, ⟨nd, rfl⟩⟩))
                              go_meet
                              case rel => exact ⟨_, (!t376), (by first | rfl | (simp; done) | (simp [*]; done)), H', ⟨by have := HJ2.out; have := HK2.out; have := HJ15.out; first | omega | exact Nat.le_refl _⟩, ⟨by (with_reducible repeat (first | apply Kd.V_alloc | apply Kd.V_drewN | apply Kd.V_drew)); exact Kd.V_mono HO_0.out (fun _ hk => ⟨hk.1, ⟨hk.2.2.1, hk.2.2.2⟩⟩)⟩, ⟨by (with_reducible repeat (first | apply Kd.R_alloc | apply Kd.R_drewN | apply Kd.R_drew)); exact Kd.R_mono HO_8.out (fun _ hk => hk.1)⟩, ⟨by (with_reducible repeat (first | refine blk_drewN ?_ _ | refine blk_drew ?_ | refine blk_alloc ?_ _)); exact BK331.out⟩, ⟨by repeat (first | (with_reducible first | exact HB.out | apply below_alloc | apply pw_below_drewN | apply below_drew1 | refine below_set ?_ GE331.out) | exact HB.out)⟩⟩
                          · rw [if_neg c60] at H
                            have c60b0 : (x9_15 == x10_15) = false := beq_eq_false_iff_ne.mpr c60
                            have c60b1 : (x9_15 != x10_15) = true := bne_iff_ne.mpr c60
                            have H' := Aside0.mk H
                            clear H
                            go_wp2
                            go_meet
                            case rel => exact ⟨_, (true), (by first | rfl | (simp; done) | (simp [*]; done)), H', ⟨by have := HJ2.out; have := HK2.out; have := HJ15.out; first | omega | exact Nat.le_refl _⟩, ⟨by (with_reducible repeat (first | apply Kd.V_alloc | apply Kd.V_drewN | apply Kd.V_drew)); exact Kd.V_mono HO_0.out (fun _ hk => ⟨hk.1, ⟨hk.2.2.1, hk.2.2.2⟩⟩)⟩, ⟨by (with_reducible repeat (first | apply Kd.R_alloc | apply Kd.R_drewN | apply Kd.R_drew)); exact Kd.R_mono HO_8.out (fun _ hk => hk.1)⟩, ⟨by (with_reducible repeat (first | refine blk_drewN ?_ _ | refine blk_drew ?_ | refine blk_alloc ?_ _)); exact BK331.out⟩, ⟨by repeat (first | (with_reducible first | exact HB.out | apply below_alloc | apply pw_below_drewN | apply below_drew1 | refine below_set ?_ GE331.out) | exact HB.out)⟩⟩
                        · rw [if_neg c59] at H
                          have c59b0 : (x11_15 == x12_15) = false := beq_eq_false_iff_ne.mpr c59
                          have c59b1 : (x11_15 != x12_15) = true := bne_iff_ne.mpr c59
                          (first | rw [c59b0] | (simp only [i64_w, i32_w]; rw [c59b0]) | skip)
                          have H' := Aside0.mk H
                          clear H
                          go_wp2
                          go_meet
                          case rel => exact ⟨_, (true), (by first | rfl | (simp; done) | (simp [*]; done)), H', ⟨by have := HJ2.out; have := HK2.out; have := HJ15.out; first | omega | exact Nat.le_refl _⟩, ⟨by (with_reducible repeat (first | apply Kd.V_alloc | apply Kd.V_drewN | apply Kd.V_drew)); exact Kd.V_mono HO_0.out (fun _ hk => ⟨hk.1, ⟨hk.2.2.1, hk.2.2.2⟩⟩)⟩, ⟨by (with_reducible repeat (first | apply Kd.R_alloc | apply Kd.R_drewN | apply Kd.R_drew)); exact Kd.R_mono HO_8.out (fun _ hk => hk.1)⟩, ⟨by (with_reducible repeat (first | refine blk_drewN ?_ _ | refine blk_drew ?_ | refine blk_alloc ?_ _)); exact BK331.out⟩, ⟨by repeat (first | (with_reducible first | exact HB.out | apply below_alloc | apply pw_below_drewN | apply below_drew1 | refine below_set ?_ GE331.out) | exact HB.out)⟩⟩
                      case rest =>
                        clear HC58
                        try clear c1
                        try clear c2
                        try clear p2
                        try clear c3
                        try clear p3
                        try clear q3
                        try clear hx3
                        try clear c4
                        try clear c5
                        try clear c6
                        try clear c6b0
                        try clear c6b1
                        try clear c7
                        try clear c9
                        try clear c10
                        try clear c13
                        try clear c13b0
                        try clear c14
                        try clear c14b0
                        try clear c15
                        try clear c15b0
                        try clear c19
                        try clear c19b0
                        try clear c19b1
                        try clear c20
                        try clear c21
                        try clear c22
                        try clear c23
                        try clear c24
                        try clear c25
                        try clear c25b0
                        try clear c25b1
                        try clear c26
                        try clear c27
                        try clear c28
                        try clear p33
                        try clear q33
                        try clear hx33
                        try clear c34
                        try clear c34b0
                        try clear c34b1
                        try clear c35
                        try clear c43
                        try clear c43b0
                        try clear c43b1
                        try clear c59
                        try clear c59b0
                        try clear c59b1
                        try clear c60
                        try clear c60b0
                        try clear c60b1
                        try clear c61
                        try clear c61b0
                        try clear c61b1
                        try clear c61b2
                        try clear hcz18_0
                        try clear hcz18_1
                        try clear hcz18_2
                        try clear hcz28_0
                        try clear hcz28_1
                        try clear hcz28_2
                        try clear hcz31_0
                        try clear hcz31_1
                        try clear hcz31_2
                        try clear hcz38_0
                        try clear hcz38_1
                        try clear hcz38_2
                        try clear hcz41_0
                        try clear hcz41_1
                        try clear hcz41_2
                        try clear hcz46_0
                        try clear hcz46_1
                        try clear hcz46_2
                        try clear hcz49_0
                        try clear hcz49_1
                        try clear hcz49_2
                        try clear hcz53_0
                        try clear hcz53_1
                        try clear hcz53_2
                        try clear hcz56_0
                        try clear hcz56_1
                        try clear hcz56_2
                        try clear hfz18_0
                        try clear hfz18_1
                        try clear hfz18_2
                        try clear hfz28_0
                        try clear hfz28_1
                        try clear hfz28_2
                        try clear hfz31_0
                        try clear hfz31_1
                        try clear hfz31_2
                        try clear hfz38_0
                        try clear hfz38_1
                        try clear hfz38_2
                        try clear hfz41_0
                        try clear hfz41_1
                        try clear hfz41_2
                        try clear hfz46_0
                        try clear hfz46_1
                        try clear hfz46_2
                        try clear hfz49_0
                        try clear hfz49_1
                        try clear hfz49_2
                        try clear hfz53_0
                        try clear hfz53_1
                        try clear hfz53_2
                        try clear hfz56_0
                        try clear hfz56_1
                        try clear hfz56_2
                        try clear hx330_0
                        try clear hx330_1
                        try clear hx330_2
                        try clear p2
                        try clear p3
                        try clear p33
                        try clear p330
                        try clear q3
                        try clear q33
                        try clear q330
                        obtain ⟨kq, x143_57, rfl, HA, HJ57, HO_0, HO_8, BK331, HB⟩ := hcut
                        cases kq with
                        | zero => exact absurd HA.out (by simp [estoverslaw32_SlotsSteps.j4])
                        | succ kj57 =>
                          have H := HA.out
                          clear HA
                          simp only [estoverslaw32_SlotsSteps.j4] at H
                          by_cases c65 : x143_57 = true
                          · subst c65
                            have H1 : (some false) = some r := by rw [if_pos rfl] at H; exact H
                            clear H
                            have H := H1
                            clear H1
                            obtain rfl := Option.some.inj H
                            go_wp2
                            go_ret
                            exact ⟨by first | rfl | (simp [errW_none, errW_some] <;> rfl) | (simp [*, errW_none, errW_some] <;> rfl), by repeat (first | (with_reducible first | exact HB.out | apply below_alloc | apply pw_below_drewN | apply below_drew1 | refine below_set ?_ GE331.out) | exact HB.out)⟩
                          · replace c65 := Bool.eq_false_iff.mpr c65
                            subst c65
                            have H1 : (if x12_15 = 0 then (estoverslaw32_SlotsSteps.l0 kj57 x8_15 l1 (l1.length : Int) (wrap64 (x30_2 + 1))) else (estoverslaw32_SlotsSteps.l0 kj57 x0_2 l1 (l1.length : Int) (wrap64 (x30_2 + 1)))) = some r := by rw [if_neg (show ¬ (false = true) by decide)] at H; exact H
                            clear H
                            have H := H1
                            clear H1
                            by_cases c66 : x12_15 = 0
                            · rw [if_pos c66] at H
                              have c66b0 : (x12_15 == 0) = true := beq_iff_eq.mpr c66
                              have c66b1 : (x12_15 != 0) = false := bne_eq_false_iff_eq.mpr c66
                              clear c66
                              have H' := Aside0.mk H
                              clear H
                              go_wp2
                              go_roundg kj57
                              case measure => have := HJ2.out; have := HK2.out; have := HJ15.out; have := HJ57.out; omega
                              case rel => exact ⟨(x8_15), (wrap64 (x30_2 + 1)), (by first | rfl | (simp; done) | (simp [*]; done)), H', ⟨by have := HJ2.out; have := HK2.out; have := HJ15.out; have := HJ57.out; omega⟩, ⟨Kd.V_mono (Kd.R_V (by (with_reducible repeat (first | apply Kd.R_alloc | apply Kd.R_drewN | apply Kd.R_drew)); exact HO_8.out)) (fun k_ hk => by first | exact ⟨(.inr (hk.1)), hk.2⟩ | exact (.inr (hk)))⟩, ⟨by repeat (first | (with_reducible first | exact HB.out | apply below_alloc | apply pw_below_drewN | apply below_drew1 | refine below_set ?_ GE331.out) | exact HB.out)⟩⟩
                            · rw [if_neg c66] at H
                              have c66b0 : (x12_15 == 0) = false := beq_eq_false_iff_ne.mpr c66
                              have c66b1 : (x12_15 != 0) = true := bne_iff_ne.mpr c66
                              have H' := Aside0.mk H
                              clear H
                              go_wp2
                              go_roundg kj57
                              case measure => have := HJ2.out; have := HK2.out; have := HJ15.out; have := HJ57.out; omega
                              case rel => exact ⟨(x0_2), (wrap64 (x30_2 + 1)), (by first | rfl | (simp; done) | (simp [*]; done)), H', ⟨by have := HJ2.out; have := HK2.out; have := HJ15.out; have := HJ57.out; omega⟩, ⟨by (with_reducible repeat (first | apply Kd.V_alloc | apply Kd.V_drewN | apply Kd.V_drew)); exact Kd.V_mono HO_0.out (fun _ hk => hk.1)⟩, ⟨by repeat (first | (with_reducible first | exact HB.out | apply below_alloc | apply pw_below_drewN | apply below_drew1 | refine below_set ?_ GE331.out) | exact HB.out)⟩⟩
                · rw [if_neg c15] at H
                  exact absurd H (by simp)
              · rw [if_neg c14] at H
                exact absurd H (by simp)
            · rw [if_neg c13] at H
              have c13b0 : decide (x30_2 < (l1.length : Int)) = false := decide_eq_false c13
              clear c13
              obtain rfl := Option.some.inj H
              go_wp2
              go_ret
              exact ⟨by first | rfl | (simp [errW_none, errW_some] <;> rfl) | (simp [*, errW_none, errW_some] <;> rfl), by repeat (first | (with_reducible first | exact HB.out | apply below_alloc | apply pw_below_drewN | apply below_drew1) | exact HB.out)⟩

end Go.Proofs.Ytjaondnglmimaaa.X
