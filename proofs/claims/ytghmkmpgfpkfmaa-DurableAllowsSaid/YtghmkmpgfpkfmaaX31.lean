-- Written for this claim by a program of this session (wip/px.py) with the kit's print; the contracts of GIVEN functions are proved by hand.
import Derived.Test.YtghmkmpgfpkfmaaX0
namespace Go.Proofs.Ytghmkmpgfpkfmaa.X
open Go.RowKit Go.Proofs.YtghmkmpgfpkfmaaW.PrintWords Go.Proofs.YtghmkmpgfpkfmaaW.PrintLast Go.Proofs.YtghmkmpgfpkfmaaW.PrintMore
attribute [local go_sem] max2_int min2_int max_two min_two max_three min_three max_four min_four   -- for this text's walks alone
set_option linter.unusedVariables false
set_option linter.unusedSimpArgs false

/-! ### estoversref11_has: function 47 -/
def estoversref11_has.l0 : Nat → List (List Int) → List Int → Int → Option (Bool)
  | 0, _, _, _ => none
  | k + 1, x0, x1, x5 => if x5 < (x0.length : Int) then (if 0 ≤ x5 then (if (strOfNums (rd_L1 x0 x5)).toList = (strOfNums x1).toList then (some true) else (estoversref11_has.l0 k x0 x1 (wrap64 (x5 + 1)))) else (none)) else (some false)
def estoversref11_has.f (k : Nat) (l0 : List (List Int)) (l1 : List Int) : Option (Bool) := estoversref11_has.l0 k l0 l1 0
theorem estoversref11_has.mono_l : ∀ k, (∀ y0 y1 y2, LeO (estoversref11_has.l0 k y0 y1 y2) (estoversref11_has.l0 (k + 1) y0 y1 y2))
  | 0 => fun _ _ _ r h => by simp [estoversref11_has.l0] at h
  | k + 1 => by
    have ih0 := estoversref11_has.mono_l k
    · intro y0 y1 y2
      unfold estoversref11_has.l0
      repeat' first
      | (with_reducible exact ih0 _ _ _)
      | (with_reducible exact LeO.refl _)
      | (with_reducible exact LeO.none _)
      | (with_reducible refine LeO.ite ?_ ?_)
      | (with_reducible refine LeO.bind ?_ (fun _ => ?_))
      | exact ih0 _ _ _
      | exact LeO.none _
      | refine LeO.ite ?_ ?_
      | refine LeO.bind ?_ (fun _ => ?_)
theorem estoversref11_has.mono : ∀ a0 a1 k, LeO (estoversref11_has.f k a0 a1) (estoversref11_has.f (k + 1) a0 a1) := by
  intro a0 a1 k
  have ih0 := estoversref11_has.mono_l k
  unfold estoversref11_has.f
  repeat' first
      | (with_reducible exact ih0 _ _ _)
      | (with_reducible exact LeO.refl _)
      | (with_reducible exact LeO.none _)
      | (with_reducible refine LeO.ite ?_ ?_)
      | (with_reducible refine LeO.bind ?_ (fun _ => ?_))
      | exact ih0 _ _ _
      | exact LeO.none _
      | refine LeO.ite ?_ ?_
      | refine LeO.bind ?_ (fun _ => ?_)
set_option maxHeartbeats 8000000 in
set_option maxRecDepth 100000 in
theorem estoversref11_has.calls (k : Nat) (A0 : Option Addr) (c0 : Nat) (l0 : List (List Int)) (A1 : Option Addr) (c1 : Nat) (l1 : List Int) (r : Bool) (w : World) (hr0 : Kd.C (Kd.slice 5 (Kd.int .u8)) w A0 l0.length l0) (hc0 : l0.length ≤ c0) (hr1 : Kd.C (Kd.int .u8) w A1 l1.length l1) (hc1 : l1.length ≤ c1) (h : estoversref11_has.f k l0 l1 = some r) :
    Calls Try.prog 47 #[.slice A0 l0.length c0, .slice A1 l1.length c1] w fun e w' => e = .returned (.bool r) ∧ Drawn0 w w' := by
  have HR0 := Aside0.mk hr0
  have HC0 := Aside0.mk hc0
  clear hr0 hc0
  have HR1 := Aside0.mk hr1
  have HC1 := Aside0.mk hc1
  clear hr1 hc1
  have H : (estoversref11_has.l0 k l0 l1 0) = some r := h
  clear h
  have H' := Aside0.mk H
  clear H
  go_enter Try.func47, Try.ntmps47
  go_wp2
  repeat (go_quiet (fail); try go_wp2)
  go_loopg [5] k (fun kq v5 w' => ∃ (x5_1 : Int), v5 = .int .i64 x5_1 ∧ Aside0 (estoversref11_has.l0 kq l0 l1 x5_1 = some r) ∧ Aside0 (kq ≤ k) ∧ Drawn0 w w')
  case atStart => exact ⟨(0), (by first | rfl | (simp; done) | (simp [*]; done)), H', ⟨Nat.le_refl _⟩, by repeat (first | exact Drawn0.refl _ | apply Drawn0.step)⟩
  case round =>
    clear H'
    try clear c1
    try clear p2
    obtain ⟨x5_1, rfl, HA, HK1, ⟨m1, rfl⟩⟩ := hrel
    cases gk with
    | zero => exact absurd HA.out (by simp [estoversref11_has.l0])
    | succ k1 =>
      have H := HA.out
      clear HA
      simp only [estoversref11_has.l0] at H
      by_cases c3 : x5_1 < (l0.length : Int)
      · rw [if_pos c3] at H
        have c3b0 : decide (x5_1 < (l0.length : Int)) = true := decide_eq_true c3
        clear c3
        by_cases c4 : 0 ≤ x5_1
        · rw [if_pos c4] at H
          have c4b0 : decide (0 ≤ x5_1) = true := decide_eq_true c4
          clear c4
          by_cases c5 : (strOfNums (rd_L1 l0 x5_1)).toList = (strOfNums l1).toList
          · rw [if_pos c5] at H
            have c5b0 : ((strOfNums (rd_L1 l0 x5_1)).toList == (strOfNums l1).toList) = true := beq_iff_eq.mpr c5
            have c5b1 : ((strOfNums (rd_L1 l0 x5_1)).toList != (strOfNums l1).toList) = false := bne_eq_false_iff_eq.mpr c5
            clear c5
            obtain rfl := Option.some.inj H
            have p217 : 0 ≤ (x5_1 : Int) := of_decide_eq_true (by first | (with_reducible assumption) | assumption)
            have q217 : x5_1 < (l0.length : Int) := of_decide_eq_true (by first | (with_reducible assumption) | assumption)
            obtain ⟨ad217, A217_0, c217_0, e217, hx217_0, hl217_0, hi217_0⟩ := at_L1 HR0.out x5_1 p217 q217
            cases e217
            have HR217_0 := Aside0.mk hi217_0
            have HC217_0 := Aside0.mk hl217_0
            clear hi217_0 hl217_0
            replace p217 := eq_true p217
            replace q217 := eq_true q217
            have hcv6 := Kd.C_string (P := Try.prog) (A := A217_0) (c := c217_0) Try.underlying36 Try.underlying5 Try.underlying9 HR217_0.out
            have hcv6a := fun n_ => Kd.C_string (P := Try.prog) (A := A217_0) (c := c217_0) Try.underlying36 Try.underlying5 Try.underlying9 (Kd.C_drewN (HR217_0.out) n_)
            have hcv6b := fun m_ n_ => Kd.C_string (P := Try.prog) (A := A217_0) (c := c217_0) Try.underlying36 Try.underlying5 Try.underlying9 (Kd.C_drewN (Kd.C_drewN (HR217_0.out) m_) n_)
            have hcv7 := Kd.C_string (P := Try.prog) (A := A1) (c := c1) Try.underlying36 Try.underlying5 Try.underlying9 HR1.out
            have hcv7a := fun n_ => Kd.C_string (P := Try.prog) (A := A1) (c := c1) Try.underlying36 Try.underlying5 Try.underlying9 (Kd.C_drewN (HR1.out) n_)
            have hcv7b := fun m_ n_ => Kd.C_string (P := Try.prog) (A := A1) (c := c1) Try.underlying36 Try.underlying5 Try.underlying9 (Kd.C_drewN (Kd.C_drewN (HR1.out) m_) n_)
            go_wp2
            repeat (go_quiet (fail); try go_wp2)
            go_ret
            exact ⟨by first | rfl | (simp; done) | (simp [*]; done), by repeat (first | exact Drawn0.refl _ | apply Drawn0.step)⟩
          · rw [if_neg c5] at H
            have c5b0 : ((strOfNums (rd_L1 l0 x5_1)).toList == (strOfNums l1).toList) = false := beq_eq_false_iff_ne.mpr c5
            have c5b1 : ((strOfNums (rd_L1 l0 x5_1)).toList != (strOfNums l1).toList) = true := bne_iff_ne.mpr c5
            have H' := Aside0.mk H
            clear H
            have p217 : 0 ≤ (x5_1 : Int) := of_decide_eq_true (by first | (with_reducible assumption) | assumption)
            have q217 : x5_1 < (l0.length : Int) := of_decide_eq_true (by first | (with_reducible assumption) | assumption)
            obtain ⟨ad217, A217_0, c217_0, e217, hx217_0, hl217_0, hi217_0⟩ := at_L1 HR0.out x5_1 p217 q217
            cases e217
            have HR217_0 := Aside0.mk hi217_0
            have HC217_0 := Aside0.mk hl217_0
            clear hi217_0 hl217_0
            replace p217 := eq_true p217
            replace q217 := eq_true q217
            have hcv8 := Kd.C_string (P := Try.prog) (A := A217_0) (c := c217_0) Try.underlying36 Try.underlying5 Try.underlying9 HR217_0.out
            have hcv8a := fun n_ => Kd.C_string (P := Try.prog) (A := A217_0) (c := c217_0) Try.underlying36 Try.underlying5 Try.underlying9 (Kd.C_drewN (HR217_0.out) n_)
            have hcv8b := fun m_ n_ => Kd.C_string (P := Try.prog) (A := A217_0) (c := c217_0) Try.underlying36 Try.underlying5 Try.underlying9 (Kd.C_drewN (Kd.C_drewN (HR217_0.out) m_) n_)
            have hcv9 := Kd.C_string (P := Try.prog) (A := A1) (c := c1) Try.underlying36 Try.underlying5 Try.underlying9 HR1.out
            have hcv9a := fun n_ => Kd.C_string (P := Try.prog) (A := A1) (c := c1) Try.underlying36 Try.underlying5 Try.underlying9 (Kd.C_drewN (HR1.out) n_)
            have hcv9b := fun m_ n_ => Kd.C_string (P := Try.prog) (A := A1) (c := c1) Try.underlying36 Try.underlying5 Try.underlying9 (Kd.C_drewN (Kd.C_drewN (HR1.out) m_) n_)
            go_wp2
            repeat (go_quiet (fail); try go_wp2)
            go_roundg k1
            case measure => have := HK1.out; omega
            case rel => exact ⟨(wrap64 (x5_1 + 1)), (by first | rfl | (simp; done) | (simp [*]; done)), H', ⟨by have := HK1.out; omega⟩, by repeat (first | exact Drawn0.refl _ | apply Drawn0.step)⟩
        · rw [if_neg c4] at H
          exact absurd H (by simp)
      · rw [if_neg c3] at H
        have c3b0 : decide (x5_1 < (l0.length : Int)) = false := decide_eq_false c3
        clear c3
        obtain rfl := Option.some.inj H
        go_wp2
        repeat (go_quiet (fail); try go_wp2)
        go_ret
        exact ⟨by first | rfl | (simp; done) | (simp [*]; done), by repeat (first | exact Drawn0.refl _ | apply Drawn0.step)⟩

end Go.Proofs.Ytghmkmpgfpkfmaa.X
