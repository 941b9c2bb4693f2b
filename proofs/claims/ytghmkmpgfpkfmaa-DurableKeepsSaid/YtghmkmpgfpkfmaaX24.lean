-- Written for this claim by a program of this session (wip/px.py) with the kit's print; the contracts of GIVEN functions are proved by hand.
import Derived.Test.YtghmkmpgfpkfmaaX0
namespace Go.Proofs.Ytghmkmpgfpkfmaa.X
open Go.RowKit Go.Proofs.YtghmkmpgfpkfmaaW.PrintWords Go.Proofs.YtghmkmpgfpkfmaaW.PrintLast Go.Proofs.YtghmkmpgfpkfmaaW.PrintMore
attribute [local go_sem] max2_int min2_int max_two min_two max_three min_three max_four min_four   -- for this text's walks alone
set_option linter.unusedVariables false
set_option linter.unusedSimpArgs false

/-! ### estoversref11_submitted: function 39 -/
def estoversref11_submitted.l0 : Nat → List (S38) → Int → Int → Int → Option (Int)
  | 0, _, _, _, _ => none
  | k + 1, x0, x1, x2, x7 => if x7 < x1 then (if 0 ≤ x7 then (if x7 < (x0.length : Int) then (if ((rd_T38 x0 x7).f0) = 1 then (if ((rd_T38 x0 x7).f1) = x2 then (some x7) else (estoversref11_submitted.l0 k x0 x1 x2 (wrap64 (x7 + 1)))) else (estoversref11_submitted.l0 k x0 x1 x2 (wrap64 (x7 + 1)))) else (none)) else (none)) else (some (-1))
def estoversref11_submitted.f (k : Nat) (l0 : List (S38)) (a1 : Int) (a2 : Int) : Option (Int) := estoversref11_submitted.l0 k l0 a1 a2 0
theorem estoversref11_submitted.mono_l : ∀ k, (∀ y0 y1 y2 y3, LeO (estoversref11_submitted.l0 k y0 y1 y2 y3) (estoversref11_submitted.l0 (k + 1) y0 y1 y2 y3))
  | 0 => fun _ _ _ _ r h => by simp [estoversref11_submitted.l0] at h
  | k + 1 => by
    have ih0 := estoversref11_submitted.mono_l k
    · intro y0 y1 y2 y3
      unfold estoversref11_submitted.l0
      repeat' first
      | (with_reducible exact ih0 _ _ _ _)
      | (with_reducible exact LeO.refl _)
      | (with_reducible exact LeO.none _)
      | (with_reducible refine LeO.ite ?_ ?_)
      | (with_reducible refine LeO.bind ?_ (fun _ => ?_))
      | exact ih0 _ _ _ _
      | exact LeO.none _
      | refine LeO.ite ?_ ?_
      | refine LeO.bind ?_ (fun _ => ?_)
theorem estoversref11_submitted.mono : ∀ a0 a1 a2 k, LeO (estoversref11_submitted.f k a0 a1 a2) (estoversref11_submitted.f (k + 1) a0 a1 a2) := by
  intro a0 a1 a2 k
  have ih0 := estoversref11_submitted.mono_l k
  unfold estoversref11_submitted.f
  repeat' first
      | (with_reducible exact ih0 _ _ _ _)
      | (with_reducible exact LeO.refl _)
      | (with_reducible exact LeO.none _)
      | (with_reducible refine LeO.ite ?_ ?_)
      | (with_reducible refine LeO.bind ?_ (fun _ => ?_))
      | exact ih0 _ _ _ _
      | exact LeO.none _
      | refine LeO.ite ?_ ?_
      | refine LeO.bind ?_ (fun _ => ?_)
set_option maxHeartbeats 8000000 in
set_option maxRecDepth 100000 in
theorem estoversref11_submitted.calls (k : Nat) (A0 : Option Addr) (c0 : Nat) (l0 : List (S38)) (a1 : Int) (a2 : Int) (r : Int) (w : World) (hr0 : Kd.C k38 w A0 l0.length l0) (hc0 : l0.length ≤ c0) (h : estoversref11_submitted.f k l0 a1 a2 = some r) :
    Calls Try.prog 39 #[.slice A0 l0.length c0, .int .i64 a1, .int .i64 a2] w fun e w' => e = .returned (.int .i64 r) ∧ Drawn0 w w' := by
  have HR0 := Aside0.mk hr0
  have HC0 := Aside0.mk hc0
  clear hr0 hc0
  have H : (estoversref11_submitted.l0 k l0 a1 a2 0) = some r := h
  clear h
  have H' := Aside0.mk H
  clear H
  go_enter Try.func39, Try.ntmps39
  go_wp2
  go_loopg [7] k (fun kq v7 w' => ∃ (x7_1 : Int), v7 = .int .i64 x7_1 ∧ Aside0 (estoversref11_submitted.l0 kq l0 a1 a2 x7_1 = some r) ∧ Aside0 (kq ≤ k) ∧ Drawn0 w w')
  case atStart => exact ⟨(0), (by first | rfl | (simp; done) | (simp [*]; done)), H', ⟨Nat.le_refl _⟩, by repeat (first | exact Drawn0.refl _ | apply Drawn0.step)⟩
  case round =>
    clear H'
    try clear p2
    try clear c3
    obtain ⟨x7_1, rfl, HA, HK1, ⟨m1, rfl⟩⟩ := hrel
    cases gk with
    | zero => exact absurd HA.out (by simp [estoversref11_submitted.l0])
    | succ k1 =>
      have H := HA.out
      clear HA
      simp only [estoversref11_submitted.l0] at H
      by_cases c4 : x7_1 < a1
      · rw [if_pos c4] at H
        have c4b0 : decide (x7_1 < a1) = true := decide_eq_true c4
        clear c4
        by_cases c5 : 0 ≤ x7_1
        · rw [if_pos c5] at H
          have c5b0 : decide (0 ≤ x7_1) = true := decide_eq_true c5
          clear c5
          by_cases c6 : x7_1 < (l0.length : Int)
          · rw [if_pos c6] at H
            have c6b0 : decide (x7_1 < (l0.length : Int)) = true := decide_eq_true c6
            clear c6
            by_cases c7 : ((rd_T38 l0 x7_1).f0) = 1
            · rw [if_pos c7] at H
              have c7b0 : (((rd_T38 l0 x7_1).f0) == 1) = true := beq_iff_eq.mpr c7
              have c7b1 : (((rd_T38 l0 x7_1).f0) != 1) = false := bne_eq_false_iff_eq.mpr c7
              clear c7
              by_cases c8 : ((rd_T38 l0 x7_1).f1) = a2
              · rw [if_pos c8] at H
                have c8b0 : (((rd_T38 l0 x7_1).f1) == a2) = true := beq_iff_eq.mpr c8
                have c8b1 : (((rd_T38 l0 x7_1).f1) != a2) = false := bne_eq_false_iff_eq.mpr c8
                clear c8
                obtain rfl := Option.some.inj H
                have p193 : 0 ≤ (x7_1 : Int) := of_decide_eq_true (by first | (with_reducible assumption) | assumption)
                have q193 : x7_1 < (l0.length : Int) := of_decide_eq_true (by first | (with_reducible assumption) | assumption)
                obtain ⟨ad193, A193_3, c193_3, e193, hx193_0, hx193_1, hx193_2, hx193_3, hl193_3, hi193_3⟩ := at_T38 HR0.out x7_1 p193 q193
                cases e193
                have HR193_3 := Aside0.mk hi193_3
                have HC193_3 := Aside0.mk hl193_3
                clear hi193_3 hl193_3
                replace p193 := eq_true p193
                replace q193 := eq_true q193
                have p194 : 0 ≤ (x7_1 : Int) := of_decide_eq_true (by first | (with_reducible assumption) | assumption)
                have q194 : x7_1 < (l0.length : Int) := of_decide_eq_true (by first | (with_reducible assumption) | assumption)
                obtain ⟨ad194, A194_3, c194_3, e194, hx194_0, hx194_1, hx194_2, hx194_3, hl194_3, hi194_3⟩ := at_T38 HR0.out x7_1 p194 q194
                obtain rfl : ad193 = ad194 := (by injection e194)
                have HR194_3 := Aside0.mk hi194_3
                have HC194_3 := Aside0.mk hl194_3
                clear hi194_3 hl194_3
                replace p194 := eq_true p194
                replace q194 := eq_true q194
                have ea_ := Option.some.inj (hx193_3.symm.trans hx194_3)
                injection ea_ with ea_ en_ ec_
                subst ea_
                subst ec_
                clear en_
                go_wp2
                go_ret
                exact ⟨by first | rfl | (simp; done) | (simp [*]; done), by repeat (first | exact Drawn0.refl _ | apply Drawn0.step)⟩
              · rw [if_neg c8] at H
                have c8b0 : (((rd_T38 l0 x7_1).f1) == a2) = false := beq_eq_false_iff_ne.mpr c8
                have c8b1 : (((rd_T38 l0 x7_1).f1) != a2) = true := bne_iff_ne.mpr c8
                have H' := Aside0.mk H
                clear H
                have p193 : 0 ≤ (x7_1 : Int) := of_decide_eq_true (by first | (with_reducible assumption) | assumption)
                have q193 : x7_1 < (l0.length : Int) := of_decide_eq_true (by first | (with_reducible assumption) | assumption)
                obtain ⟨ad193, A193_3, c193_3, e193, hx193_0, hx193_1, hx193_2, hx193_3, hl193_3, hi193_3⟩ := at_T38 HR0.out x7_1 p193 q193
                cases e193
                have HR193_3 := Aside0.mk hi193_3
                have HC193_3 := Aside0.mk hl193_3
                clear hi193_3 hl193_3
                replace p193 := eq_true p193
                replace q193 := eq_true q193
                have p194 : 0 ≤ (x7_1 : Int) := of_decide_eq_true (by first | (with_reducible assumption) | assumption)
                have q194 : x7_1 < (l0.length : Int) := of_decide_eq_true (by first | (with_reducible assumption) | assumption)
                obtain ⟨ad194, A194_3, c194_3, e194, hx194_0, hx194_1, hx194_2, hx194_3, hl194_3, hi194_3⟩ := at_T38 HR0.out x7_1 p194 q194
                obtain rfl : ad193 = ad194 := (by injection e194)
                have HR194_3 := Aside0.mk hi194_3
                have HC194_3 := Aside0.mk hl194_3
                clear hi194_3 hl194_3
                replace p194 := eq_true p194
                replace q194 := eq_true q194
                have ea_ := Option.some.inj (hx193_3.symm.trans hx194_3)
                injection ea_ with ea_ en_ ec_
                subst ea_
                subst ec_
                clear en_
                go_wp2
                go_roundg k1
                case measure => have := HK1.out; omega
                case rel => exact ⟨(wrap64 (x7_1 + 1)), (by first | rfl | (simp; done) | (simp [*]; done)), H', ⟨by have := HK1.out; omega⟩, by repeat (first | exact Drawn0.refl _ | apply Drawn0.step)⟩
            · rw [if_neg c7] at H
              have c7b0 : (((rd_T38 l0 x7_1).f0) == 1) = false := beq_eq_false_iff_ne.mpr c7
              have c7b1 : (((rd_T38 l0 x7_1).f0) != 1) = true := bne_iff_ne.mpr c7
              have H' := Aside0.mk H
              clear H
              have p193 : 0 ≤ (x7_1 : Int) := of_decide_eq_true (by first | (with_reducible assumption) | assumption)
              have q193 : x7_1 < (l0.length : Int) := of_decide_eq_true (by first | (with_reducible assumption) | assumption)
              obtain ⟨ad193, A193_3, c193_3, e193, hx193_0, hx193_1, hx193_2, hx193_3, hl193_3, hi193_3⟩ := at_T38 HR0.out x7_1 p193 q193
              cases e193
              have HR193_3 := Aside0.mk hi193_3
              have HC193_3 := Aside0.mk hl193_3
              clear hi193_3 hl193_3
              replace p193 := eq_true p193
              replace q193 := eq_true q193
              go_wp2
              go_roundg k1
              case measure => have := HK1.out; omega
              case rel => exact ⟨(wrap64 (x7_1 + 1)), (by first | rfl | (simp; done) | (simp [*]; done)), H', ⟨by have := HK1.out; omega⟩, by repeat (first | exact Drawn0.refl _ | apply Drawn0.step)⟩
          · rw [if_neg c6] at H
            exact absurd H (by simp)
        · rw [if_neg c5] at H
          exact absurd H (by simp)
      · rw [if_neg c4] at H
        have c4b0 : decide (x7_1 < a1) = false := decide_eq_false c4
        clear c4
        obtain rfl := Option.some.inj H
        go_wp2
        go_ret
        exact ⟨by first | rfl | (simp; done) | (simp [*]; done), by repeat (first | exact Drawn0.refl _ | apply Drawn0.step)⟩

end Go.Proofs.Ytghmkmpgfpkfmaa.X
