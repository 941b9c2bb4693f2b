-- Written for this claim by a program of this session (wip/px.py) with the kit's print; the contracts of GIVEN functions are proved by hand.
import Derived.Test.YtghmkmpgfpkfmaaX0
namespace Go.Proofs.Ytghmkmpgfpkfmaa.X
open Go.RowKit Go.Proofs.YtghmkmpgfpkfmaaW.PrintWords Go.Proofs.YtghmkmpgfpkfmaaW.PrintLast Go.Proofs.YtghmkmpgfpkfmaaW.PrintMore
attribute [local go_sem] max2_int min2_int max_two min_two max_three min_three max_four min_four   -- for this text's walks alone
set_option linter.unusedVariables false
set_option linter.unusedSimpArgs false

/-! ### estoversref11_completed: function 40 -/
def estoversref11_completed.l0 : Nat → List (S38) → Int → Int → Int → Option (Int)
  | 0, _, _, _, _ => none
  | k + 1, x0, x1, x2, x7 => if x7 < x1 then (if 0 ≤ x7 then (if x7 < (x0.length : Int) then (if ((rd_T38 x0 x7).f0) = 2 then (if ((rd_T38 x0 x7).f1) = x2 then (some x7) else (estoversref11_completed.l0 k x0 x1 x2 (wrap64 (x7 + 1)))) else (estoversref11_completed.l0 k x0 x1 x2 (wrap64 (x7 + 1)))) else (none)) else (none)) else (some (-1))
def estoversref11_completed.f (k : Nat) (l0 : List (S38)) (a1 : Int) (a2 : Int) : Option (Int) := estoversref11_completed.l0 k l0 a1 a2 0
theorem estoversref11_completed.mono_l : ∀ k, (∀ y0 y1 y2 y3, LeO (estoversref11_completed.l0 k y0 y1 y2 y3) (estoversref11_completed.l0 (k + 1) y0 y1 y2 y3))
  | 0 => fun _ _ _ _ r h => by simp [estoversref11_completed.l0] at h
  | k + 1 => by
    have ih0 := estoversref11_completed.mono_l k
    · intro y0 y1 y2 y3
      unfold estoversref11_completed.l0
      repeat' first
      | (with_reducible exact ih0 _ _ _ _)
      | (with_reducible exact LeO.refl _)
      | (with_reducible exact LeO.none _)
      | (with_reducible refine LeO.ite ?_ ?_)
      | (with_reducible refine LeO.bind ?_ (fun _ => ?_))
      | exact ih0 _ _ _ _
      | exact LeO.none _
      | refine LeO.ite ?_ ?_
      | refine LeO.bind ?_ (fun _ => ?_)
theorem estoversref11_completed.mono : ∀ a0 a1 a2 k, LeO (estoversref11_completed.f k a0 a1 a2) (estoversref11_completed.f (k + 1) a0 a1 a2) := by
  intro a0 a1 a2 k
  have ih0 := estoversref11_completed.mono_l k
  unfold estoversref11_completed.f
  repeat' first
      | (with_reducible exact ih0 _ _ _ _)
      | (with_reducible exact LeO.refl _)
      | (with_reducible exact LeO.none _)
      | (with_reducible refine LeO.ite ?_ ?_)
      | (with_reducible refine LeO.bind ?_ (fun _ => ?_))
      | exact ih0 _ _ _ _
      | exact LeO.none _
      | refine LeO.ite ?_ ?_
      | refine LeO.bind ?_ (fun _ => ?_)
set_option maxHeartbeats 8000000 in
set_option maxRecDepth 100000 in
theorem estoversref11_completed.calls (k : Nat) (A0 : Option Addr) (c0 : Nat) (l0 : List (S38)) (a1 : Int) (a2 : Int) (r : Int) (w : World) (hr0 : Kd.C k38 w A0 l0.length l0) (hc0 : l0.length ≤ c0) (h : estoversref11_completed.f k l0 a1 a2 = some r) :
    Calls Try.prog 40 #[.slice A0 l0.length c0, .int .i64 a1, .int .i64 a2] w fun e w' => e = .returned (.int .i64 r) ∧ Drawn0 w w' := by
  have HR0 := Aside0.mk hr0
  have HC0 := Aside0.mk hc0
  clear hr0 hc0
  have H : (estoversref11_completed.l0 k l0 a1 a2 0) = some r := h
  clear h
  have H' := Aside0.mk H
  clear H
  go_enter Try.func40, Try.ntmps40
  go_wp2
  go_loopg [7] k (fun kq v7 w' => ∃ (x7_1 : Int), v7 = .int .i64 x7_1 ∧ Aside0 (estoversref11_completed.l0 kq l0 a1 a2 x7_1 = some r) ∧ Aside0 (kq ≤ k) ∧ Drawn0 w w')
  case atStart => exact ⟨(0), (by first | rfl | (simp; done) | (simp [*]; done)), H', ⟨Nat.le_refl _⟩, by repeat (first | exact Drawn0.refl _ | apply Drawn0.step)⟩
  case round =>
    clear H'
    try clear p2
    obtain ⟨x7_1, rfl, HA, HK1, ⟨m1, rfl⟩⟩ := hrel
    cases gk with
    | zero => exact absurd HA.out (by simp [estoversref11_completed.l0])
    | succ k1 =>
      have H := HA.out
      clear HA
      simp only [estoversref11_completed.l0] at H
      by_cases c4 : x7_1 < a1
      · rw [if_pos c4] at H
        have c4b0 : decide (x7_1 < a1) = true := decide_eq_true c4
        clear c4
        by_cases c5 : 0 ≤ x7_1
        · rw [if_pos c5] at H
          have c5b0 : decide (0 ≤ x7_1) = true := decide_eq_true c5
          clear c5
          by_cases c6 : x7_1 < (l0.length : Int)
          · rw [if_pos c6] at H
            have c6b0 : decide (x7_1 < (l0.length : Int)) = true := decide_eq_true c6
            clear c6
            by_cases c7 : ((rd_T38 l0 x7_1).f0) = 2
            · rw [if_pos c7] at H
              have c7b0 : (((rd_T38 l0 x7_1).f0) == 2) = true := beq_iff_eq.mpr c7
              have c7b1 : (((rd_T38 l0 x7_1).f0) != 2) = false := bne_eq_false_iff_eq.mpr c7
              clear c7
              by_cases c8 : ((rd_T38 l0 x7_1).f1) = a2
              · rw [if_pos c8] at H
                have c8b0 : (((rd_T38 l0 x7_1).f1) == a2) = true := beq_iff_eq.mpr c8
                have c8b1 : (((rd_T38 l0 x7_1).f1) != a2) = false := bne_eq_false_iff_eq.mpr c8
                clear c8
                obtain rfl := Option.some.inj H
                have p195 : 0 ≤ (x7_1 : Int) := of_decide_eq_true (by first | (with_reducible assumption) | assumption)
                have q195 : x7_1 < (l0.length : Int) := of_decide_eq_true (by first | (with_reducible assumption) | assumption)
                obtain ⟨ad195, A195_3, c195_3, e195, hx195_0, hx195_1, hx195_2, hx195_3, hl195_3, hi195_3⟩ := at_T38 HR0.out x7_1 p195 q195
                cases e195
                have HR195_3 := Aside0.mk hi195_3
                have HC195_3 := Aside0.mk hl195_3
                clear hi195_3 hl195_3
                replace p195 := eq_true p195
                replace q195 := eq_true q195
                have p196 : 0 ≤ (x7_1 : Int) := of_decide_eq_true (by first | (with_reducible assumption) | assumption)
                have q196 : x7_1 < (l0.length : Int) := of_decide_eq_true (by first | (with_reducible assumption) | assumption)
                obtain ⟨ad196, A196_3, c196_3, e196, hx196_0, hx196_1, hx196_2, hx196_3, hl196_3, hi196_3⟩ := at_T38 HR0.out x7_1 p196 q196
                obtain rfl : ad195 = ad196 := (by injection e196)
                have HR196_3 := Aside0.mk hi196_3
                have HC196_3 := Aside0.mk hl196_3
                clear hi196_3 hl196_3
                replace p196 := eq_true p196
                replace q196 := eq_true q196
                have ea_ := Option.some.inj (hx195_3.symm.trans hx196_3)
                injection ea_ with ea_ en_ ec_
                subst ea_
                subst ec_
                clear en_
                go_wp2
                go_ret
                exact ⟨by first | rfl | (simp; done) | (simp [*]; done), by repeat (first | exact Drawn0.refl _ | apply Drawn0.step)⟩
              · rw [if_neg c8] at H
                have c8b0 : (((rd_T38 l0 x7_1).f1) == a2) = false := beq_eq_false_iff_ne.mpr c8
                have c8b1 : (((rd_T38 l0 x7_1).f1) != a2) = true := bne_iff_ne.mpr c8
                have H' := Aside0.mk H
                clear H
                have p195 : 0 ≤ (x7_1 : Int) := of_decide_eq_true (by first | (with_reducible assumption) | assumption)
                have q195 : x7_1 < (l0.length : Int) := of_decide_eq_true (by first | (with_reducible assumption) | assumption)
                obtain ⟨ad195, A195_3, c195_3, e195, hx195_0, hx195_1, hx195_2, hx195_3, hl195_3, hi195_3⟩ := at_T38 HR0.out x7_1 p195 q195
                cases e195
                have HR195_3 := Aside0.mk hi195_3
                have HC195_3 := Aside0.mk hl195_3
                clear hi195_3 hl195_3
                replace p195 := eq_true p195
                replace q195 := eq_true q195
                have p196 : 0 ≤ (x7_1 : Int) := of_decide_eq_true (by first | (with_reducible assumption) | assumption)
                have q196 : x7_1 < (l0.length : Int) := of_decide_eq_true (by first | (with_reducible assumption) | assumption)
                obtain ⟨ad196, A196_3, c196_3, e196, hx196_0, hx196_1, hx196_2, hx196_3, hl196_3, hi196_3⟩ := at_T38 HR0.out x7_1 p196 q196
                obtain rfl : ad195 = ad196 := (by injection e196)
                have HR196_3 := Aside0.mk hi196_3
                have HC196_3 := Aside0.mk hl196_3
                clear hi196_3 hl196_3
                replace p196 := eq_true p196
                replace q196 := eq_true q196
                have ea_ := Option.some.inj (hx195_3.symm.trans hx196_3)
                injection ea_ with ea_ en_ ec_
                subst ea_
                subst ec_
                clear en_
                go_wp2
                go_roundg k1
                case measure => have := HK1.out; omega
                case rel => exact ⟨(wrap64 (x7_1 + 1)), (by first | rfl | (simp; done) | (simp [*]; done)), H', ⟨by have := HK1.out; omega⟩, by repeat (first | exact Drawn0.refl _ | apply Drawn0.step)⟩
            · rw [if_neg c7] at H
              have c7b0 : (((rd_T38 l0 x7_1).f0) == 2) = false := beq_eq_false_iff_ne.mpr c7
              have c7b1 : (((rd_T38 l0 x7_1).f0) != 2) = true := bne_iff_ne.mpr c7
              have H' := Aside0.mk H
              clear H
              have p195 : 0 ≤ (x7_1 : Int) := of_decide_eq_true (by first | (with_reducible assumption) | assumption)
              have q195 : x7_1 < (l0.length : Int) := of_decide_eq_true (by first | (with_reducible assumption) | assumption)
              obtain ⟨ad195, A195_3, c195_3, e195, hx195_0, hx195_1, hx195_2, hx195_3, hl195_3, hi195_3⟩ := at_T38 HR0.out x7_1 p195 q195
              cases e195
              have HR195_3 := Aside0.mk hi195_3
              have HC195_3 := Aside0.mk hl195_3
              clear hi195_3 hl195_3
              replace p195 := eq_true p195
              replace q195 := eq_true q195
              go_wp2
              go_roundg k1
              case measure => have := HK1.out; omega
              case rel => exact ⟨(wrap64 (x7_1 + 1)), (by first | rfl | (simp; done) | (simp [*]; done)), H', ⟨by have := HK1.out; omega⟩, by repeat (first | exact Drawn0.refl _ | apply Drawn0.step)⟩
          · rw [if_neg c6] at H
            exact absurd H (by simp)
        · rw [if_neg c5] at H
          exact absurd H (by simp)
      · rw [if_neg c4] at H
        have c4b0 : decide (x7_1 < a1) = false := decide_eq_false c4
        clear c4
        obtain rfl := Option.some.inj H
        go_wp2
        go_ret
        exact ⟨by first | rfl | (simp; done) | (simp [*]; done), by repeat (first | exact Drawn0.refl _ | apply Drawn0.step)⟩

end Go.Proofs.Ytghmkmpgfpkfmaa.X
