-- Written for this claim by a program of this session (wip/px.py) with the kit's print; the contracts of GIVEN functions are proved by hand.
import Derived.Test.YtollapjmibkpfaaX0
namespace Go.Proofs.Ytollapjmibkpfaa.X
open Go.RowKit Go.Proofs.YtollapjmibkpfaaW.PrintWords Go.Proofs.YtollapjmibkpfaaW.PrintLast Go.Proofs.YtollapjmibkpfaaW.PrintMore
attribute [local go_sem] max2_int min2_int max_two min_two max_three min_three max_four min_four   -- for this text's walks alone
set_option linter.unusedVariables false
set_option linter.unusedSimpArgs false

/-! ### estoversref40_Count: function 44 -/
def estoversref40_Count.l0 : Nat → List Int → Int → Int → Int → Int → Option (Int)
  | 0, _, _, _, _, _ => none
  | k + 1, x0, x2, x3, x9, x10 => if x10 < x2 then (if 0 ≤ x10 then (if x10 < (x0.length : Int) then (if (rd x0 x10) = x3 then (estoversref40_Count.l0 k x0 x2 x3 (wrap64 (x9 + 1)) (wrap64 (x10 + 1))) else (estoversref40_Count.l0 k x0 x2 x3 x9 (wrap64 (x10 + 1)))) else (none)) else (none)) else (some x9)
def estoversref40_Count.f (k : Nat) (l0 : List Int) (a1 : Int) (a2 : Int) (a3 : Int) : Option (Int) := estoversref40_Count.l0 k l0 a2 a3 0 a1
theorem estoversref40_Count.mono_l : ∀ k, (∀ y0 y1 y2 y3 y4, LeO (estoversref40_Count.l0 k y0 y1 y2 y3 y4) (estoversref40_Count.l0 (k + 1) y0 y1 y2 y3 y4))
  | 0 => fun _ _ _ _ _ r h => by simp [estoversref40_Count.l0] at h
  | k + 1 => by
    have ih0 := estoversref40_Count.mono_l k
    · intro y0 y1 y2 y3 y4
      unfold estoversref40_Count.l0
      repeat' first
      | (with_reducible exact ih0 _ _ _ _ _)
      | (with_reducible exact LeO.refl _)
      | (with_reducible exact LeO.none _)
      | (with_reducible refine LeO.ite ?_ ?_)
      | (with_reducible refine LeO.bind ?_ (fun _ => ?_))
      | exact ih0 _ _ _ _ _
      | exact LeO.none _
      | refine LeO.ite ?_ ?_
      | refine LeO.bind ?_ (fun _ => ?_)
theorem estoversref40_Count.mono : ∀ a0 a1 a2 a3 k, LeO (estoversref40_Count.f k a0 a1 a2 a3) (estoversref40_Count.f (k + 1) a0 a1 a2 a3) := by
  intro a0 a1 a2 a3 k
  have ih0 := estoversref40_Count.mono_l k
  unfold estoversref40_Count.f
  repeat' first
      | (with_reducible exact ih0 _ _ _ _ _)
      | (with_reducible exact LeO.refl _)
      | (with_reducible exact LeO.none _)
      | (with_reducible refine LeO.ite ?_ ?_)
      | (with_reducible refine LeO.bind ?_ (fun _ => ?_))
      | exact ih0 _ _ _ _ _
      | exact LeO.none _
      | refine LeO.ite ?_ ?_
      | refine LeO.bind ?_ (fun _ => ?_)
set_option maxHeartbeats 8000000 in
set_option maxRecDepth 100000 in
theorem estoversref40_Count.calls (k : Nat) (A0 : Option Addr) (c0 : Nat) (l0 : List Int) (a1 : Int) (a2 : Int) (a3 : Int) (r : Int) (w : World) (hr0 : Kd.C (Kd.int .i64) w A0 l0.length l0) (hc0 : l0.length ≤ c0) (h : estoversref40_Count.f k l0 a1 a2 a3 = some r) :
    Calls Try.prog 44 #[.slice A0 l0.length c0, .int .i64 a1, .int .i64 a2, .int .i64 a3] w fun e w' => e = .returned (.int .i64 r) ∧ Drawn0 w w' := by
  have HR0 := Aside0.mk hr0
  have HC0 := Aside0.mk hc0
  clear hr0 hc0
  have H : (estoversref40_Count.l0 k l0 a2 a3 0 a1) = some r := h
  clear h
  have H' := Aside0.mk H
  clear H
  go_enter Try.func44, Try.ntmps44
  go_wp2
  go_loopg [9, 10] k (fun kq v9 v10 w' => ∃ (x9_1 : Int) (x10_1 : Int), v9 = .int .i64 x9_1 ∧ v10 = .int .i64 x10_1 ∧ Aside0 (estoversref40_Count.l0 kq l0 a2 a3 x9_1 x10_1 = some r) ∧ Aside0 (kq ≤ k) ∧ Drawn0 w w')
  case atStart => exact ⟨(0), (a1), (by first | rfl | (simp; done) | (simp [*]; done)), (by first | rfl | (simp; done) | (simp [*]; done)), H', ⟨Nat.le_refl _⟩, by repeat (first | exact Drawn0.refl _ | apply Drawn0.step)⟩
  case round =>
    clear H'
    try clear p2
    try clear c4
    obtain ⟨x9_1, x10_1, rfl, rfl, HA, HK1, ⟨m1, rfl⟩⟩ := hrel
    cases gk with
    | zero => exact absurd HA.out (by simp [estoversref40_Count.l0])
    | succ k1 =>
      have H := HA.out
      clear HA
      simp only [estoversref40_Count.l0] at H
      by_cases c5 : x10_1 < a2
      · rw [if_pos c5] at H
        have c5b0 : decide (x10_1 < a2) = true := decide_eq_true c5
        clear c5
        by_cases c6 : 0 ≤ x10_1
        · rw [if_pos c6] at H
          have c6b0 : decide (0 ≤ x10_1) = true := decide_eq_true c6
          clear c6
          by_cases c7 : x10_1 < (l0.length : Int)
          · rw [if_pos c7] at H
            have c7b0 : decide (x10_1 < (l0.length : Int)) = true := decide_eq_true c7
            clear c7
            by_cases c8 : (rd l0 x10_1) = a3
            · rw [if_pos c8] at H
              have c8b0 : ((rd l0 x10_1) == a3) = true := beq_iff_eq.mpr c8
              have c8b1 : ((rd l0 x10_1) != a3) = false := bne_eq_false_iff_eq.mpr c8
              clear c8
              have H' := Aside0.mk H
              clear H
              have p190 : 0 ≤ (x10_1 : Int) := of_decide_eq_true (by first | (with_reducible assumption) | assumption)
              have q190 : x10_1 < (l0.length : Int) := of_decide_eq_true (by first | (with_reducible assumption) | assumption)
              obtain ⟨ad190, e190, hx190_0⟩ := Kd.at_int HR0.out x10_1 p190 q190
              cases e190
              replace p190 := eq_true p190
              replace q190 := eq_true q190
              go_wp2
              go_roundg k1
              case measure => have := HK1.out; omega
              case rel => exact ⟨(wrap64 (x9_1 + 1)), (wrap64 (x10_1 + 1)), (by first | rfl | (simp; done) | (simp [*]; done)), (by first | rfl | (simp; done) | (simp [*]; done)), H', ⟨by have := HK1.out; omega⟩, by repeat (first | exact Drawn0.refl _ | apply Drawn0.step)⟩
            · rw [if_neg c8] at H
              have c8b0 : ((rd l0 x10_1) == a3) = false := beq_eq_false_iff_ne.mpr c8
              have c8b1 : ((rd l0 x10_1) != a3) = true := bne_iff_ne.mpr c8
              have H' := Aside0.mk H
              clear H
              have p190 : 0 ≤ (x10_1 : Int) := of_decide_eq_true (by first | (with_reducible assumption) | assumption)
              have q190 : x10_1 < (l0.length : Int) := of_decide_eq_true (by first | (with_reducible assumption) | assumption)
              obtain ⟨ad190, e190, hx190_0⟩ := Kd.at_int HR0.out x10_1 p190 q190
              cases e190
              replace p190 := eq_true p190
              replace q190 := eq_true q190
              go_wp2
              go_roundg k1
              case measure => have := HK1.out; omega
              case rel => exact ⟨(x9_1), (wrap64 (x10_1 + 1)), (by first | rfl | (simp; done) | (simp [*]; done)), (by first | rfl | (simp; done) | (simp [*]; done)), H', ⟨by have := HK1.out; omega⟩, by repeat (first | exact Drawn0.refl _ | apply Drawn0.step)⟩
          · rw [if_neg c7] at H
            exact absurd H (by simp)
        · rw [if_neg c6] at H
          exact absurd H (by simp)
      · rw [if_neg c5] at H
        have c5b0 : decide (x10_1 < a2) = false := decide_eq_false c5
        clear c5
        obtain rfl := Option.some.inj H
        go_wp2
        go_ret
        exact ⟨by first | rfl | (simp; done) | (simp [*]; done), by repeat (first | exact Drawn0.refl _ | apply Drawn0.step)⟩

end Go.Proofs.Ytollapjmibkpfaa.X
