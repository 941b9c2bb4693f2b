-- Written for this claim by a program of this session (wip/px.py) with the kit's print; the contracts of GIVEN functions are proved by hand.
import Derived.Test.YtghmkmpgfpkfmaaX0
import Derived.Test.YtghmkmpgfpkfmaaX24
import Derived.Test.YtghmkmpgfpkfmaaX25
import Derived.Test.YtghmkmpgfpkfmaaX27
namespace Go.Proofs.Ytghmkmpgfpkfmaa.X
open Go.RowKit Go.Proofs.YtghmkmpgfpkfmaaW.PrintWords Go.Proofs.YtghmkmpgfpkfmaaW.PrintLast Go.Proofs.YtghmkmpgfpkfmaaW.PrintMore
attribute [local go_sem] max2_int min2_int max_two min_two max_three min_three max_four min_four   -- for this text's walks alone
set_option linter.unusedVariables false
set_option linter.unusedSimpArgs false

/-! ### estoversref11_Ordered: function 20 -/
mutual
def estoversref11_Ordered.j0 : Nat → List (S38) → Int → Int → Int → Bool → Option (Bool × Int)
  | 0, _, _, _, _, _ => none
  | k + 1, x1, x2, x11, x12, x35 => if x35 = true then (some (false, 6)) else ((estoversref11_completed.f k x1 x11 x2).bind fun t285 => (if t285 < 0 then (some (false, 0)) else (estoversref11_Ordered.l0 k x1 x12 t285)))
def estoversref11_Ordered.l0 : Nat → List (S38) → Int → Int → Option (Bool × Int)
  | 0, _, _, _ => none
  | k + 1, x1, x12, x14 => if x14 < x12 then (if 0 ≤ x14 then (if x14 < (x1.length : Int) then (if ((rd_T38 x1 x14).f0) = 3 then (some (true, 0)) else (estoversref11_Ordered.l0 k x1 x12 (wrap64 (x14 + 1)))) else (none)) else (none)) else (some (false, 0))
end
def estoversref11_Ordered.f (k : Nat) (l0 : List (List Int)) (l1 : List (S38)) (a2 : Int) (a3 : Int) : Option (Bool × Int) := (estoversref11_Check.f k l0 l1).bind fun t282 => (if t282 = 0 then ((estoversref11_submitted.f k l1 (l1.length : Int) a3).bind fun t283 => ((estoversref11_submitted.f k l1 (l1.length : Int) a2).bind fun t284 => (if t284 < 0 then (estoversref11_Ordered.j0 k l1 a2 (l1.length : Int) t283 true) else (estoversref11_Ordered.j0 k l1 a2 (l1.length : Int) t283 (decide (t283 < 0)))))) else (some (false, t282)))
theorem estoversref11_Ordered.mono_l : ∀ k, (∀ y0 y1 y2 y3 y4, LeO (estoversref11_Ordered.j0 k y0 y1 y2 y3 y4) (estoversref11_Ordered.j0 (k + 1) y0 y1 y2 y3 y4)) ∧ (∀ y0 y1 y2, LeO (estoversref11_Ordered.l0 k y0 y1 y2) (estoversref11_Ordered.l0 (k + 1) y0 y1 y2))
  | 0 => ⟨fun _ _ _ _ _ r h => by simp [estoversref11_Ordered.j0] at h, fun _ _ _ r h => by simp [estoversref11_Ordered.l0] at h⟩
  | k + 1 => by
    obtain ⟨ih0, ih1⟩ := estoversref11_Ordered.mono_l k
    refine ⟨?_, ?_⟩
    · intro y0 y1 y2 y3 y4
      unfold estoversref11_Ordered.j0
      repeat' first
      | (with_reducible exact ih0 _ _ _ _ _)
      | (with_reducible exact ih1 _ _ _)
      | (with_reducible exact estoversref11_Check.mono _ _ _)
      | (with_reducible exact estoversref11_completed.mono _ _ _ _)
      | (with_reducible exact estoversref11_submitted.mono _ _ _ _)
      | (with_reducible exact LeO.refl _)
      | (with_reducible exact LeO.none _)
      | (with_reducible refine LeO.ite ?_ ?_)
      | (with_reducible refine LeO.bind ?_ (fun _ => ?_))
      | exact ih0 _ _ _ _ _
      | exact ih1 _ _ _
      | exact estoversref11_Check.mono _ _ _
      | exact estoversref11_completed.mono _ _ _ _
      | exact estoversref11_submitted.mono _ _ _ _
      | exact LeO.none _
      | refine LeO.ite ?_ ?_
      | refine LeO.bind ?_ (fun _ => ?_)
    · intro y0 y1 y2
      unfold estoversref11_Ordered.l0
      repeat' first
      | (with_reducible exact ih0 _ _ _ _ _)
      | (with_reducible exact ih1 _ _ _)
      | (with_reducible exact estoversref11_Check.mono _ _ _)
      | (with_reducible exact estoversref11_completed.mono _ _ _ _)
      | (with_reducible exact estoversref11_submitted.mono _ _ _ _)
      | (with_reducible exact LeO.refl _)
      | (with_reducible exact LeO.none _)
      | (with_reducible refine LeO.ite ?_ ?_)
      | (with_reducible refine LeO.bind ?_ (fun _ => ?_))
      | exact ih0 _ _ _ _ _
      | exact ih1 _ _ _
      | exact estoversref11_Check.mono _ _ _
      | exact estoversref11_completed.mono _ _ _ _
      | exact estoversref11_submitted.mono _ _ _ _
      | exact LeO.none _
      | refine LeO.ite ?_ ?_
      | refine LeO.bind ?_ (fun _ => ?_)
theorem estoversref11_Ordered.mono : ∀ a0 a1 a2 a3 k, LeO (estoversref11_Ordered.f k a0 a1 a2 a3) (estoversref11_Ordered.f (k + 1) a0 a1 a2 a3) := by
  intro a0 a1 a2 a3 k
  obtain ⟨ih0, ih1⟩ := estoversref11_Ordered.mono_l k
  unfold estoversref11_Ordered.f
  repeat' first
      | (with_reducible exact ih0 _ _ _ _ _)
      | (with_reducible exact ih1 _ _ _)
      | (with_reducible exact estoversref11_Check.mono _ _ _)
      | (with_reducible exact estoversref11_completed.mono _ _ _ _)
      | (with_reducible exact estoversref11_submitted.mono _ _ _ _)
      | (with_reducible exact LeO.refl _)
      | (with_reducible exact LeO.none _)
      | (with_reducible refine LeO.ite ?_ ?_)
      | (with_reducible refine LeO.bind ?_ (fun _ => ?_))
      | exact ih0 _ _ _ _ _
      | exact ih1 _ _ _
      | exact estoversref11_Check.mono _ _ _
      | exact estoversref11_completed.mono _ _ _ _
      | exact estoversref11_submitted.mono _ _ _ _
      | exact LeO.none _
      | refine LeO.ite ?_ ?_
      | refine LeO.bind ?_ (fun _ => ?_)
set_option maxHeartbeats 8000000 in
set_option maxRecDepth 100000 in
theorem estoversref11_Ordered.calls (k : Nat) (A0 : Option Addr) (c0 : Nat) (l0 : List (List Int)) (A1 : Option Addr) (c1 : Nat) (l1 : List (S38)) (a2 : Int) (a3 : Int) (r1 : Bool) (r2 : Int) (w : World) (hr0 : Kd.C (Kd.slice 5 (Kd.int .u8)) w A0 l0.length l0) (hc0 : l0.length ≤ c0) (hr1 : Kd.C k38 w A1 l1.length l1) (hc1 : l1.length ≤ c1) (h : estoversref11_Ordered.f k l0 l1 a2 a3 = some (r1, r2)) :
    Calls Try.prog 20 #[.slice A0 l0.length c0, .slice A1 l1.length c1, .int .i64 a2, .int .i64 a3] w fun e w' => e = .returned (.tuple #[.bool r1, .int .i64 r2]) ∧ Below w.heap.size w w' := by
  have HR0 := Aside0.mk hr0
  have HC0 := Aside0.mk hc0
  clear hr0 hc0
  have HR1 := Aside0.mk hr1
  have HC1 := Aside0.mk hc1
  clear hr1 hc1
  have HB := Aside0.mk (Below.refl w.heap.size w)
  have H : ((estoversref11_Check.f k l0 l1).bind fun t282 => (if t282 = 0 then ((estoversref11_submitted.f k l1 (l1.length : Int) a3).bind fun t283 => ((estoversref11_submitted.f k l1 (l1.length : Int) a2).bind fun t284 => (if t284 < 0 then (estoversref11_Ordered.j0 k l1 a2 (l1.length : Int) t283 true) else (estoversref11_Ordered.j0 k l1 a2 (l1.length : Int) t283 (decide (t283 < 0)))))) else (some (false, t282)))) = some (r1, r2) := h
  clear h
  replace H := Option.bind_eq_some_iff.mp H
  obtain ⟨t282, A50, H⟩ := H
  replace H : (if t282 = 0 then ((estoversref11_submitted.f k l1 (l1.length : Int) a3).bind fun t283 => ((estoversref11_submitted.f k l1 (l1.length : Int) a2).bind fun t284 => (if t284 < 0 then (estoversref11_Ordered.j0 k l1 a2 (l1.length : Int) t283 true) else (estoversref11_Ordered.j0 k l1 a2 (l1.length : Int) t283 (decide (t283 < 0)))))) else (some (false, t282))) = some (r1, r2) := H
  have A5 := Aside0.mk A50
  clear A50
  by_cases c6 : t282 = 0
  · rw [if_pos c6] at H
    have c6b0 : (t282 == 0) = true := beq_iff_eq.mpr c6
    have c6b1 : (t282 != 0) = false := bne_eq_false_iff_eq.mpr c6
    clear c6
    replace H := Option.bind_eq_some_iff.mp H
    obtain ⟨t283, A70, H⟩ := H
    replace H : ((estoversref11_submitted.f k l1 (l1.length : Int) a2).bind fun t284 => (if t284 < 0 then (estoversref11_Ordered.j0 k l1 a2 (l1.length : Int) t283 true) else (estoversref11_Ordered.j0 k l1 a2 (l1.length : Int) t283 (decide (t283 < 0))))) = some (r1, r2) := H
    have A7 := Aside0.mk A70
    clear A70
    have HC8 := Aside0.mk H
    clear H
    go_enter Try.func20, Try.ntmps20
    go_upto_region 6 with (first | ((with_reducible refine gate_callee (f := 15) rfl ?_); refine goesL_ (some 17) rfl rfl Try.func15 (by kernel_rfl) rfl #[.slice A0 l0.length c0, .slice A1 l1.length c1] rfl (by (try simp only [List.map_toArray, List.map_cons, List.map_nil]); first | done | rfl | (simp only [List.length_drop, List.length_take]; rfl)) ?_; (with_reducible refine (estoversref11_Check.calls k _ _ l0 _ _ l1 t282 _ ?side1 ?side2 ?side3 ?side4 A5.out).mono ?_); (case side1 => repeat (first | exact HR0.out | (with_reducible refine Kd.C_alloc ?_ _) | (with_reducible refine Kd.C_drewN ?_ _) | (with_reducible refine Kd.C_drew ?_))); (case side2 => exact HC0.out); (case side3 => repeat (first | exact HR1.out | (with_reducible refine Kd.C_alloc ?_ _) | (with_reducible refine Kd.C_drewN ?_ _) | (with_reducible refine Kd.C_drew ?_))); (case side4 => exact HC1.out); rintro e w9 ⟨rfl, hb⟩; refine ⟨_, rfl, ?_⟩; have n0_ := Aside0.mk (below_step (by repeat (first | (with_reducible first | exact HB.out | apply below_alloc | apply pw_below_drewN | apply below_drew1) | exact HB.out)) hb); clear HB; have HB := n0_; clear n0_; (try clear hb); (try clear hb2); (try clear hk); (try clear hi)) | ((with_reducible refine gate_callee (f := 39) rfl ?_); refine goesL_ (some 26) rfl rfl Try.func39 (by kernel_rfl) rfl #[.slice A1 l1.length c1, .int .i64 (l1.length : Int), .int .i64 a3] rfl (by (try simp only [List.map_toArray, List.map_cons, List.map_nil]); first | done | rfl | (simp only [List.length_drop, List.length_take]; rfl)) ?_; (with_reducible refine (estoversref11_submitted.calls k _ _ l1 (l1.length : Int) a3 t283 _ ?side1 ?side2 A7.out).mono ?_); (case side1 => repeat (first | exact (Kd.C_below HR1.out HB.out) | (with_reducible refine Kd.C_alloc ?_ _) | (with_reducible refine Kd.C_drewN ?_ _) | (with_reducible refine Kd.C_drew ?_))); (case side2 => exact HC1.out); rintro e w' ⟨rfl, ⟨nd, rfl⟩⟩; refine ⟨_, rfl, ?_⟩))
    (try simp only [Act.put, List.setIfInBounds_toArray, List.set_cons_zero, List.set_cons_succ])
    go_cut [35] (fun v35 wc => ∃ (kq : Nat) (x35_7 : Bool), v35 = .bool x35_7 ∧ Aside0 (estoversref11_Ordered.j0 kq l1 a2 (l1.length : Int) t283 x35_7 = some (r1, r2)) ∧ Aside0 (kq ≤ k) ∧ Aside0 (Below w.heap.size w wc))
    case first =>
      have H := HC8.out
      clear HC8
      replace H := Option.bind_eq_some_iff.mp H
      obtain ⟨t284, A100, H⟩ := H
      replace H : (if t284 < 0 then (estoversref11_Ordered.j0 k l1 a2 (l1.length : Int) t283 true) else (estoversref11_Ordered.j0 k l1 a2 (l1.length : Int) t283 (decide (t283 < 0)))) = some (r1, r2) := H
      have A10 := Aside0.mk A100
      clear A100
      by_cases c11 : t284 < 0
      · rw [if_pos c11] at H
        have c11b0 : decide (t284 < 0) = true := decide_eq_true c11
        clear c11
        (first | rw [c11b0] | (simp only [i64_w, i32_w]; rw [c11b0]) | skip)
        have H' := Aside0.mk H
        clear H
        go_wp2_with (first | ((with_reducible refine gate_callee (f := 39) rfl ?_); refine goesL_ (some 30) rfl rfl Try.func39 (by kernel_rfl) rfl #[.slice A1 l1.length c1, .int .i64 (l1.length : Int), .int .i64 a2] rfl (by (try simp only [List.map_toArray, List.map_cons, List.map_nil]); first | done | rfl | (simp only [List.length_drop, List.length_take]; rfl)) ?_; (with_reducible refine (estoversref11_submitted.calls k _ _ l1 (l1.length : Int) a2 t284 _ ?side1 ?side2 A10.out).mono ?_); (case side1 => repeat (first | exact (Kd.C_below HR1.out HB.out) | (with_reducible refine Kd.C_alloc ?_ _) | (with_reducible refine Kd.C_drewN ?_ _) | (with_reducible refine Kd.C_drew ?_))); (case side2 => exact HC1.out); rintro e w' ⟨rfl, ⟨nd, rfl⟩⟩; refine ⟨_, rfl, ?_⟩))
        go_meet
        case rel => exact ⟨_, (true), (by first | rfl | (simp; done) | (simp [*]; done)), H', ⟨by first | omega | exact Nat.le_refl _⟩, ⟨by repeat (first | (with_reducible first | exact HB.out | apply below_alloc | apply pw_below_drewN | apply below_drew1) | exact HB.out)⟩⟩
      · rw [if_neg c11] at H
        have c11b0 : decide (t284 < 0) = false := decide_eq_false c11
        clear c11
        (first | rw [c11b0] | (simp only [i64_w, i32_w]; rw [c11b0]) | skip)
        have H' := Aside0.mk H
        clear H
        go_wp2_with (first | ((with_reducible refine gate_callee (f := 39) rfl ?_); refine goesL_ (some 30) rfl rfl Try.func39 (by kernel_rfl) rfl #[.slice A1 l1.length c1, .int .i64 (l1.length : Int), .int .i64 a2] rfl (by (try simp only [List.map_toArray, List.map_cons, List.map_nil]); first | done | rfl | (simp only [List.length_drop, List.length_take]; rfl)) ?_; (with_reducible refine (estoversref11_submitted.calls k _ _ l1 (l1.length : Int) a2 t284 _ ?side1 ?side2 A10.out).mono ?_); (case side1 => repeat (first | exact (Kd.C_below HR1.out HB.out) | (with_reducible refine Kd.C_alloc ?_ _) | (with_reducible refine Kd.C_drewN ?_ _) | (with_reducible refine Kd.C_drew ?_))); (case side2 => exact HC1.out); rintro e w' ⟨rfl, ⟨nd, rfl⟩⟩; refine ⟨_, rfl, ?_⟩))
        go_meet
        case rel => exact ⟨_, (decide (t283 < 0)), (by first | rfl | (simp; done) | (simp [*]; done)), H', ⟨by first | omega | exact Nat.le_refl _⟩, ⟨by repeat (first | (with_reducible first | exact HB.out | apply below_alloc | apply pw_below_drewN | apply below_drew1) | exact HB.out)⟩⟩
    case rest =>
      clear HC8
      try clear c1
      try clear c2
      try clear p2
      try clear c3
      try clear c6
      try clear c6b0
      try clear c6b1
      try clear c11
      try clear c11b0
      obtain ⟨kq, x35_7, rfl, HA, HJ7, HB⟩ := hcut
      cases kq with
      | zero => exact absurd HA.out (by simp [estoversref11_Ordered.j0])
      | succ kj7 =>
        have H := HA.out
        clear HA
        simp only [estoversref11_Ordered.j0] at H
        by_cases c12 : x35_7 = true
        · subst c12
          have H1 : (some (false, 6)) = some (r1, r2) := by rw [if_pos rfl] at H; exact H
          clear H
          have H := H1
          clear H1
          simp only [Option.some.injEq, Prod.mk.injEq] at H
          obtain ⟨rfl, rfl⟩ := H
          go_wp2
          go_ret2
          exact ⟨by first | rfl | (simp [errW_none, errW_some] <;> rfl) | (simp [*, errW_none, errW_some] <;> rfl), by repeat (first | (with_reducible first | exact HB.out | apply below_alloc | apply pw_below_drewN | apply below_drew1) | exact HB.out)⟩
        · replace c12 := Bool.eq_false_iff.mpr c12
          subst c12
          have H1 : ((estoversref11_completed.f kj7 l1 (l1.length : Int) a2).bind fun t285 => (if t285 < 0 then (some (false, 0)) else (estoversref11_Ordered.l0 kj7 l1 t283 t285))) = some (r1, r2) := by rw [if_neg (show ¬ (false = true) by decide)] at H; exact H
          clear H
          have H := H1
          clear H1
          replace H := Option.bind_eq_some_iff.mp H
          obtain ⟨t285, A130, H⟩ := H
          replace H : (if t285 < 0 then (some (false, 0)) else (estoversref11_Ordered.l0 kj7 l1 t283 t285)) = some (r1, r2) := H
          have A13 := Aside0.mk A130
          clear A130
          by_cases c14 : t285 < 0
          · rw [if_pos c14] at H
            have c14b0 : decide (t285 < 0) = true := decide_eq_true c14
            clear c14
            simp only [Option.some.injEq, Prod.mk.injEq] at H
            obtain ⟨rfl, rfl⟩ := H
            go_wp2_with (first | ((with_reducible refine gate_callee (f := 40) rfl ?_); refine goesL_ (some 39) rfl rfl Try.func40 (by kernel_rfl) rfl #[.slice A1 l1.length c1, .int .i64 (l1.length : Int), .int .i64 a2] rfl (by (try simp only [List.map_toArray, List.map_cons, List.map_nil]); first | done | rfl | (simp only [List.length_drop, List.length_take]; rfl)) ?_; (with_reducible refine (estoversref11_completed.calls kj7 _ _ l1 (l1.length : Int) a2 t285 _ ?side1 ?side2 A13.out).mono ?_); (case side1 => repeat (first | exact (Kd.C_below HR1.out HB.out) | (with_reducible refine Kd.C_alloc ?_ _) | (with_reducible refine Kd.C_drewN ?_ _) | (with_reducible refine Kd.C_drew ?_))); (case side2 => exact HC1.out); rintro e w' ⟨rfl, ⟨nd, rfl⟩⟩; refine ⟨_, rfl, ?_⟩))
            go_ret2
            exact ⟨by first | rfl | (simp [errW_none, errW_some] <;> rfl) | (simp [*, errW_none, errW_some] <;> rfl), by repeat (first | (with_reducible first | exact HB.out | apply below_alloc | apply pw_below_drewN | apply below_drew1) | exact HB.out)⟩
          · rw [if_neg c14] at H
            have c14b0 : decide (t285 < 0) = false := decide_eq_false c14
            clear c14
            have H' := Aside0.mk H
            clear H
            go_wp2_with (first | ((with_reducible refine gate_callee (f := 40) rfl ?_); refine goesL_ (some 39) rfl rfl Try.func40 (by kernel_rfl) rfl #[.slice A1 l1.length c1, .int .i64 (l1.length : Int), .int .i64 a2] rfl (by (try simp only [List.map_toArray, List.map_cons, List.map_nil]); first | done | rfl | (simp only [List.length_drop, List.length_take]; rfl)) ?_; (with_reducible refine (estoversref11_completed.calls kj7 _ _ l1 (l1.length : Int) a2 t285 _ ?side1 ?side2 A13.out).mono ?_); (case side1 => repeat (first | exact (Kd.C_below HR1.out HB.out) | (with_reducible refine Kd.C_alloc ?_ _) | (with_reducible refine Kd.C_drewN ?_ _) | (with_reducible refine Kd.C_drew ?_))); (case side2 => exact HC1.out); rintro e w' ⟨rfl, ⟨nd, rfl⟩⟩; refine ⟨_, rfl, ?_⟩))
            go_loopg [14] kj7 (fun kq v14 w' => ∃ (x14_2 : Int), v14 = .int .i64 x14_2 ∧ Aside0 (estoversref11_Ordered.l0 kq l1 t283 x14_2 = some (r1, r2)) ∧ Aside0 (kq ≤ kj7) ∧ Aside0 (Below w.heap.size w w'))
            case atStart => exact ⟨(t285), (by first | rfl | (simp; done) | (simp [*]; done)), H', ⟨Nat.le_refl _⟩, ⟨by repeat (first | (with_reducible first | exact HB.out | apply below_alloc | apply pw_below_drewN | apply below_drew1) | exact HB.out)⟩⟩
            case round =>
              clear H'
              try clear c1
              try clear c2
              try clear p2
              try clear c3
              try clear c4
              try clear c6
              try clear c6b0
              try clear c6b1
              try clear c11
              try clear c11b0
              try clear c12
              try clear c14
              try clear c14b0
              try clear p2
              obtain ⟨x14_2, rfl, HA, HK2, HB⟩ := hrel
              cases gk with
              | zero => exact absurd HA.out (by simp [estoversref11_Ordered.l0])
              | succ k2 =>
                have H := HA.out
                clear HA
                simp only [estoversref11_Ordered.l0] at H
                by_cases c15 : x14_2 < t283
                · rw [if_pos c15] at H
                  have c15b0 : decide (x14_2 < t283) = true := decide_eq_true c15
                  clear c15
                  by_cases c16 : 0 ≤ x14_2
                  · rw [if_pos c16] at H
                    have c16b0 : decide (0 ≤ x14_2) = true := decide_eq_true c16
                    clear c16
                    by_cases c17 : x14_2 < (l1.length : Int)
                    · rw [if_pos c17] at H
                      have c17b0 : decide (x14_2 < (l1.length : Int)) = true := decide_eq_true c17
                      clear c17
                      by_cases c18 : ((rd_T38 l1 x14_2).f0) = 3
                      · rw [if_pos c18] at H
                        have c18b0 : (((rd_T38 l1 x14_2).f0) == 3) = true := beq_iff_eq.mpr c18
                        have c18b1 : (((rd_T38 l1 x14_2).f0) != 3) = false := bne_eq_false_iff_eq.mpr c18
                        clear c18
                        simp only [Option.some.injEq, Prod.mk.injEq] at H
                        obtain ⟨rfl, rfl⟩ := H
                        have p286 : 0 ≤ (x14_2 : Int) := of_decide_eq_true (by first | (with_reducible assumption) | assumption)
                        have q286 : x14_2 < (l1.length : Int) := of_decide_eq_true (by first | (with_reducible assumption) | assumption)
                        obtain ⟨ad286, A286_3, c286_3, e286, hx286_0, hx286_1, hx286_2, hx286_3, hl286_3, hi286_3⟩ := at_T38 HR1.out x14_2 p286 q286
                        cases e286
                        replace hx286_0 := (HB.out.cell (World.block_lt_of_cell? w _ hx286_0)).trans hx286_0
                        replace hx286_1 := (HB.out.cell (World.block_lt_of_cell? w _ hx286_1)).trans hx286_1
                        replace hx286_2 := (HB.out.cell (World.block_lt_of_cell? w _ hx286_2)).trans hx286_2
                        replace hx286_3 := (HB.out.cell (World.block_lt_of_cell? w _ hx286_3)).trans hx286_3
                        have HR286_3 := Aside0.mk hi286_3
                        have HC286_3 := Aside0.mk hl286_3
                        clear hi286_3 hl286_3
                        replace p286 := eq_true p286
                        replace q286 := eq_true q286
                        go_wp2
                        go_ret2
                        exact ⟨by first | rfl | (simp [errW_none, errW_some] <;> rfl) | (simp [*, errW_none, errW_some] <;> rfl), by repeat (first | (with_reducible first | exact HB.out | apply below_alloc | apply pw_below_drewN | apply below_drew1) | exact HB.out)⟩
                      · rw [if_neg c18] at H
                        have c18b0 : (((rd_T38 l1 x14_2).f0) == 3) = false := beq_eq_false_iff_ne.mpr c18
                        have c18b1 : (((rd_T38 l1 x14_2).f0) != 3) = true := bne_iff_ne.mpr c18
                        have H' := Aside0.mk H
                        clear H
                        have p286 : 0 ≤ (x14_2 : Int) := of_decide_eq_true (by first | (with_reducible assumption) | assumption)
                        have q286 : x14_2 < (l1.length : Int) := of_decide_eq_true (by first | (with_reducible assumption) | assumption)
                        obtain ⟨ad286, A286_3, c286_3, e286, hx286_0, hx286_1, hx286_2, hx286_3, hl286_3, hi286_3⟩ := at_T38 HR1.out x14_2 p286 q286
                        cases e286
                        replace hx286_0 := (HB.out.cell (World.block_lt_of_cell? w _ hx286_0)).trans hx286_0
                        replace hx286_1 := (HB.out.cell (World.block_lt_of_cell? w _ hx286_1)).trans hx286_1
                        replace hx286_2 := (HB.out.cell (World.block_lt_of_cell? w _ hx286_2)).trans hx286_2
                        replace hx286_3 := (HB.out.cell (World.block_lt_of_cell? w _ hx286_3)).trans hx286_3
                        have HR286_3 := Aside0.mk hi286_3
                        have HC286_3 := Aside0.mk hl286_3
                        clear hi286_3 hl286_3
                        replace p286 := eq_true p286
                        replace q286 := eq_true q286
                        go_wp2
                        go_roundg k2
                        case measure => have := HJ7.out; have := HK2.out; omega
                        case rel => exact ⟨(wrap64 (x14_2 + 1)), (by first | rfl | (simp; done) | (simp [*]; done)), H', ⟨by have := HJ7.out; have := HK2.out; omega⟩, ⟨by repeat (first | (with_reducible first | exact HB.out | apply below_alloc | apply pw_below_drewN | apply below_drew1) | exact HB.out)⟩⟩
                    · rw [if_neg c17] at H
                      exact absurd H (by simp)
                  · rw [if_neg c16] at H
                    exact absurd H (by simp)
                · rw [if_neg c15] at H
                  have c15b0 : decide (x14_2 < t283) = false := decide_eq_false c15
                  clear c15
                  simp only [Option.some.injEq, Prod.mk.injEq] at H
                  obtain ⟨rfl, rfl⟩ := H
                  go_wp2
                  go_ret2
                  exact ⟨by first | rfl | (simp [errW_none, errW_some] <;> rfl) | (simp [*, errW_none, errW_some] <;> rfl), by repeat (first | (with_reducible first | exact HB.out | apply below_alloc | apply pw_below_drewN | apply below_drew1) | exact HB.out)⟩
  · rw [if_neg c6] at H
    have c6b0 : (t282 == 0) = false := beq_eq_false_iff_ne.mpr c6
    have c6b1 : (t282 != 0) = true := bne_iff_ne.mpr c6
    simp only [Option.some.injEq, Prod.mk.injEq] at H
    obtain ⟨rfl, rfl⟩ := H
    go_enter Try.func20, Try.ntmps20
    go_wp2_with (first | ((with_reducible refine gate_callee (f := 15) rfl ?_); refine goesL_ (some 17) rfl rfl Try.func15 (by kernel_rfl) rfl #[.slice A0 l0.length c0, .slice A1 l1.length c1] rfl (by (try simp only [List.map_toArray, List.map_cons, List.map_nil]); first | done | rfl | (simp only [List.length_drop, List.length_take]; rfl)) ?_; (with_reducible refine (estoversref11_Check.calls k _ _ l0 _ _ l1 t282 _ ?side1 ?side2 ?side3 ?side4 A5.out).mono ?_); (case side1 => repeat (first | exact HR0.out | (with_reducible refine Kd.C_alloc ?_ _) | (with_reducible refine Kd.C_drewN ?_ _) | (with_reducible refine Kd.C_drew ?_))); (case side2 => exact HC0.out); (case side3 => repeat (first | exact HR1.out | (with_reducible refine Kd.C_alloc ?_ _) | (with_reducible refine Kd.C_drewN ?_ _) | (with_reducible refine Kd.C_drew ?_))); (case side4 => exact HC1.out); rintro e w19 ⟨rfl, hb⟩; refine ⟨_, rfl, ?_⟩; have n0_ := Aside0.mk (below_step (by repeat (first | (with_reducible first | exact HB.out | apply below_alloc | apply pw_below_drewN | apply below_drew1) | exact HB.out)) hb); clear HB; have HB := n0_; clear n0_; (try clear hb); (try clear hb2); (try clear hk); (try clear hi)))
    go_ret2
    exact ⟨by first | rfl | (simp [errW_none, errW_some] <;> rfl) | (simp [*, errW_none, errW_some] <;> rfl), by repeat (first | (with_reducible first | exact HB.out | apply below_alloc | apply pw_below_drewN | apply below_drew1) | exact HB.out)⟩

end Go.Proofs.Ytghmkmpgfpkfmaa.X
