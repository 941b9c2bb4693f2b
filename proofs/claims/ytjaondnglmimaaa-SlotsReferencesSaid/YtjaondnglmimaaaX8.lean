-- Written for this claim by a program of this session (wip/px.py) with the kit's print; the contracts of GIVEN functions are proved by hand.
import Derived.Test.YtjaondnglmimaaaX0
import Derived.Test.YtjaondnglmimaaaX4
import Derived.Test.YtjaondnglmimaaaX7
namespace Go.Proofs.Ytjaondnglmimaaa.X
open Go.RowKit Go.Proofs.YtjaondnglmimaaaW.PrintWords Go.Proofs.YtjaondnglmimaaaW.PrintLast Go.Proofs.YtjaondnglmimaaaW.PrintMore
attribute [local go_sem] max2_int min2_int max_two min_two max_three min_three max_four min_four   -- for this text's walks alone
set_option linter.unusedVariables false
set_option linter.unusedSimpArgs false

/-! ### estoversref32_Alloc: function 23 -/
def estoversref32_Alloc.l0 : Nat → List (S41) → Int → Option ((List (S41)) × Int × Int)
  | 0, _, _ => none
  | k + 1, x0, x6 => if x6 < (x0.length : Int) then (if 0 ≤ x6 then (if ((rd_T41 x0 x6).f0) = 0 then ((estoversref32_Copy.f k x0).bind fun t287 => (if x6 < (t287.length : Int) then (some ((t287.set (x6 : Int).toNat (⟨1, 0⟩ : S41)), x6, 0)) else (none))) else (estoversref32_Alloc.l0 k x0 (wrap64 (x6 + 1)))) else (none)) else (some (([] : List (S41)), 0, 8))
def estoversref32_Alloc.f (k : Nat) (l0 : List (S41)) : Option ((List (S41)) × Int × Int) := (estoversref32_Check.f k l0).bind fun t285 => (if t285 = 0 then (estoversref32_Alloc.l0 k l0 0) else (some (([] : List (S41)), 0, t285)))
theorem estoversref32_Alloc.mono_l : ∀ k, (∀ y0 y1, LeO (estoversref32_Alloc.l0 k y0 y1) (estoversref32_Alloc.l0 (k + 1) y0 y1))
  | 0 => fun _ _ r h => by simp [estoversref32_Alloc.l0] at h
  | k + 1 => by
    have ih0 := estoversref32_Alloc.mono_l k
    · intro y0 y1
      unfold estoversref32_Alloc.l0
      repeat' first
      | (with_reducible exact ih0 _ _)
      | (with_reducible exact estoversref32_Check.mono _ _)
      | (with_reducible exact estoversref32_Copy.mono _ _)
      | (with_reducible exact LeO.refl _)
      | (with_reducible exact LeO.none _)
      | (with_reducible refine LeO.ite ?_ ?_)
      | (with_reducible refine LeO.bind ?_ (fun _ => ?_))
      | exact ih0 _ _
      | exact estoversref32_Check.mono _ _
      | exact estoversref32_Copy.mono _ _
      | exact LeO.none _
      | refine LeO.ite ?_ ?_
      | refine LeO.bind ?_ (fun _ => ?_)
theorem estoversref32_Alloc.mono : ∀ a0 k, LeO (estoversref32_Alloc.f k a0) (estoversref32_Alloc.f (k + 1) a0) := by
  intro a0 k
  have ih0 := estoversref32_Alloc.mono_l k
  unfold estoversref32_Alloc.f
  repeat' first
      | (with_reducible exact ih0 _ _)
      | (with_reducible exact estoversref32_Check.mono _ _)
      | (with_reducible exact estoversref32_Copy.mono _ _)
      | (with_reducible exact LeO.refl _)
      | (with_reducible exact LeO.none _)
      | (with_reducible refine LeO.ite ?_ ?_)
      | (with_reducible refine LeO.bind ?_ (fun _ => ?_))
      | exact ih0 _ _
      | exact estoversref32_Check.mono _ _
      | exact estoversref32_Copy.mono _ _
      | exact LeO.none _
      | refine LeO.ite ?_ ?_
      | refine LeO.bind ?_ (fun _ => ?_)
set_option maxHeartbeats 8000000 in
set_option maxRecDepth 100000 in
theorem estoversref32_Alloc.calls (k : Nat) (A0 : Option Addr) (c0 : Nat) (l0 : List (S41)) (r1 : List (S41)) (r2 : Int) (r3 : Int) (w : World) (hr0 : Kd.C k41 w A0 l0.length l0) (hc0 : l0.length ≤ c0) (h : estoversref32_Alloc.f k l0 = some (r1, r2, r3)) :
    Calls Try.prog 23 #[.slice A0 l0.length c0] w fun e w' => ∃ v0_ : Value, e = .returned (.tuple #[v0_, .int .i64 r2, .int .i64 r3]) ∧ Kd.R k41 41 w' w.heap.size (fun _ => True) v0_ r1 ∧ Below w.heap.size w w' := by
  have hu41 := Try.underlying41
  have HR0 := Aside0.mk hr0
  have HC0 := Aside0.mk hc0
  clear hr0 hc0
  have HB := Aside0.mk (Below.refl w.heap.size w)
  have H : ((estoversref32_Check.f k l0).bind fun t285 => (if t285 = 0 then (estoversref32_Alloc.l0 k l0 0) else (some (([] : List (S41)), 0, t285)))) = some (r1, r2, r3) := h
  clear h
  replace H := Option.bind_eq_some_iff.mp H
  obtain ⟨t285, A20, H⟩ := H
  replace H : (if t285 = 0 then (estoversref32_Alloc.l0 k l0 0) else (some (([] : List (S41)), 0, t285))) = some (r1, r2, r3) := H
  have A2 := Aside0.mk A20
  clear A20
  by_cases c3 : t285 = 0
  · rw [if_pos c3] at H
    have c3b0 : (t285 == 0) = true := beq_iff_eq.mpr c3
    have c3b1 : (t285 != 0) = false := bne_eq_false_iff_eq.mpr c3
    clear c3
    have H' := Aside0.mk H
    clear H
    go_enter Try.func23, Try.ntmps23
    go_wp2_with (first | ((with_reducible refine gate_callee (f := 14) rfl ?_); refine goesL_ (some 9) rfl rfl Try.func14 (by kernel_rfl) rfl #[.slice A0 l0.length c0] rfl (by (try simp only [List.map_toArray, List.map_cons, List.map_nil]); first | done | rfl | (simp only [List.length_drop, List.length_take]; rfl)) ?_; (with_reducible refine (estoversref32_Check.calls k _ _ l0 t285 _ ?side1 ?side2 A2.out).mono ?_); (case side1 => repeat (first | exact HR0.out | (with_reducible refine Kd.C_alloc ?_ _) | (with_reducible refine Kd.C_drewN ?_ _) | (with_reducible refine Kd.C_drew ?_))); (case side2 => exact HC0.out); rintro e w' ⟨rfl, ⟨nd, rfl⟩⟩; refine ⟨_, rfl, ?_⟩))
    go_loopg [6] k (fun kq v6 w' => ∃ (x6_1 : Int), v6 = .int .i64 x6_1 ∧ Aside0 (estoversref32_Alloc.l0 kq l0 x6_1 = some (r1, r2, r3)) ∧ Aside0 (kq ≤ k) ∧ Aside0 (Below w.heap.size w w'))
    case atStart => exact ⟨(0), (by first | rfl | (simp; done) | (simp [*]; done)), H', ⟨Nat.le_refl _⟩, ⟨by repeat (first | (with_reducible first | exact HB.out | apply below_alloc | apply pw_below_drewN | apply below_drew1) | exact HB.out)⟩⟩
    case round =>
      clear H'
      try clear c1
      try clear c2
      try clear p2
      try clear c3
      try clear c3b0
      try clear c3b1
      obtain ⟨x6_1, rfl, HA, HK1, HB⟩ := hrel
      cases gk with
      | zero => exact absurd HA.out (by simp [estoversref32_Alloc.l0])
      | succ k1 =>
        have H := HA.out
        clear HA
        simp only [estoversref32_Alloc.l0] at H
        by_cases c4 : x6_1 < (l0.length : Int)
        · rw [if_pos c4] at H
          have c4b0 : decide (x6_1 < (l0.length : Int)) = true := decide_eq_true c4
          clear c4
          by_cases c5 : 0 ≤ x6_1
          · rw [if_pos c5] at H
            have c5b0 : decide (0 ≤ x6_1) = true := decide_eq_true c5
            clear c5
            by_cases c6 : ((rd_T41 l0 x6_1).f0) = 0
            · rw [if_pos c6] at H
              have c6b0 : (((rd_T41 l0 x6_1).f0) == 0) = true := beq_iff_eq.mpr c6
              have c6b1 : (((rd_T41 l0 x6_1).f0) != 0) = false := bne_eq_false_iff_eq.mpr c6
              clear c6
              replace H := Option.bind_eq_some_iff.mp H
              obtain ⟨t287, A70, H⟩ := H
              replace H : (if x6_1 < (t287.length : Int) then (some ((t287.set (x6_1 : Int).toNat (⟨1, 0⟩ : S41)), x6_1, 0)) else (none)) = some (r1, r2, r3) := H
              have A7 := Aside0.mk A70
              clear A70
              by_cases c8 : x6_1 < (t287.length : Int)
              · rw [if_pos c8] at H
                have c8b0 : decide (x6_1 < (t287.length : Int)) = true := decide_eq_true c8
                clear c8
                obtain ⟨y290, hy290⟩ : ∃ y_ : List (S41), y_ = (t287.set (x6_1 : Int).toNat (⟨1, 0⟩ : S41)) := ⟨_, rfl⟩
                replace H : (some (y290, x6_1, 0)) = some (r1, r2, r3) := by first | (rw [hy290]; with_reducible exact H) | (have H2_ := (Option.bind_some _ _).symm.trans H; rw [hy290]; with_reducible exact H2_) | (have H2_ := (Option.bind_some _ _).symm.trans H; with_reducible exact H2_) | with_reducible exact H | (rw [hy290]; exact H) | exact H
                have Ny290 := Aside0.mk hy290
                clear hy290
                simp only [Option.some.injEq, Prod.mk.injEq] at H
                obtain ⟨rfl, rfl, rfl⟩ := H
                have p286 : 0 ≤ (x6_1 : Int) := of_decide_eq_true (by first | (with_reducible assumption) | assumption)
                have q286 : x6_1 < (l0.length : Int) := of_decide_eq_true (by first | (with_reducible assumption) | assumption)
                obtain ⟨ad286, e286, hx286_0, hx286_1⟩ := at_T41 HR0.out x6_1 p286 q286
                cases e286
                replace hx286_0 := (HB.out.cell (World.block_lt_of_cell? w _ hx286_0)).trans hx286_0
                replace hx286_1 := (HB.out.cell (World.block_lt_of_cell? w _ hx286_1)).trans hx286_1
                replace p286 := eq_true p286
                replace q286 := eq_true q286
                go_wp2_with (first | ((with_reducible refine gate_callee (f := 38) rfl ?_); refine goesL_ (some 26) rfl rfl Try.func38 (by kernel_rfl) rfl #[.slice (some ad286) l0.length c0] rfl (by (try simp only [List.map_toArray, List.map_cons, List.map_nil]); first | done | rfl | (simp only [List.length_drop, List.length_take]; rfl)) ?_; (with_reducible refine (estoversref32_Copy.calls k1 _ _ l0 t287 _ ?side1 ?side2 A7.out).mono ?_); (case side1 => repeat (first | exact (Kd.C_below HR0.out HB.out) | (with_reducible refine Kd.C_alloc ?_ _) | (with_reducible refine Kd.C_drewN ?_ _) | (with_reducible refine Kd.C_drew ?_))); (case side2 => exact HC0.out); rintro e w10 ⟨v288, rfl, ho0, hb⟩; refine ⟨_, rfl, ?_⟩; have n0_ := Aside0.mk (Kd.R_lower ho0 (below_size (by repeat (first | (with_reducible first | exact HB.out | apply below_alloc | apply pw_below_drewN | apply below_drew1) | exact HB.out)))); have n1_ := Aside0.mk (below_step (by repeat (first | (with_reducible first | exact HB.out | apply below_alloc | apply pw_below_drewN | apply below_drew1) | exact HB.out)) hb); clear HB; have HO289 := n0_; have HB := n1_; clear n0_ n1_; (try clear hb); (try clear hb2); (try clear hk); (try clear hi); (try clear ho0); have p9 : 0 ≤ (x6_1 : Int) := of_decide_eq_true (by first | (with_reducible assumption) | assumption); have q9 : (x6_1 : Int) < ((t287.length : Int) : Int) := of_decide_eq_true (by first | (with_reducible assumption) | assumption); obtain ⟨go9, co9, eo9, gb9, gl9, cl9, HG9⟩ := Kd.R_form HO289.out (by omega); (first | cases eo9 | (injection eo9 with ea_ en_ ec_; (first | subst ea_ | (injection ea_ with ea_; subst ea_)); subst ec_; clear en_)); have GB9 := Aside0.mk gb9; have GG9 := Aside0.mk HG9; clear gb9 gl9 HG9; obtain ⟨ce9, hcl9, hM9, hcc9, hfr9⟩ := Kd.R_elem HO289.out z41 (x6_1 : Int) p9 q9; obtain rfl := k41_openM hM9; have hx9_0 : w10.cell? ⟨go9, (x6_1 : Int).toNat * 2, none⟩ = some (.int .i64 ((rd_T41 t287 x6_1).f0)) := hcc9 0 _ rfl; have hx9_1 : w10.cell? ⟨go9, (x6_1 : Int).toNat * 2 + 1, none⟩ = some (.int .i64 ((rd_T41 t287 x6_1).f1)) := hcc9 1 _ rfl; have hf9_0 : w10.frozen? ⟨go9, (x6_1 : Int).toNat * 2, none⟩ = false := hfr9 0; have hf9_1 : w10.frozen? ⟨go9, (x6_1 : Int).toNat * 2 + 1, none⟩ = false := hfr9 1; clear hcl9 hcc9 hfr9 hM9; replace p9 := eq_true p9; replace q9 := eq_true q9; have HX11 := Aside0.mk (show Kd.R k41 41 w10 w.heap.size (fun _ => True) (.slice (some ⟨go9, 0, none⟩) t287.length co9) t287 from (by (with_reducible repeat (first | apply Kd.R_alloc | apply Kd.R_drewN | apply Kd.R_drew)); exact HO289.out)); obtain ⟨ce11, hcl11, hM11, hcc11, hfr11⟩ := Kd.R_elem HX11.out z41 (x6_1 : Int) (of_decide_eq_true (by first | (with_reducible assumption) | assumption)) (by have h_ : (x6_1 : Int) < ((t287.length : Int) : Int) := of_decide_eq_true (by first | (with_reducible assumption) | assumption); first | exact h_ | (have e_ := (Kd.R_reads' HO289.out).1; omega) | simpa using h_); obtain rfl := k41_openM hM11; have HP11 := Kd.R_seg HX11.out (x6_1 : Int) (of_decide_eq_true (by first | (with_reducible assumption) | assumption)) (by have h_ : (x6_1 : Int) < ((t287.length : Int) : Int) := of_decide_eq_true (by first | (with_reducible assumption) | assumption); first | exact h_ | (have e_ := (Kd.R_reads' HO289.out).1; omega) | simpa using h_) (seg := [.int .i64 1, .int .i64 0]) (j := 0) hcl11 hcc11 (show 2 ≤ 2 from by decide) (x' := (⟨1, 0⟩ : S41)) (k41_mkM _ _ _ (⟨1, 0⟩ : S41) ) (fun _ hk => hk); have hx11_0 := hcc11 0 _ rfl; (try simp only [show (k41).sz = 2 from rfl, Nat.mul_one, Nat.add_zero] at hx11_0); have hf11_0 := hfr11 0; (try simp only [show (k41).sz = 2 from rfl, Nat.mul_one, Nat.add_zero] at hf11_0); have hx11_1 := hcc11 1 _ rfl; (try simp only [show (k41).sz = 2 from rfl, Nat.mul_one, Nat.add_zero] at hx11_1); have hf11_1 := hfr11 1; (try simp only [show (k41).sz = 2 from rfl, Nat.mul_one, Nat.add_zero] at hf11_1); clear hcl11 hcc11 hfr11 hM11) | ((with_reducible refine gate_store (t := 41) (p := 30) rfl ?_); refine store_event (t := 41) (p := 30) (v := ?vo_w12) (w1 := ((w10.setCell ⟨go9, (x6_1 : Int).toNat * 2, none⟩ (.int .i64 1)).setCell ⟨go9, (x6_1 : Int).toNat * 2 + 1, none⟩ (.int .i64 0))) ?hg ?ho ?hn ?hr ?_; (case ho => rfl); (case hg => rfl); (case hn => rfl); (case hr => first | (go_simp; done) | (go_simp; rfl)); intro w12 hw; have hg : w10.grownBy w12 (some go9) := (by rw [hw]; exact HP11.2); have hp_ : Kd.R k41 41 w12 w.heap.size (fun _ => True) (.slice (some ⟨go9, 0, none⟩) t287.length co9) y290 := (by rw [hw, Ny290.out]; exact HP11.1); clear HP11; have n0_ := Aside0.mk (hp_); have n1_ := Aside0.mk ((by rw [hw]; exact below_set (below_set (HB.out) GB9.out) GB9.out : Below w.heap.size w w12)); clear HO289; clear HB; have HO289 := n0_; have HB := n1_; clear n0_ n1_; clear hg hw hp_))
                go_ret3
                exact ⟨_, by first | rfl | (simp [errW_none, errW_some] <;> rfl) | (simp [*, errW_none, errW_some] <;> rfl), by (with_reducible repeat (first | apply Kd.R_alloc | apply Kd.R_drewN | apply Kd.R_drew)); exact HO289.out, by repeat (first | (with_reducible first | exact HB.out | apply below_alloc | apply pw_below_drewN | apply below_drew1) | exact HB.out)⟩
              · rw [if_neg c8] at H
                exact absurd H (by simp)
            · rw [if_neg c6] at H
              have c6b0 : (((rd_T41 l0 x6_1).f0) == 0) = false := beq_eq_false_iff_ne.mpr c6
              have c6b1 : (((rd_T41 l0 x6_1).f0) != 0) = true := bne_iff_ne.mpr c6
              have H' := Aside0.mk H
              clear H
              have p286 : 0 ≤ (x6_1 : Int) := of_decide_eq_true (by first | (with_reducible assumption) | assumption)
              have q286 : x6_1 < (l0.length : Int) := of_decide_eq_true (by first | (with_reducible assumption) | assumption)
              obtain ⟨ad286, e286, hx286_0, hx286_1⟩ := at_T41 HR0.out x6_1 p286 q286
              cases e286
              replace hx286_0 := (HB.out.cell (World.block_lt_of_cell? w _ hx286_0)).trans hx286_0
              replace hx286_1 := (HB.out.cell (World.block_lt_of_cell? w _ hx286_1)).trans hx286_1
              replace p286 := eq_true p286
              replace q286 := eq_true q286
              go_wp2
              go_roundg k1
              case measure => have := HK1.out; omega
              case rel => exact ⟨(wrap64 (x6_1 + 1)), (by first | rfl | (simp; done) | (simp [*]; done)), H', ⟨by have := HK1.out; omega⟩, ⟨by repeat (first | (with_reducible first | exact HB.out | apply below_alloc | apply pw_below_drewN | apply below_drew1) | exact HB.out)⟩⟩
          · rw [if_neg c5] at H
            exact absurd H (by simp)
        · rw [if_neg c4] at H
          have c4b0 : decide (x6_1 < (l0.length : Int)) = false := decide_eq_false c4
          clear c4
          simp only [Option.some.injEq, Prod.mk.injEq] at H
          obtain ⟨rfl, rfl, rfl⟩ := H
          go_wp2
          go_ret3
          exact ⟨_, by first | rfl | (simp [errW_none, errW_some] <;> rfl) | (simp [*, errW_none, errW_some] <;> rfl), by first | exact Kd.R_nil _ _ _ _ _ | exact Kd.N_nil _ _ _ _ _ | exact Kd.V_nil _ _ _ _ _ | exact Kd.Q_nil _ _ _ _ _ | exact Kd.S_nil _ _ _ _ _, by repeat (first | (with_reducible first | exact HB.out | apply below_alloc | apply pw_below_drewN | apply below_drew1) | exact HB.out)⟩
  · rw [if_neg c3] at H
    have c3b0 : (t285 == 0) = false := beq_eq_false_iff_ne.mpr c3
    have c3b1 : (t285 != 0) = true := bne_iff_ne.mpr c3
    simp only [Option.some.injEq, Prod.mk.injEq] at H
    obtain ⟨rfl, rfl, rfl⟩ := H
    go_enter Try.func23, Try.ntmps23
    go_wp2_with (first | ((with_reducible refine gate_callee (f := 14) rfl ?_); refine goesL_ (some 9) rfl rfl Try.func14 (by kernel_rfl) rfl #[.slice A0 l0.length c0] rfl (by (try simp only [List.map_toArray, List.map_cons, List.map_nil]); first | done | rfl | (simp only [List.length_drop, List.length_take]; rfl)) ?_; (with_reducible refine (estoversref32_Check.calls k _ _ l0 t285 _ ?side1 ?side2 A2.out).mono ?_); (case side1 => repeat (first | exact HR0.out | (with_reducible refine Kd.C_alloc ?_ _) | (with_reducible refine Kd.C_drewN ?_ _) | (with_reducible refine Kd.C_drew ?_))); (case side2 => exact HC0.out); rintro e w' ⟨rfl, ⟨nd, rfl⟩⟩; refine ⟨_, rfl, ?_⟩))
    go_ret3
    exact ⟨_, by first | rfl | (simp [errW_none, errW_some] <;> rfl) | (simp [*, errW_none, errW_some] <;> rfl), by first | exact Kd.R_nil _ _ _ _ _ | exact Kd.N_nil _ _ _ _ _ | exact Kd.V_nil _ _ _ _ _ | exact Kd.Q_nil _ _ _ _ _ | exact Kd.S_nil _ _ _ _ _, by repeat (first | (with_reducible first | exact HB.out | apply below_alloc | apply pw_below_drewN | apply below_drew1) | exact HB.out)⟩

/-! ### estoversref32_used: function 39 -/
def estoversref32_used.f (k : Nat) (l0 : List (S41)) (a1 : Int) : Option (Int) := (estoversref32_Check.f k l0).bind fun t291 => (if t291 = 0 then (if a1 < 0 then (some 6) else (if a1 ≥ (l0.length : Int) then (some 6) else (if 0 ≤ a1 then (if a1 < (l0.length : Int) then (if ((rd_T41 l0 a1).f0) = 0 then (some 6) else (some t291)) else (none)) else (none)))) else (some t291))
theorem estoversref32_used.mono : ∀ a0 a1 k, LeO (estoversref32_used.f k a0 a1) (estoversref32_used.f (k + 1) a0 a1) := by
  intro a0 a1 k
  unfold estoversref32_used.f
  repeat' first
      | (with_reducible exact estoversref32_Check.mono _ _)
      | (with_reducible exact LeO.refl _)
      | (with_reducible exact LeO.none _)
      | (with_reducible refine LeO.ite ?_ ?_)
      | (with_reducible refine LeO.bind ?_ (fun _ => ?_))
      | exact estoversref32_Check.mono _ _
      | exact LeO.none _
      | refine LeO.ite ?_ ?_
      | refine LeO.bind ?_ (fun _ => ?_)
set_option maxHeartbeats 8000000 in
set_option maxRecDepth 100000 in
theorem estoversref32_used.calls (k : Nat) (A0 : Option Addr) (c0 : Nat) (l0 : List (S41)) (a1 : Int) (r : Int) (w : World) (hr0 : Kd.C k41 w A0 l0.length l0) (hc0 : l0.length ≤ c0) (h : estoversref32_used.f k l0 a1 = some r) :
    Calls Try.prog 39 #[.slice A0 l0.length c0, .int .i64 a1] w fun e w' => e = .returned (.int .i64 r) ∧ Drawn0 w w' := by
  have HR0 := Aside0.mk hr0
  have HC0 := Aside0.mk hc0
  clear hr0 hc0
  have H : ((estoversref32_Check.f k l0).bind fun t291 => (if t291 = 0 then (if a1 < 0 then (some 6) else (if a1 ≥ (l0.length : Int) then (some 6) else (if 0 ≤ a1 then (if a1 < (l0.length : Int) then (if ((rd_T41 l0 a1).f0) = 0 then (some 6) else (some t291)) else (none)) else (none)))) else (some t291))) = some r := h
  clear h
  replace H := Option.bind_eq_some_iff.mp H
  obtain ⟨t291, A30, H⟩ := H
  replace H : (if t291 = 0 then (if a1 < 0 then (some 6) else (if a1 ≥ (l0.length : Int) then (some 6) else (if 0 ≤ a1 then (if a1 < (l0.length : Int) then (if ((rd_T41 l0 a1).f0) = 0 then (some 6) else (some t291)) else (none)) else (none)))) else (some t291)) = some r := H
  have A3 := Aside0.mk A30
  clear A30
  by_cases c4 : t291 = 0
  · rw [if_pos c4] at H
    have c4b0 : (t291 == 0) = true := beq_iff_eq.mpr c4
    have c4b1 : (t291 != 0) = false := bne_eq_false_iff_eq.mpr c4
    clear c4
    by_cases c5 : a1 < 0
    · rw [if_pos c5] at H
      have c5b0 : decide (a1 < 0) = true := decide_eq_true c5
      clear c5
      obtain rfl := Option.some.inj H
      go_enter Try.func39, Try.ntmps39
      go_wp2_with (first | ((with_reducible refine gate_callee (f := 14) rfl ?_); refine goesL_ (some 7) rfl rfl Try.func14 (by kernel_rfl) rfl #[.slice A0 l0.length c0] rfl (by (try simp only [List.map_toArray, List.map_cons, List.map_nil]); first | done | rfl | (simp only [List.length_drop, List.length_take]; rfl)) ?_; (with_reducible refine (estoversref32_Check.calls k _ _ l0 t291 _ ?side1 ?side2 A3.out).mono ?_); (case side1 => repeat (first | exact HR0.out | (with_reducible refine Kd.C_alloc ?_ _) | (with_reducible refine Kd.C_drewN ?_ _) | (with_reducible refine Kd.C_drew ?_))); (case side2 => exact HC0.out); rintro e w' ⟨rfl, ⟨nd, rfl⟩⟩; refine ⟨_, rfl, ?_⟩))
      go_ret
      exact ⟨by first | rfl | (simp; done) | (simp [*]; done), by repeat (first | exact Drawn0.refl _ | apply Drawn0.step)⟩
    · rw [if_neg c5] at H
      have c5b0 : decide (a1 < 0) = false := decide_eq_false c5
      clear c5
      by_cases c6 : a1 ≥ (l0.length : Int)
      · rw [if_pos c6] at H
        have c6b0 : decide ((l0.length : Int) ≤ a1) = true := decide_eq_true c6
        clear c6
        obtain rfl := Option.some.inj H
        go_enter Try.func39, Try.ntmps39
        go_wp2_with (first | ((with_reducible refine gate_callee (f := 14) rfl ?_); refine goesL_ (some 7) rfl rfl Try.func14 (by kernel_rfl) rfl #[.slice A0 l0.length c0] rfl (by (try simp only [List.map_toArray, List.map_cons, List.map_nil]); first | done | rfl | (simp only [List.length_drop, List.length_take]; rfl)) ?_; (with_reducible refine (estoversref32_Check.calls k _ _ l0 t291 _ ?side1 ?side2 A3.out).mono ?_); (case side1 => repeat (first | exact HR0.out | (with_reducible refine Kd.C_alloc ?_ _) | (with_reducible refine Kd.C_drewN ?_ _) | (with_reducible refine Kd.C_drew ?_))); (case side2 => exact HC0.out); rintro e w' ⟨rfl, ⟨nd, rfl⟩⟩; refine ⟨_, rfl, ?_⟩))
        go_ret
        exact ⟨by first | rfl | (simp; done) | (simp [*]; done), by repeat (first | exact Drawn0.refl _ | apply Drawn0.step)⟩
      · rw [if_neg c6] at H
        have c6b0 : decide ((l0.length : Int) ≤ a1) = false := decide_eq_false c6
        clear c6
        by_cases c7 : 0 ≤ a1
        · rw [if_pos c7] at H
          have c7b0 : decide (0 ≤ a1) = true := decide_eq_true c7
          clear c7
          by_cases c8 : a1 < (l0.length : Int)
          · rw [if_pos c8] at H
            have c8b0 : decide (a1 < (l0.length : Int)) = true := decide_eq_true c8
            clear c8
            by_cases c9 : ((rd_T41 l0 a1).f0) = 0
            · rw [if_pos c9] at H
              have c9b0 : (((rd_T41 l0 a1).f0) == 0) = true := beq_iff_eq.mpr c9
              have c9b1 : (((rd_T41 l0 a1).f0) != 0) = false := bne_eq_false_iff_eq.mpr c9
              clear c9
              obtain rfl := Option.some.inj H
              go_enter Try.func39, Try.ntmps39
              go_wp2_with (first | ((with_reducible refine gate_callee (f := 14) rfl ?_); refine goesL_ (some 7) rfl rfl Try.func14 (by kernel_rfl) rfl #[.slice A0 l0.length c0] rfl (by (try simp only [List.map_toArray, List.map_cons, List.map_nil]); first | done | rfl | (simp only [List.length_drop, List.length_take]; rfl)) ?_; (with_reducible refine (estoversref32_Check.calls k _ _ l0 t291 _ ?side1 ?side2 A3.out).mono ?_); (case side1 => repeat (first | exact HR0.out | (with_reducible refine Kd.C_alloc ?_ _) | (with_reducible refine Kd.C_drewN ?_ _) | (with_reducible refine Kd.C_drew ?_))); (case side2 => exact HC0.out); rintro e w' ⟨rfl, ⟨nd, rfl⟩⟩; refine ⟨_, rfl, ?_⟩; have p292 : 0 ≤ (a1 : Int) := of_decide_eq_true (by first | (with_reducible assumption) | assumption); have q292 : a1 < (l0.length : Int) := of_decide_eq_true (by first | (with_reducible assumption) | assumption); obtain ⟨ad292, e292, hx292_0, hx292_1⟩ := at_T41 HR0.out a1 p292 q292; cases e292; replace p292 := eq_true p292; replace q292 := eq_true q292))
              go_ret
              exact ⟨by first | rfl | (simp; done) | (simp [*]; done), by repeat (first | exact Drawn0.refl _ | apply Drawn0.step)⟩
            · rw [if_neg c9] at H
              have c9b0 : (((rd_T41 l0 a1).f0) == 0) = false := beq_eq_false_iff_ne.mpr c9
              have c9b1 : (((rd_T41 l0 a1).f0) != 0) = true := bne_iff_ne.mpr c9
              obtain rfl := Option.some.inj H
              go_enter Try.func39, Try.ntmps39
              go_wp2_with (first | ((with_reducible refine gate_callee (f := 14) rfl ?_); refine goesL_ (some 7) rfl rfl Try.func14 (by kernel_rfl) rfl #[.slice A0 l0.length c0] rfl (by (try simp only [List.map_toArray, List.map_cons, List.map_nil]); first | done | rfl | (simp only [List.length_drop, List.length_take]; rfl)) ?_; (with_reducible refine (estoversref32_Check.calls k _ _ l0 t291 _ ?side1 ?side2 A3.out).mono ?_); (case side1 => repeat (first | exact HR0.out | (with_reducible refine Kd.C_alloc ?_ _) | (with_reducible refine Kd.C_drewN ?_ _) | (with_reducible refine Kd.C_drew ?_))); (case side2 => exact HC0.out); rintro e w' ⟨rfl, ⟨nd, rfl⟩⟩; refine ⟨_, rfl, ?_⟩; have p292 : 0 ≤ (a1 : Int) := of_decide_eq_true (by first | (with_reducible assumption) | assumption); have q292 : a1 < (l0.length : Int) := of_decide_eq_true (by first | (with_reducible assumption) | assumption); obtain ⟨ad292, e292, hx292_0, hx292_1⟩ := at_T41 HR0.out a1 p292 q292; cases e292; replace p292 := eq_true p292; replace q292 := eq_true q292))
              go_ret
              exact ⟨by first | rfl | (simp; done) | (simp [*]; done), by repeat (first | exact Drawn0.refl _ | apply Drawn0.step)⟩
          · rw [if_neg c8] at H
            exact absurd H (by simp)
        · rw [if_neg c7] at H
          exact absurd H (by simp)
  · rw [if_neg c4] at H
    have c4b0 : (t291 == 0) = false := beq_eq_false_iff_ne.mpr c4
    have c4b1 : (t291 != 0) = true := bne_iff_ne.mpr c4
    obtain rfl := Option.some.inj H
    go_enter Try.func39, Try.ntmps39
    go_wp2_with (first | ((with_reducible refine gate_callee (f := 14) rfl ?_); refine goesL_ (some 7) rfl rfl Try.func14 (by kernel_rfl) rfl #[.slice A0 l0.length c0] rfl (by (try simp only [List.map_toArray, List.map_cons, List.map_nil]); first | done | rfl | (simp only [List.length_drop, List.length_take]; rfl)) ?_; (with_reducible refine (estoversref32_Check.calls k _ _ l0 t291 _ ?side1 ?side2 A3.out).mono ?_); (case side1 => repeat (first | exact HR0.out | (with_reducible refine Kd.C_alloc ?_ _) | (with_reducible refine Kd.C_drewN ?_ _) | (with_reducible refine Kd.C_drew ?_))); (case side2 => exact HC0.out); rintro e w' ⟨rfl, ⟨nd, rfl⟩⟩; refine ⟨_, rfl, ?_⟩))
    go_ret
    exact ⟨by first | rfl | (simp; done) | (simp [*]; done), by repeat (first | exact Drawn0.refl _ | apply Drawn0.step)⟩

/-! ### estoversref32_Dup: function 24 -/
def estoversref32_Dup.f (k : Nat) (l0 : List (S41)) (a1 : Int) : Option ((List (S41)) × Int) := (estoversref32_used.f k l0 a1).bind fun t293 => (if t293 = 0 then (if 0 ≤ a1 then (if a1 < (l0.length : Int) then (if ((rd_T41 l0 a1).f1) = 1048576 then (some (([] : List (S41)), 9)) else ((estoversref32_Copy.f k l0).bind fun t295 => (if a1 < (t295.length : Int) then (some ((t295.set (a1 : Int).toNat (⟨(rd_T41 t295 a1).f0, wrap64 (((rd_T41 t295 a1).f1) + 1)⟩ : S41)), 0)) else (none)))) else (none)) else (none)) else (some (([] : List (S41)), t293)))
theorem estoversref32_Dup.mono : ∀ a0 a1 k, LeO (estoversref32_Dup.f k a0 a1) (estoversref32_Dup.f (k + 1) a0 a1) := by
  intro a0 a1 k
  unfold estoversref32_Dup.f
  repeat' first
      | (with_reducible exact estoversref32_Copy.mono _ _)
      | (with_reducible exact estoversref32_used.mono _ _ _)
      | (with_reducible exact LeO.refl _)
      | (with_reducible exact LeO.none _)
      | (with_reducible refine LeO.ite ?_ ?_)
      | (with_reducible refine LeO.bind ?_ (fun _ => ?_))
      | exact estoversref32_Copy.mono _ _
      | exact estoversref32_used.mono _ _ _
      | exact LeO.none _
      | refine LeO.ite ?_ ?_
      | refine LeO.bind ?_ (fun _ => ?_)
set_option maxHeartbeats 8000000 in
set_option maxRecDepth 100000 in
theorem estoversref32_Dup.calls (k : Nat) (A0 : Option Addr) (c0 : Nat) (l0 : List (S41)) (a1 : Int) (r1 : List (S41)) (r2 : Int) (w : World) (hr0 : Kd.C k41 w A0 l0.length l0) (hc0 : l0.length ≤ c0) (h : estoversref32_Dup.f k l0 a1 = some (r1, r2)) :
    Calls Try.prog 24 #[.slice A0 l0.length c0, .int .i64 a1] w fun e w' => ∃ v0_ : Value, e = .returned (.tuple #[v0_, .int .i64 r2]) ∧ Kd.R k41 41 w' w.heap.size (fun _ => True) v0_ r1 ∧ Below w.heap.size w w' := by
  have HR0 := Aside0.mk hr0
  have HC0 := Aside0.mk hc0
  clear hr0 hc0
  have HB := Aside0.mk (Below.refl w.heap.size w)
  have H : ((estoversref32_used.f k l0 a1).bind fun t293 => (if t293 = 0 then (if 0 ≤ a1 then (if a1 < (l0.length : Int) then (if ((rd_T41 l0 a1).f1) = 1048576 then (some (([] : List (S41)), 9)) else ((estoversref32_Copy.f k l0).bind fun t295 => (if a1 < (t295.length : Int) then (some ((t295.set (a1 : Int).toNat (⟨(rd_T41 t295 a1).f0, wrap64 (((rd_T41 t295 a1).f1) + 1)⟩ : S41)), 0)) else (none)))) else (none)) else (none)) else (some (([] : List (S41)), t293)))) = some (r1, r2) := h
  clear h
  replace H := Option.bind_eq_some_iff.mp H
  obtain ⟨t293, A30, H⟩ := H
  replace H : (if t293 = 0 then (if 0 ≤ a1 then (if a1 < (l0.length : Int) then (if ((rd_T41 l0 a1).f1) = 1048576 then (some (([] : List (S41)), 9)) else ((estoversref32_Copy.f k l0).bind fun t295 => (if a1 < (t295.length : Int) then (some ((t295.set (a1 : Int).toNat (⟨(rd_T41 t295 a1).f0, wrap64 (((rd_T41 t295 a1).f1) + 1)⟩ : S41)), 0)) else (none)))) else (none)) else (none)) else (some (([] : List (S41)), t293))) = some (r1, r2) := H
  have A3 := Aside0.mk A30
  clear A30
  by_cases c4 : t293 = 0
  · rw [if_pos c4] at H
    have c4b0 : (t293 == 0) = true := beq_iff_eq.mpr c4
    have c4b1 : (t293 != 0) = false := bne_eq_false_iff_eq.mpr c4
    clear c4
    by_cases c5 : 0 ≤ a1
    · rw [if_pos c5] at H
      have c5b0 : decide (0 ≤ a1) = true := decide_eq_true c5
      clear c5
      by_cases c6 : a1 < (l0.length : Int)
      · rw [if_pos c6] at H
        have c6b0 : decide (a1 < (l0.length : Int)) = true := decide_eq_true c6
        clear c6
        by_cases c7 : ((rd_T41 l0 a1).f1) = 1048576
        · rw [if_pos c7] at H
          have c7b0 : (((rd_T41 l0 a1).f1) == 1048576) = true := beq_iff_eq.mpr c7
          have c7b1 : (((rd_T41 l0 a1).f1) != 1048576) = false := bne_eq_false_iff_eq.mpr c7
          clear c7
          simp only [Option.some.injEq, Prod.mk.injEq] at H
          obtain ⟨rfl, rfl⟩ := H
          go_enter Try.func24, Try.ntmps24
          go_wp2_with (first | ((with_reducible refine gate_callee (f := 39) rfl ?_); refine goesL_ (some 10) rfl rfl Try.func39 (by kernel_rfl) rfl #[.slice A0 l0.length c0, .int .i64 a1] rfl (by (try simp only [List.map_toArray, List.map_cons, List.map_nil]); first | done | rfl | (simp only [List.length_drop, List.length_take]; rfl)) ?_; (with_reducible refine (estoversref32_used.calls k _ _ l0 a1 t293 _ ?side1 ?side2 A3.out).mono ?_); (case side1 => repeat (first | exact HR0.out | (with_reducible refine Kd.C_alloc ?_ _) | (with_reducible refine Kd.C_drewN ?_ _) | (with_reducible refine Kd.C_drew ?_))); (case side2 => exact HC0.out); rintro e w' ⟨rfl, ⟨nd, rfl⟩⟩; refine ⟨_, rfl, ?_⟩; have p294 : 0 ≤ (a1 : Int) := of_decide_eq_true (by first | (with_reducible assumption) | assumption); have q294 : a1 < (l0.length : Int) := of_decide_eq_true (by first | (with_reducible assumption) | assumption); obtain ⟨ad294, e294, hx294_0, hx294_1⟩ := at_T41 HR0.out a1 p294 q294; cases e294; replace p294 := eq_true p294; replace q294 := eq_true q294))
          go_ret2
          exact ⟨_, by first | rfl | (simp [errW_none, errW_some] <;> rfl) | (simp [*, errW_none, errW_some] <;> rfl), by first | exact Kd.R_nil _ _ _ _ _ | exact Kd.N_nil _ _ _ _ _ | exact Kd.V_nil _ _ _ _ _ | exact Kd.Q_nil _ _ _ _ _ | exact Kd.S_nil _ _ _ _ _, by repeat (first | (with_reducible first | exact HB.out | apply below_alloc | apply pw_below_drewN | apply below_drew1) | exact HB.out)⟩
        · rw [if_neg c7] at H
          have c7b0 : (((rd_T41 l0 a1).f1) == 1048576) = false := beq_eq_false_iff_ne.mpr c7
          have c7b1 : (((rd_T41 l0 a1).f1) != 1048576) = true := bne_iff_ne.mpr c7
          replace H := Option.bind_eq_some_iff.mp H
          obtain ⟨t295, A80, H⟩ := H
          replace H : (if a1 < (t295.length : Int) then (some ((t295.set (a1 : Int).toNat (⟨(rd_T41 t295 a1).f0, wrap64 (((rd_T41 t295 a1).f1) + 1)⟩ : S41)), 0)) else (none)) = some (r1, r2) := H
          have A8 := Aside0.mk A80
          clear A80
          by_cases c9 : a1 < (t295.length : Int)
          · rw [if_pos c9] at H
            have c9b0 : decide (a1 < (t295.length : Int)) = true := decide_eq_true c9
            clear c9
            obtain ⟨y299, hy299⟩ : ∃ y_ : List (S41), y_ = (t295.set (a1 : Int).toNat (⟨(rd_T41 t295 a1).f0, wrap64 (((rd_T41 t295 a1).f1) + 1)⟩ : S41)) := ⟨_, rfl⟩
            replace H : (some (y299, 0)) = some (r1, r2) := by first | (rw [hy299]; with_reducible exact H) | (have H2_ := (Option.bind_some _ _).symm.trans H; rw [hy299]; with_reducible exact H2_) | (have H2_ := (Option.bind_some _ _).symm.trans H; with_reducible exact H2_) | with_reducible exact H | (rw [hy299]; exact H) | exact H
            have Ny299 := Aside0.mk hy299
            clear hy299
            simp only [Option.some.injEq, Prod.mk.injEq] at H
            obtain ⟨rfl, rfl⟩ := H
            go_enter Try.func24, Try.ntmps24
            go_wp2_with (first | ((with_reducible refine gate_callee (f := 39) rfl ?_); refine goesL_ (some 10) rfl rfl Try.func39 (by kernel_rfl) rfl #[.slice A0 l0.length c0, .int .i64 a1] rfl (by (try simp only [List.map_toArray, List.map_cons, List.map_nil]); first | done | rfl | (simp only [List.length_drop, List.length_take]; rfl)) ?_; (with_reducible refine (estoversref32_used.calls k _ _ l0 a1 t293 _ ?side1 ?side2 A3.out).mono ?_); (case side1 => repeat (first | exact HR0.out | (with_reducible refine Kd.C_alloc ?_ _) | (with_reducible refine Kd.C_drewN ?_ _) | (with_reducible refine Kd.C_drew ?_))); (case side2 => exact HC0.out); rintro e w' ⟨rfl, ⟨nd, rfl⟩⟩; refine ⟨_, rfl, ?_⟩; have p294 : 0 ≤ (a1 : Int) := of_decide_eq_true (by first | (with_reducible assumption) | assumption); have q294 : a1 < (l0.length : Int) := of_decide_eq_true (by first | (with_reducible assumption) | assumption); obtain ⟨ad294, e294, hx294_0, hx294_1⟩ := at_T41 HR0.out a1 p294 q294; cases e294; replace p294 := eq_true p294; replace q294 := eq_true q294) | ((with_reducible refine gate_callee (f := 38) rfl ?_); refine goesL_ (some 21) rfl rfl Try.func38 (by kernel_rfl) rfl #[.slice (some ad294) l0.length c0] rfl (by (try simp only [List.map_toArray, List.map_cons, List.map_nil]); first | done | rfl | (simp only [List.length_drop, List.length_take]; rfl)) ?_; (with_reducible refine (estoversref32_Copy.calls k _ _ l0 t295 _ ?side1 ?side2 A8.out).mono ?_); (case side1 => repeat (first | exact HR0.out | (with_reducible refine Kd.C_alloc ?_ _) | (with_reducible refine Kd.C_drewN ?_ _) | (with_reducible refine Kd.C_drew ?_))); (case side2 => exact HC0.out); rintro e w11 ⟨v296, rfl, ho0, hb⟩; refine ⟨_, rfl, ?_⟩; have n0_ := Aside0.mk (Kd.R_lower ho0 (below_size (by repeat (first | (with_reducible first | exact HB.out | apply below_alloc | apply pw_below_drewN | apply below_drew1) | exact HB.out)))); have n1_ := Aside0.mk (below_step (by repeat (first | (with_reducible first | exact HB.out | apply below_alloc | apply pw_below_drewN | apply below_drew1) | exact HB.out)) hb); clear HB; have HO297 := n0_; have HB := n1_; clear n0_ n1_; (try clear hb); (try clear hb2); (try clear hk); (try clear hi); (try clear ho0); obtain ⟨Ao12, co12, eo12⟩ := Kd.R_slice HO297.out; subst eo12; have p298 : 0 ≤ (a1 : Int) := of_decide_eq_true (by first | (with_reducible assumption) | assumption); have q298 : a1 < (t295.length : Int) := of_decide_eq_true (by first | (with_reducible assumption) | assumption); obtain ⟨ad298, e298, hx298_0, hx298_1⟩ := at_T41 (Kd.R_reads' HO297.out).2.2 a1 p298 q298; cases e298; replace p298 := eq_true p298; replace q298 := eq_true q298; have p10 : 0 ≤ (a1 : Int) := of_decide_eq_true (by first | (with_reducible assumption) | assumption); have q10 : (a1 : Int) < ((t295.length : Int) : Int) := of_decide_eq_true (by first | (with_reducible assumption) | assumption); obtain ⟨go10, co10, eo10, gb10, gl10, cl10, HG10⟩ := Kd.R_form HO297.out (by omega); (first | cases eo10 | (injection eo10 with ea_ en_ ec_; (first | subst ea_ | (injection ea_ with ea_; subst ea_)); subst ec_; clear en_)); have GB10 := Aside0.mk gb10; have GG10 := Aside0.mk HG10; clear gb10 gl10 HG10; (first | simp only [add_plain] at hx298_0 | skip); (first | simp only [add_plain] at hx298_1 | skip); obtain ⟨ce10, hcl10, hM10, hcc10, hfr10⟩ := Kd.R_elem HO297.out z41 (a1 : Int) p10 q10; obtain rfl := k41_openM hM10; have hx10_0 : w11.cell? ⟨go10, (a1 : Int).toNat * 2, none⟩ = some (.int .i64 ((rd_T41 t295 a1).f0)) := hcc10 0 _ rfl; have hx10_1 : w11.cell? ⟨go10, (a1 : Int).toNat * 2 + 1, none⟩ = some (.int .i64 ((rd_T41 t295 a1).f1)) := hcc10 1 _ rfl; have hf10_0 : w11.frozen? ⟨go10, (a1 : Int).toNat * 2, none⟩ = false := hfr10 0; have hf10_1 : w11.frozen? ⟨go10, (a1 : Int).toNat * 2 + 1, none⟩ = false := hfr10 1; clear hcl10 hcc10 hfr10 hM10; replace p10 := eq_true p10; replace q10 := eq_true q10; have HX13 := Aside0.mk (show Kd.R k41 41 w11 w.heap.size (fun _ => True) (.slice (some ⟨go10, 0, none⟩) t295.length co12) t295 from (by (with_reducible repeat (first | apply Kd.R_alloc | apply Kd.R_drewN | apply Kd.R_drew)); exact HO297.out)); obtain ⟨ce13, hcl13, hM13, hcc13, hfr13⟩ := Kd.R_elem HX13.out z41 (a1 : Int) (of_decide_eq_true (by first | (with_reducible assumption) | assumption)) (by have h_ : (a1 : Int) < ((t295.length : Int) : Int) := of_decide_eq_true (by first | (with_reducible assumption) | assumption); first | exact h_ | (have e_ := (Kd.R_reads' HO297.out).1; omega) | simpa using h_); obtain rfl := k41_openM hM13; have HP13 := Kd.R_seg HX13.out (a1 : Int) (of_decide_eq_true (by first | (with_reducible assumption) | assumption)) (by have h_ : (a1 : Int) < ((t295.length : Int) : Int) := of_decide_eq_true (by first | (with_reducible assumption) | assumption); first | exact h_ | (have e_ := (Kd.R_reads' HO297.out).1; omega) | simpa using h_) (seg := [.int .i64 (wrap64 (((rd_T41 t295 a1).f1) + 1))]) (j := 1) hcl13 hcc13 (show 2 ≤ 2 from by decide) (x' := (⟨(rd_T41 t295 a1).f0, wrap64 (((rd_T41 t295 a1).f1) + 1)⟩ : S41)) (k41_mkM _ _ _ (⟨(rd_T41 t295 a1).f0, wrap64 (((rd_T41 t295 a1).f1) + 1)⟩ : S41) ) (fun _ hk => hk); have hx13_1 := hcc13 1 _ rfl; (try simp only [show (k41).sz = 2 from rfl, Nat.mul_one, Nat.add_zero] at hx13_1); have hf13_1 := hfr13 1; (try simp only [show (k41).sz = 2 from rfl, Nat.mul_one, Nat.add_zero] at hf13_1); clear hcl13 hcc13 hfr13 hM13) | ((with_reducible refine gate_store (t := 3) (p := 31) rfl ?_); refine store_event (t := 3) (p := 31) (v := ?vo_w14) (w1 := (w11.setCell ⟨go10, (a1 : Int).toNat * 2 + 1, none⟩ (.int .i64 (wrap64 (((rd_T41 t295 a1).f1) + 1))))) ?hg ?ho ?hn ?hr ?_; (case ho => rfl); (case hg => rfl); (case hn => rfl); (case hr => first | (go_simp; done) | (go_simp; rfl)); intro w14 hw; have hg : w11.grownBy w14 (some go10) := (by rw [hw]; exact HP13.2); have hp_ : Kd.R k41 41 w14 w.heap.size (fun _ => True) (.slice (some ⟨go10, 0, none⟩) t295.length co12) y299 := (by rw [hw, Ny299.out]; exact HP13.1); clear HP13; have n0_ := Aside0.mk (hp_); have n1_ := Aside0.mk ((by rw [hw]; exact below_set (HB.out) GB10.out : Below w.heap.size w w14)); clear HO297; clear HB; have HO297 := n0_; have HB := n1_; clear n0_ n1_; clear hg hw hp_))
            go_ret2
            exact ⟨_, by first | rfl | (simp [errW_none, errW_some] <;> rfl) | (simp [*, errW_none, errW_some] <;> rfl), by (with_reducible repeat (first | apply Kd.R_alloc | apply Kd.R_drewN | apply Kd.R_drew)); exact HO297.out, by repeat (first | (with_reducible first | exact HB.out | apply below_alloc | apply pw_below_drewN | apply below_drew1) | exact HB.out)⟩
          · rw [if_neg c9] at H
            exact absurd H (by simp)
      · rw [if_neg c6] at H
        exact absurd H (by simp)
    · rw [if_neg c5] at H
      exact absurd H (by simp)
  · rw [if_neg c4] at H
    have c4b0 : (t293 == 0) = false := beq_eq_false_iff_ne.mpr c4
    have c4b1 : (t293 != 0) = true := bne_iff_ne.mpr c4
    simp only [Option.some.injEq, Prod.mk.injEq] at H
    obtain ⟨rfl, rfl⟩ := H
    go_enter Try.func24, Try.ntmps24
    go_wp2_with (first | ((with_reducible refine gate_callee (f := 39) rfl ?_); refine goesL_ (some 10) rfl rfl Try.func39 (by kernel_rfl) rfl #[.slice A0 l0.length c0, .int .i64 a1] rfl (by (try simp only [List.map_toArray, List.map_cons, List.map_nil]); first | done | rfl | (simp only [List.length_drop, List.length_take]; rfl)) ?_; (with_reducible refine (estoversref32_used.calls k _ _ l0 a1 t293 _ ?side1 ?side2 A3.out).mono ?_); (case side1 => repeat (first | exact HR0.out | (with_reducible refine Kd.C_alloc ?_ _) | (with_reducible refine Kd.C_drewN ?_ _) | (with_reducible refine Kd.C_drew ?_))); (case side2 => exact HC0.out); rintro e w' ⟨rfl, ⟨nd, rfl⟩⟩; refine ⟨_, rfl, ?_⟩))
    go_ret2
    exact ⟨_, by first | rfl | (simp [errW_none, errW_some] <;> rfl) | (simp [*, errW_none, errW_some] <;> rfl), by first | exact Kd.R_nil _ _ _ _ _ | exact Kd.N_nil _ _ _ _ _ | exact Kd.V_nil _ _ _ _ _ | exact Kd.Q_nil _ _ _ _ _ | exact Kd.S_nil _ _ _ _ _, by repeat (first | (with_reducible first | exact HB.out | apply below_alloc | apply pw_below_drewN | apply below_drew1) | exact HB.out)⟩

/-! ### estoversref32_Drop: function 25 -/
def estoversref32_Drop.f (k : Nat) (l0 : List (S41)) (a1 : Int) (a2 : Bool) : Option ((List (S41)) × Bool × Int) := (estoversref32_used.f k l0 a1).bind fun t300 => (if t300 = 0 then (if 0 ≤ a1 then (if a1 < (l0.length : Int) then (if ((rd_T41 l0 a1).f1) = 0 then (some (([] : List (S41)), false, 11)) else ((estoversref32_Copy.f k l0).bind fun t302 => (if a1 < (t302.length : Int) then ((some (t302.set (a1 : Int).toNat (⟨(rd_T41 t302 a1).f0, wrap64 (((rd_T41 t302 a1).f1) - 1)⟩ : S41) : List (S41))).bind fun y306 => (if ((rd_T41 y306 a1).f1) = 0 then (if a2 = true then (some (y306, false, 0)) else (some ((y306.set (a1 : Int).toNat (⟨0, 0⟩ : S41)), true, 0))) else (some (y306, false, 0)))) else (none)))) else (none)) else (none)) else (some (([] : List (S41)), false, t300)))
theorem estoversref32_Drop.mono : ∀ a0 a1 a2 k, LeO (estoversref32_Drop.f k a0 a1 a2) (estoversref32_Drop.f (k + 1) a0 a1 a2) := by
  intro a0 a1 a2 k
  unfold estoversref32_Drop.f
  repeat' first
      | (with_reducible exact estoversref32_Copy.mono _ _)
      | (with_reducible exact estoversref32_used.mono _ _ _)
      | (with_reducible exact LeO.refl _)
      | (with_reducible exact LeO.none _)
      | (with_reducible refine LeO.ite ?_ ?_)
      | (with_reducible refine LeO.bind ?_ (fun _ => ?_))
      | exact estoversref32_Copy.mono _ _
      | exact estoversref32_used.mono _ _ _
      | exact LeO.none _
      | refine LeO.ite ?_ ?_
      | refine LeO.bind ?_ (fun _ => ?_)
set_option maxHeartbeats 8000000 in
set_option maxRecDepth 100000 in
theorem estoversref32_Drop.calls (k : Nat) (A0 : Option Addr) (c0 : Nat) (l0 : List (S41)) (a1 : Int) (a2 : Bool) (r1 : List (S41)) (r2 : Bool) (r3 : Int) (w : World) (hr0 : Kd.C k41 w A0 l0.length l0) (hc0 : l0.length ≤ c0) (h : estoversref32_Drop.f k l0 a1 a2 = some (r1, r2, r3)) :
    Calls Try.prog 25 #[.slice A0 l0.length c0, .int .i64 a1, .bool a2] w fun e w' => ∃ v0_ : Value, e = .returned (.tuple #[v0_, .bool r2, .int .i64 r3]) ∧ Kd.R k41 41 w' w.heap.size (fun _ => True) v0_ r1 ∧ Below w.heap.size w w' := by
  have hu41 := Try.underlying41
  have HR0 := Aside0.mk hr0
  have HC0 := Aside0.mk hc0
  clear hr0 hc0
  have HB := Aside0.mk (Below.refl w.heap.size w)
  have H : ((estoversref32_used.f k l0 a1).bind fun t300 => (if t300 = 0 then (if 0 ≤ a1 then (if a1 < (l0.length : Int) then (if ((rd_T41 l0 a1).f1) = 0 then (some (([] : List (S41)), false, 11)) else ((estoversref32_Copy.f k l0).bind fun t302 => (if a1 < (t302.length : Int) then ((some (t302.set (a1 : Int).toNat (⟨(rd_T41 t302 a1).f0, wrap64 (((rd_T41 t302 a1).f1) - 1)⟩ : S41) : List (S41))).bind fun y306 => (if ((rd_T41 y306 a1).f1) = 0 then (if a2 = true then (some (y306, false, 0)) else (some ((y306.set (a1 : Int).toNat (⟨0, 0⟩ : S41)), true, 0))) else (some (y306, false, 0)))) else (none)))) else (none)) else (none)) else (some (([] : List (S41)), false, t300)))) = some (r1, r2, r3) := h
  clear h
  replace H := Option.bind_eq_some_iff.mp H
  obtain ⟨t300, A40, H⟩ := H
  replace H : (if t300 = 0 then (if 0 ≤ a1 then (if a1 < (l0.length : Int) then (if ((rd_T41 l0 a1).f1) = 0 then (some (([] : List (S41)), false, 11)) else ((estoversref32_Copy.f k l0).bind fun t302 => (if a1 < (t302.length : Int) then ((some (t302.set (a1 : Int).toNat (⟨(rd_T41 t302 a1).f0, wrap64 (((rd_T41 t302 a1).f1) - 1)⟩ : S41) : List (S41))).bind fun y306 => (if ((rd_T41 y306 a1).f1) = 0 then (if a2 = true then (some (y306, false, 0)) else (some ((y306.set (a1 : Int).toNat (⟨0, 0⟩ : S41)), true, 0))) else (some (y306, false, 0)))) else (none)))) else (none)) else (none)) else (some (([] : List (S41)), false, t300))) = some (r1, r2, r3) := H
  have A4 := Aside0.mk A40
  clear A40
  by_cases c5 : t300 = 0
  · rw [if_pos c5] at H
    have c5b0 : (t300 == 0) = true := beq_iff_eq.mpr c5
    have c5b1 : (t300 != 0) = false := bne_eq_false_iff_eq.mpr c5
    clear c5
    by_cases c6 : 0 ≤ a1
    · rw [if_pos c6] at H
      have c6b0 : decide (0 ≤ a1) = true := decide_eq_true c6
      clear c6
      by_cases c7 : a1 < (l0.length : Int)
      · rw [if_pos c7] at H
        have c7b0 : decide (a1 < (l0.length : Int)) = true := decide_eq_true c7
        clear c7
        by_cases c8 : ((rd_T41 l0 a1).f1) = 0
        · rw [if_pos c8] at H
          have c8b0 : (((rd_T41 l0 a1).f1) == 0) = true := beq_iff_eq.mpr c8
          have c8b1 : (((rd_T41 l0 a1).f1) != 0) = false := bne_eq_false_iff_eq.mpr c8
          clear c8
          simp only [Option.some.injEq, Prod.mk.injEq] at H
          obtain ⟨rfl, rfl, rfl⟩ := H
          go_enter Try.func25, Try.ntmps25
          go_wp2_with (first | ((with_reducible refine gate_callee (f := 39) rfl ?_); refine goesL_ (some 13) rfl rfl Try.func39 (by kernel_rfl) rfl #[.slice A0 l0.length c0, .int .i64 a1] rfl (by (try simp only [List.map_toArray, List.map_cons, List.map_nil]); first | done | rfl | (simp only [List.length_drop, List.length_take]; rfl)) ?_; (with_reducible refine (estoversref32_used.calls k _ _ l0 a1 t300 _ ?side1 ?side2 A4.out).mono ?_); (case side1 => repeat (first | exact HR0.out | (with_reducible refine Kd.C_alloc ?_ _) | (with_reducible refine Kd.C_drewN ?_ _) | (with_reducible refine Kd.C_drew ?_))); (case side2 => exact HC0.out); rintro e w' ⟨rfl, ⟨nd, rfl⟩⟩; refine ⟨_, rfl, ?_⟩; have p301 : 0 ≤ (a1 : Int) := of_decide_eq_true (by first | (with_reducible assumption) | assumption); have q301 : a1 < (l0.length : Int) := of_decide_eq_true (by first | (with_reducible assumption) | assumption); obtain ⟨ad301, e301, hx301_0, hx301_1⟩ := at_T41 HR0.out a1 p301 q301; cases e301; replace p301 := eq_true p301; replace q301 := eq_true q301))
          go_ret3
          exact ⟨_, by first | rfl | (simp [errW_none, errW_some] <;> rfl) | (simp [*, errW_none, errW_some] <;> rfl), by first | exact Kd.R_nil _ _ _ _ _ | exact Kd.N_nil _ _ _ _ _ | exact Kd.V_nil _ _ _ _ _ | exact Kd.Q_nil _ _ _ _ _ | exact Kd.S_nil _ _ _ _ _, by repeat (first | (with_reducible first | exact HB.out | apply below_alloc | apply pw_below_drewN | apply below_drew1) | exact HB.out)⟩
        · rw [if_neg c8] at H
          have c8b0 : (((rd_T41 l0 a1).f1) == 0) = false := beq_eq_false_iff_ne.mpr c8
          have c8b1 : (((rd_T41 l0 a1).f1) != 0) = true := bne_iff_ne.mpr c8
          replace H := Option.bind_eq_some_iff.mp H
          obtain ⟨t302, A90, H⟩ := H
          replace H : (if a1 < (t302.length : Int) then ((some (t302.set (a1 : Int).toNat (⟨(rd_T41 t302 a1).f0, wrap64 (((rd_T41 t302 a1).f1) - 1)⟩ : S41) : List (S41))).bind fun y306 => (if ((rd_T41 y306 a1).f1) = 0 then (if a2 = true then (some (y306, false, 0)) else (some ((y306.set (a1 : Int).toNat (⟨0, 0⟩ : S41)), true, 0))) else (some (y306, false, 0)))) else (none)) = some (r1, r2, r3) := H
          have A9 := Aside0.mk A90
          clear A90
          by_cases c10 : a1 < (t302.length : Int)
          · rw [if_pos c10] at H
            have c10b0 : decide (a1 < (t302.length : Int)) = true := decide_eq_true c10
            clear c10
            obtain ⟨y306, hy306⟩ : ∃ y_ : List (S41), y_ = (t302.set (a1 : Int).toNat (⟨(rd_T41 t302 a1).f0, wrap64 (((rd_T41 t302 a1).f1) - 1)⟩ : S41)) := ⟨_, rfl⟩
            replace H : (if ((rd_T41 y306 a1).f1) = 0 then (if a2 = true then (some (y306, false, 0)) else (some ((y306.set (a1 : Int).toNat (⟨0, 0⟩ : S41)), true, 0))) else (some (y306, false, 0))) = some (r1, r2, r3) := by first | (rw [hy306]; with_reducible exact H) | (have H2_ := (Option.bind_some _ _).symm.trans H; rw [hy306]; with_reducible exact H2_) | (have H2_ := (Option.bind_some _ _).symm.trans H; with_reducible exact H2_) | with_reducible exact H | (rw [hy306]; exact H) | exact H
            have Ny306 := Aside0.mk hy306
            clear hy306
            by_cases c12 : ((rd_T41 y306 a1).f1) = 0
            · rw [if_pos c12] at H
              have c12b0 : (((rd_T41 y306 a1).f1) == 0) = true := beq_iff_eq.mpr c12
              have c12b1 : (((rd_T41 y306 a1).f1) != 0) = false := bne_eq_false_iff_eq.mpr c12
              clear c12
              by_cases c13 : a2 = true
              · subst c13
                have H1 : (some (y306, false, 0)) = some (r1, r2, r3) := by rw [if_pos rfl] at H; exact H
                clear H
                have H := H1
                clear H1
                simp only [Option.some.injEq, Prod.mk.injEq] at H
                obtain ⟨rfl, rfl, rfl⟩ := H
                go_enter Try.func25, Try.ntmps25
                go_wp2_with (first | ((with_reducible refine gate_callee (f := 39) rfl ?_); refine goesL_ (some 13) rfl rfl Try.func39 (by kernel_rfl) rfl #[.slice A0 l0.length c0, .int .i64 a1] rfl (by (try simp only [List.map_toArray, List.map_cons, List.map_nil]); first | done | rfl | (simp only [List.length_drop, List.length_take]; rfl)) ?_; (with_reducible refine (estoversref32_used.calls k _ _ l0 a1 t300 _ ?side1 ?side2 A4.out).mono ?_); (case side1 => repeat (first | exact HR0.out | (with_reducible refine Kd.C_alloc ?_ _) | (with_reducible refine Kd.C_drewN ?_ _) | (with_reducible refine Kd.C_drew ?_))); (case side2 => exact HC0.out); rintro e w' ⟨rfl, ⟨nd, rfl⟩⟩; refine ⟨_, rfl, ?_⟩; have p301 : 0 ≤ (a1 : Int) := of_decide_eq_true (by first | (with_reducible assumption) | assumption); have q301 : a1 < (l0.length : Int) := of_decide_eq_true (by first | (with_reducible assumption) | assumption); obtain ⟨ad301, e301, hx301_0, hx301_1⟩ := at_T41 HR0.out a1 p301 q301; cases e301; replace p301 := eq_true p301; replace q301 := eq_true q301) | ((with_reducible refine gate_callee (f := 38) rfl ?_); refine goesL_ (some 24) rfl rfl Try.func38 (by kernel_rfl) rfl #[.slice (some ad301) l0.length c0] rfl (by (try simp only [List.map_toArray, List.map_cons, List.map_nil]); first | done | rfl | (simp only [List.length_drop, List.length_take]; rfl)) ?_; (with_reducible refine (estoversref32_Copy.calls k _ _ l0 t302 _ ?side1 ?side2 A9.out).mono ?_); (case side1 => repeat (first | exact HR0.out | (with_reducible refine Kd.C_alloc ?_ _) | (with_reducible refine Kd.C_drewN ?_ _) | (with_reducible refine Kd.C_drew ?_))); (case side2 => exact HC0.out); rintro e w14 ⟨v303, rfl, ho0, hb⟩; refine ⟨_, rfl, ?_⟩; have n0_ := Aside0.mk (Kd.R_lower ho0 (below_size (by repeat (first | (with_reducible first | exact HB.out | apply below_alloc | apply pw_below_drewN | apply below_drew1) | exact HB.out)))); have n1_ := Aside0.mk (below_step (by repeat (first | (with_reducible first | exact HB.out | apply below_alloc | apply pw_below_drewN | apply below_drew1) | exact HB.out)) hb); clear HB; have HO304 := n0_; have HB := n1_; clear n0_ n1_; (try clear hb); (try clear hb2); (try clear hk); (try clear hi); (try clear ho0); obtain ⟨Ao15, co15, eo15⟩ := Kd.R_slice HO304.out; subst eo15; have p305 : 0 ≤ (a1 : Int) := of_decide_eq_true (by first | (with_reducible assumption) | assumption); have q305 : a1 < (t302.length : Int) := of_decide_eq_true (by first | (with_reducible assumption) | assumption); obtain ⟨ad305, e305, hx305_0, hx305_1⟩ := at_T41 (Kd.R_reads' HO304.out).2.2 a1 p305 q305; cases e305; replace p305 := eq_true p305; replace q305 := eq_true q305; have p11 : 0 ≤ (a1 : Int) := of_decide_eq_true (by first | (with_reducible assumption) | assumption); have q11 : (a1 : Int) < ((t302.length : Int) : Int) := of_decide_eq_true (by first | (with_reducible assumption) | assumption); obtain ⟨go11, co11, eo11, gb11, gl11, cl11, HG11⟩ := Kd.R_form HO304.out (by omega); (first | cases eo11 | (injection eo11 with ea_ en_ ec_; (first | subst ea_ | (injection ea_ with ea_; subst ea_)); subst ec_; clear en_)); have GB11 := Aside0.mk gb11; have GG11 := Aside0.mk HG11; clear gb11 gl11 HG11; (first | simp only [add_plain] at hx305_0 | skip); (first | simp only [add_plain] at hx305_1 | skip); obtain ⟨ce11, hcl11, hM11, hcc11, hfr11⟩ := Kd.R_elem HO304.out z41 (a1 : Int) p11 q11; obtain rfl := k41_openM hM11; have hx11_0 : w14.cell? ⟨go11, (a1 : Int).toNat * 2, none⟩ = some (.int .i64 ((rd_T41 t302 a1).f0)) := hcc11 0 _ rfl; have hx11_1 : w14.cell? ⟨go11, (a1 : Int).toNat * 2 + 1, none⟩ = some (.int .i64 ((rd_T41 t302 a1).f1)) := hcc11 1 _ rfl; have hf11_0 : w14.frozen? ⟨go11, (a1 : Int).toNat * 2, none⟩ = false := hfr11 0; have hf11_1 : w14.frozen? ⟨go11, (a1 : Int).toNat * 2 + 1, none⟩ = false := hfr11 1; clear hcl11 hcc11 hfr11 hM11; replace p11 := eq_true p11; replace q11 := eq_true q11; have HX16 := Aside0.mk (show Kd.R k41 41 w14 w.heap.size (fun _ => True) (.slice (some ⟨go11, 0, none⟩) t302.length co15) t302 from (by (with_reducible repeat (first | apply Kd.R_alloc | apply Kd.R_drewN | apply Kd.R_drew)); exact HO304.out)); obtain ⟨ce16, hcl16, hM16, hcc16, hfr16⟩ := Kd.R_elem HX16.out z41 (a1 : Int) (of_decide_eq_true (by first | (with_reducible assumption) | assumption)) (by have h_ : (a1 : Int) < ((t302.length : Int) : Int) := of_decide_eq_true (by first | (with_reducible assumption) | assumption); first | exact h_ | (have e_ := (Kd.R_reads' HO304.out).1; omega) | simpa using h_); obtain rfl := k41_openM hM16; have HP16 := Kd.R_seg HX16.out (a1 : Int) (of_decide_eq_true (by first | (with_reducible assumption) | assumption)) (by have h_ : (a1 : Int) < ((t302.length : Int) : Int) := of_decide_eq_true (by first | (with_reducible assumption) | assumption); first | exact h_ | (have e_ := (Kd.R_reads' HO304.out).1; omega) | simpa using h_) (seg := [.int .i64 (wrap64 (((rd_T41 t302 a1).f1) - 1))]) (j := 1) hcl16 hcc16 (show 2 ≤ 2 from by decide) (x' := (⟨(rd_T41 t302 a1).f0, wrap64 (((rd_T41 t302 a1).f1) - 1)⟩ : S41)) (k41_mkM _ _ _ (⟨(rd_T41 t302 a1).f0, wrap64 (((rd_T41 t302 a1).f1) - 1)⟩ : S41) ) (fun _ hk => hk); have hx16_1 := hcc16 1 _ rfl; (try simp only [show (k41).sz = 2 from rfl, Nat.mul_one, Nat.add_zero] at hx16_1); have hf16_1 := hfr16 1; (try simp only [show (k41).sz = 2 from rfl, Nat.mul_one, Nat.add_zero] at hf16_1); clear hcl16 hcc16 hfr16 hM16) | ((with_reducible refine gate_store (t := 3) (p := 34) rfl ?_); refine store_event (t := 3) (p := 34) (v := ?vo_w17) (w1 := (w14.setCell ⟨go11, (a1 : Int).toNat * 2 + 1, none⟩ (.int .i64 (wrap64 (((rd_T41 t302 a1).f1) - 1))))) ?hg ?ho ?hn ?hr ?_; (case ho => rfl); (case hg => rfl); (case hn => rfl); (case hr => first | (go_simp; done) | (go_simp; rfl)); intro w17 hw; have hg : w14.grownBy w17 (some go11) := (by rw [hw]; exact HP16.2); have hp_ : Kd.R k41 41 w17 w.heap.size (fun _ => True) (.slice (some ⟨go11, 0, none⟩) t302.length co15) y306 := (by rw [hw, Ny306.out]; exact HP16.1); clear HP16; have n0_ := Aside0.mk (hp_); have n1_ := Aside0.mk ((by rw [hw]; exact below_set (HB.out) GB11.out : Below w.heap.size w w17)); clear HO304; clear HB; have HO304 := n0_; have HB := n1_; clear n0_ n1_; clear hg hw hp_; have p307 : 0 ≤ (a1 : Int) := of_decide_eq_true (by first | (with_reducible assumption) | assumption); have q307 : a1 < (y306.length : Int) := (by have h_ : (a1 : Int) < ((t302.length : Int) : Int) := of_decide_eq_true (by first | (with_reducible assumption) | assumption); first | (have e_ := (Kd.R_reads' HO304.out).1; omega) | simpa only [Ny306.out, List.length_set] using h_); have ql307 : ((a1 : Int) < ((t302.length : Int) : Int)) = True := eq_true (of_decide_eq_true (by first | (with_reducible assumption) | assumption)); obtain ⟨ad307, e307, hx307_0, hx307_1⟩ := at_T41 (Kd.R_reads' HO304.out).2.2 a1 p307 q307; obtain rfl : (⟨go11, 0, none⟩ : Addr) = ad307 := (by injection e307); (first | simp only [add_plain] at hx307_0 | simp only [add_at] at hx307_0 | simp only [Addr.add, Nat.zero_add] at hx307_0 | skip); (first | simp only [add_plain] at hx307_1 | simp only [add_at] at hx307_1 | simp only [Addr.add, Nat.zero_add] at hx307_1 | skip); replace p307 := eq_true p307; replace q307 := eq_true q307))
                go_ret3
                exact ⟨_, by first | rfl | (simp [errW_none, errW_some] <;> rfl) | (simp [*, errW_none, errW_some] <;> rfl), by (with_reducible repeat (first | apply Kd.R_alloc | apply Kd.R_drewN | apply Kd.R_drew)); exact HO304.out, by repeat (first | (with_reducible first | exact HB.out | apply below_alloc | apply pw_below_drewN | apply below_drew1) | exact HB.out)⟩
              · replace c13 := Bool.eq_false_iff.mpr c13
                subst c13
                have H1 : (some ((y306.set (a1 : Int).toNat (⟨0, 0⟩ : S41)), true, 0)) = some (r1, r2, r3) := by rw [if_neg (show ¬ (false = true) by decide)] at H; exact H
                clear H
                have H := H1
                clear H1
                obtain ⟨y308, hy308⟩ : ∃ y_ : List (S41), y_ = (y306.set (a1 : Int).toNat (⟨0, 0⟩ : S41)) := ⟨_, rfl⟩
                replace H : (some (y308, true, 0)) = some (r1, r2, r3) := by first | (rw [hy308]; with_reducible exact H) | (have H2_ := (Option.bind_some _ _).symm.trans H; rw [hy308]; with_reducible exact H2_) | (have H2_ := (Option.bind_some _ _).symm.trans H; with_reducible exact H2_) | with_reducible exact H | (rw [hy308]; exact H) | exact H
                have Ny308 := Aside0.mk hy308
                clear hy308
                simp only [Option.some.injEq, Prod.mk.injEq] at H
                obtain ⟨rfl, rfl, rfl⟩ := H
                go_enter Try.func25, Try.ntmps25
                go_wp2_with (first | ((with_reducible refine gate_callee (f := 39) rfl ?_); refine goesL_ (some 13) rfl rfl Try.func39 (by kernel_rfl) rfl #[.slice A0 l0.length c0, .int .i64 a1] rfl (by (try simp only [List.map_toArray, List.map_cons, List.map_nil]); first | done | rfl | (simp only [List.length_drop, List.length_take]; rfl)) ?_; (with_reducible refine (estoversref32_used.calls k _ _ l0 a1 t300 _ ?side1 ?side2 A4.out).mono ?_); (case side1 => repeat (first | exact HR0.out | (with_reducible refine Kd.C_alloc ?_ _) | (with_reducible refine Kd.C_drewN ?_ _) | (with_reducible refine Kd.C_drew ?_))); (case side2 => exact HC0.out); rintro e w' ⟨rfl, ⟨nd, rfl⟩⟩; refine ⟨_, rfl, ?_⟩; have p301 : 0 ≤ (a1 : Int) := of_decide_eq_true (by first | (with_reducible assumption) | assumption); have q301 : a1 < (l0.length : Int) := of_decide_eq_true (by first | (with_reducible assumption) | assumption); obtain ⟨ad301, e301, hx301_0, hx301_1⟩ := at_T41 HR0.out a1 p301 q301; cases e301; replace p301 := eq_true p301; replace q301 := eq_true q301) | ((with_reducible refine gate_callee (f := 38) rfl ?_); refine goesL_ (some 24) rfl rfl Try.func38 (by kernel_rfl) rfl #[.slice (some ad301) l0.length c0] rfl (by (try simp only [List.map_toArray, List.map_cons, List.map_nil]); first | done | rfl | (simp only [List.length_drop, List.length_take]; rfl)) ?_; (with_reducible refine (estoversref32_Copy.calls k _ _ l0 t302 _ ?side1 ?side2 A9.out).mono ?_); (case side1 => repeat (first | exact HR0.out | (with_reducible refine Kd.C_alloc ?_ _) | (with_reducible refine Kd.C_drewN ?_ _) | (with_reducible refine Kd.C_drew ?_))); (case side2 => exact HC0.out); rintro e w19 ⟨v303, rfl, ho0, hb⟩; refine ⟨_, rfl, ?_⟩; have n0_ := Aside0.mk (Kd.R_lower ho0 (below_size (by repeat (first | (with_reducible first | exact HB.out | apply below_alloc | apply pw_below_drewN | apply below_drew1) | exact HB.out)))); have n1_ := Aside0.mk (below_step (by repeat (first | (with_reducible first | exact HB.out | apply below_alloc | apply pw_below_drewN | apply below_drew1) | exact HB.out)) hb); clear HB; have HO304 := n0_; have HB := n1_; clear n0_ n1_; (try clear hb); (try clear hb2); (try clear hk); (try clear hi); (try clear ho0); obtain ⟨Ao20, co20, eo20⟩ := Kd.R_slice HO304.out; subst eo20; have p305 : 0 ≤ (a1 : Int) := of_decide_eq_true (by first | (with_reducible assumption) | assumption); have q305 : a1 < (t302.length : Int) := of_decide_eq_true (by first | (with_reducible assumption) | assumption); obtain ⟨ad305, e305, hx305_0, hx305_1⟩ := at_T41 (Kd.R_reads' HO304.out).2.2 a1 p305 q305; cases e305; replace p305 := eq_true p305; replace q305 := eq_true q305; have p11 : 0 ≤ (a1 : Int) := of_decide_eq_true (by first | (with_reducible assumption) | assumption); have q11 : (a1 : Int) < ((t302.length : Int) : Int) := of_decide_eq_true (by first | (with_reducible assumption) | assumption); obtain ⟨go11, co11, eo11, gb11, gl11, cl11, HG11⟩ := Kd.R_form HO304.out (by omega); (first | cases eo11 | (injection eo11 with ea_ en_ ec_; (first | subst ea_ | (injection ea_ with ea_; subst ea_)); subst ec_; clear en_)); have GB11 := Aside0.mk gb11; have GG11 := Aside0.mk HG11; clear gb11 gl11 HG11; (first | simp only [add_plain] at hx305_0 | skip); (first | simp only [add_plain] at hx305_1 | skip); obtain ⟨ce11, hcl11, hM11, hcc11, hfr11⟩ := Kd.R_elem HO304.out z41 (a1 : Int) p11 q11; obtain rfl := k41_openM hM11; have hx11_0 : w19.cell? ⟨go11, (a1 : Int).toNat * 2, none⟩ = some (.int .i64 ((rd_T41 t302 a1).f0)) := hcc11 0 _ rfl; have hx11_1 : w19.cell? ⟨go11, (a1 : Int).toNat * 2 + 1, none⟩ = some (.int .i64 ((rd_T41 t302 a1).f1)) := hcc11 1 _ rfl; have hf11_0 : w19.frozen? ⟨go11, (a1 : Int).toNat * 2, none⟩ = false := hfr11 0; have hf11_1 : w19.frozen? ⟨go11, (a1 : Int).toNat * 2 + 1, none⟩ = false := hfr11 1; clear hcl11 hcc11 hfr11 hM11; replace p11 := eq_true p11; replace q11 := eq_true q11; have HX21 := Aside0.mk (show Kd.R k41 41 w19 w.heap.size (fun _ => True) (.slice (some ⟨go11, 0, none⟩) t302.length co20) t302 from (by (with_reducible repeat (first | apply Kd.R_alloc | apply Kd.R_drewN | apply Kd.R_drew)); exact HO304.out)); obtain ⟨ce21, hcl21, hM21, hcc21, hfr21⟩ := Kd.R_elem HX21.out z41 (a1 : Int) (of_decide_eq_true (by first | (with_reducible assumption) | assumption)) (by have h_ : (a1 : Int) < ((t302.length : Int) : Int) := of_decide_eq_true (by first | (with_reducible assumption) | assumption); first | exact h_ | (have e_ := (Kd.R_reads' HO304.out).1; omega) | simpa using h_); obtain rfl := k41_openM hM21; have HP21 := Kd.R_seg HX21.out (a1 : Int) (of_decide_eq_true (by first | (with_reducible assumption) | assumption)) (by have h_ : (a1 : Int) < ((t302.length : Int) : Int) := of_decide_eq_true (by first | (with_reducible assumption) | assumption); first | exact h_ | (have e_ := (Kd.R_reads' HO304.out).1; omega) | simpa using h_) (seg := [.int .i64 (wrap64 (((rd_T41 t302 a1).f1) - 1))]) (j := 1) hcl21 hcc21 (show 2 ≤ 2 from by decide) (x' := (⟨(rd_T41 t302 a1).f0, wrap64 (((rd_T41 t302 a1).f1) - 1)⟩ : S41)) (k41_mkM _ _ _ (⟨(rd_T41 t302 a1).f0, wrap64 (((rd_T41 t302 a1).f1) - 1)⟩ : S41) ) (fun _ hk => hk); have hx21_1 := hcc21 1 _ rfl; (try simp only [show (k41).sz = 2 from rfl, Nat.mul_one, Nat.add_zero] at hx21_1); have hf21_1 := hfr21 1; (try simp only [show (k41).sz = 2 from rfl, Nat.mul_one, Nat.add_zero] at hf21_1); clear hcl21 hcc21 hfr21 hM21) | ((with_reducible refine gate_store (t := 3) (p := 34) rfl ?_); refine store_event (t := 3) (p := 34) (v := ?vo_w22) (w1 := (w19.setCell ⟨go11, (a1 : Int).toNat * 2 + 1, none⟩ (.int .i64 (wrap64 (((rd_T41 t302 a1).f1) - 1))))) ?hg ?ho ?hn ?hr ?_; (case ho => rfl); (case hg => rfl); (case hn => rfl); (case hr => first | (go_simp; done) | (go_simp; rfl)); intro w22 hw; have hg : w19.grownBy w22 (some go11) := (by rw [hw]; exact HP21.2); have hp_ : Kd.R k41 41 w22 w.heap.size (fun _ => True) (.slice (some ⟨go11, 0, none⟩) t302.length co20) y306 := (by rw [hw, Ny306.out]; exact HP21.1); clear HP21; have n0_ := Aside0.mk (hp_); have n1_ := Aside0.mk ((by rw [hw]; exact below_set (HB.out) GB11.out : Below w.heap.size w w22)); clear HO304; clear HB; have HO304 := n0_; have HB := n1_; clear n0_ n1_; clear hg hw hp_; have p307 : 0 ≤ (a1 : Int) := of_decide_eq_true (by first | (with_reducible assumption) | assumption); have q307 : a1 < (y306.length : Int) := (by have h_ : (a1 : Int) < ((t302.length : Int) : Int) := of_decide_eq_true (by first | (with_reducible assumption) | assumption); first | (have e_ := (Kd.R_reads' HO304.out).1; omega) | simpa only [Ny306.out, List.length_set] using h_); have ql307 : ((a1 : Int) < ((t302.length : Int) : Int)) = True := eq_true (of_decide_eq_true (by first | (with_reducible assumption) | assumption)); obtain ⟨ad307, e307, hx307_0, hx307_1⟩ := at_T41 (Kd.R_reads' HO304.out).2.2 a1 p307 q307; obtain rfl : (⟨go11, 0, none⟩ : Addr) = ad307 := (by injection e307); (first | simp only [add_plain] at hx307_0 | simp only [add_at] at hx307_0 | simp only [Addr.add, Nat.zero_add] at hx307_0 | skip); (first | simp only [add_plain] at hx307_1 | simp only [add_at] at hx307_1 | simp only [Addr.add, Nat.zero_add] at hx307_1 | skip); replace p307 := eq_true p307; replace q307 := eq_true q307; have p18 : 0 ≤ (a1 : Int) := of_decide_eq_true (by first | (with_reducible assumption) | assumption); have q18 : (a1 : Int) < ((t302.length : Int) : Int) := of_decide_eq_true (by first | (with_reducible assumption) | assumption); obtain ⟨ce18, hcl18, hM18, hcc18, hfr18⟩ := Kd.R_elem HO304.out z41 (a1 : Int) p18 q18; obtain rfl := k41_openM hM18; have hx18_0 : w22.cell? ⟨go11, (a1 : Int).toNat * 2, none⟩ = some (.int .i64 ((rd_T41 y306 a1).f0)) := hcc18 0 _ rfl; have hx18_1 : w22.cell? ⟨go11, (a1 : Int).toNat * 2 + 1, none⟩ = some (.int .i64 ((rd_T41 y306 a1).f1)) := hcc18 1 _ rfl; have hf18_0 : w22.frozen? ⟨go11, (a1 : Int).toNat * 2, none⟩ = false := hfr18 0; have hf18_1 : w22.frozen? ⟨go11, (a1 : Int).toNat * 2 + 1, none⟩ = false := hfr18 1; clear hcl18 hcc18 hfr18 hM18; replace p18 := eq_true p18; replace q18 := eq_true q18; have HX23 := Aside0.mk (show Kd.R k41 41 w22 w.heap.size (fun _ => True) (.slice (some ⟨go11, 0, none⟩) t302.length co20) y306 from (by (with_reducible repeat (first | apply Kd.R_alloc | apply Kd.R_drewN | apply Kd.R_drew)); exact HO304.out)); obtain ⟨ce23, hcl23, hM23, hcc23, hfr23⟩ := Kd.R_elem HX23.out z41 (a1 : Int) (of_decide_eq_true (by first | (with_reducible assumption) | assumption)) (by have h_ : (a1 : Int) < ((t302.length : Int) : Int) := of_decide_eq_true (by first | (with_reducible assumption) | assumption); first | exact h_ | (have e_ := (Kd.R_reads' HO304.out).1; omega) | simpa using h_); obtain rfl := k41_openM hM23; have HP23 := Kd.R_seg HX23.out (a1 : Int) (of_decide_eq_true (by first | (with_reducible assumption) | assumption)) (by have h_ : (a1 : Int) < ((t302.length : Int) : Int) := of_decide_eq_true (by first | (with_reducible assumption) | assumption); first | exact h_ | (have e_ := (Kd.R_reads' HO304.out).1; omega) | simpa using h_) (seg := [.int .i64 0, .int .i64 0]) (j := 0) hcl23 hcc23 (show 2 ≤ 2 from by decide) (x' := (⟨0, 0⟩ : S41)) (k41_mkM _ _ _ (⟨0, 0⟩ : S41) ) (fun _ hk => hk); have hx23_0 := hcc23 0 _ rfl; (try simp only [show (k41).sz = 2 from rfl, Nat.mul_one, Nat.add_zero] at hx23_0); have hf23_0 := hfr23 0; (try simp only [show (k41).sz = 2 from rfl, Nat.mul_one, Nat.add_zero] at hf23_0); have hx23_1 := hcc23 1 _ rfl; (try simp only [show (k41).sz = 2 from rfl, Nat.mul_one, Nat.add_zero] at hx23_1); have hf23_1 := hfr23 1; (try simp only [show (k41).sz = 2 from rfl, Nat.mul_one, Nat.add_zero] at hf23_1); clear hcl23 hcc23 hfr23 hM23) | ((with_reducible refine gate_store (t := 41) (p := 48) rfl ?_); refine store_event (t := 41) (p := 48) (v := ?vo_w24) (w1 := ((w22.setCell ⟨go11, (a1 : Int).toNat * 2, none⟩ (.int .i64 0)).setCell ⟨go11, (a1 : Int).toNat * 2 + 1, none⟩ (.int .i64 0))) ?hg ?ho ?hn ?hr ?_; (case ho => rfl); (case hg => rfl); (case hn => rfl); (case hr => first | (go_simp; done) | (go_simp; rfl)); intro w24 hw; have hg : w22.grownBy w24 (some go11) := (by rw [hw]; exact HP23.2); have hp_ : Kd.R k41 41 w24 w.heap.size (fun _ => True) (.slice (some ⟨go11, 0, none⟩) t302.length co20) y308 := (by rw [hw, Ny308.out]; exact HP23.1); clear HP23; have n0_ := Aside0.mk (hp_); have n1_ := Aside0.mk ((by rw [hw]; exact below_set (below_set (HB.out) GB11.out) GB11.out : Below w.heap.size w w24)); clear HO304; clear HB; have HO304 := n0_; have HB := n1_; clear n0_ n1_; clear hg hw hp_))
                go_ret3
                exact ⟨_, by first | rfl | (simp [errW_none, errW_some] <;> rfl) | (simp [*, errW_none, errW_some] <;> rfl), by (with_reducible repeat (first | apply Kd.R_alloc | apply Kd.R_drewN | apply Kd.R_drew)); exact HO304.out, by repeat (first | (with_reducible first | exact HB.out | apply below_alloc | apply pw_below_drewN | apply below_drew1) | exact HB.out)⟩
            · rw [if_neg c12] at H
              have c12b0 : (((rd_T41 y306 a1).f1) == 0) = false := beq_eq_false_iff_ne.mpr c12
              have c12b1 : (((rd_T41 y306 a1).f1) != 0) = true := bne_iff_ne.mpr c12
              simp only [Option.some.injEq, Prod.mk.injEq] at H
              obtain ⟨rfl, rfl, rfl⟩ := H
              go_enter Try.func25, Try.ntmps25
              go_wp2_with (first | ((with_reducible refine gate_callee (f := 39) rfl ?_); refine goesL_ (some 13) rfl rfl Try.func39 (by kernel_rfl) rfl #[.slice A0 l0.length c0, .int .i64 a1] rfl (by (try simp only [List.map_toArray, List.map_cons, List.map_nil]); first | done | rfl | (simp only [List.length_drop, List.length_take]; rfl)) ?_; (with_reducible refine (estoversref32_used.calls k _ _ l0 a1 t300 _ ?side1 ?side2 A4.out).mono ?_); (case side1 => repeat (first | exact HR0.out | (with_reducible refine Kd.C_alloc ?_ _) | (with_reducible refine Kd.C_drewN ?_ _) | (with_reducible refine Kd.C_drew ?_))); (case side2 => exact HC0.out); rintro e w' ⟨rfl, ⟨nd, rfl⟩⟩; refine ⟨_, rfl, ?_⟩; have p301 : 0 ≤ (a1 : Int) := of_decide_eq_true (by first | (with_reducible assumption) | assumption); have q301 : a1 < (l0.length : Int) := of_decide_eq_true (by first | (with_reducible assumption) | assumption); obtain ⟨ad301, e301, hx301_0, hx301_1⟩ := at_T41 HR0.out a1 p301 q301; cases e301; replace p301 := eq_true p301; replace q301 := eq_true q301) | ((with_reducible refine gate_callee (f := 38) rfl ?_); refine goesL_ (some 24) rfl rfl Try.func38 (by kernel_rfl) rfl #[.slice (some ad301) l0.length c0] rfl (by (try simp only [List.map_toArray, List.map_cons, List.map_nil]); first | done | rfl | (simp only [List.length_drop, List.length_take]; rfl)) ?_; (with_reducible refine (estoversref32_Copy.calls k _ _ l0 t302 _ ?side1 ?side2 A9.out).mono ?_); (case side1 => repeat (first | exact HR0.out | (with_reducible refine Kd.C_alloc ?_ _) | (with_reducible refine Kd.C_drewN ?_ _) | (with_reducible refine Kd.C_drew ?_))); (case side2 => exact HC0.out); rintro e w25 ⟨v303, rfl, ho0, hb⟩; refine ⟨_, rfl, ?_⟩; have n0_ := Aside0.mk (Kd.R_lower ho0 (below_size (by repeat (first | (with_reducible first | exact HB.out | apply below_alloc | apply pw_below_drewN | apply below_drew1) | exact HB.out)))); have n1_ := Aside0.mk (below_step (by repeat (first | (with_reducible first | exact HB.out | apply below_alloc | apply pw_below_drewN | apply below_drew1) | exact HB.out)) hb); clear HB; have HO304 := n0_; have HB := n1_; clear n0_ n1_; (try clear hb); (try clear hb2); (try clear hk); (try clear hi); (try clear ho0); obtain ⟨Ao26, co26, eo26⟩ := Kd.R_slice HO304.out; subst eo26; have p305 : 0 ≤ (a1 : Int) := of_decide_eq_true (by first | (with_reducible assumption) | assumption); have q305 : a1 < (t302.length : Int) := of_decide_eq_true (by first | (with_reducible assumption) | assumption); obtain ⟨ad305, e305, hx305_0, hx305_1⟩ := at_T41 (Kd.R_reads' HO304.out).2.2 a1 p305 q305; cases e305; replace p305 := eq_true p305; replace q305 := eq_true q305; have p11 : 0 ≤ (a1 : Int) := of_decide_eq_true (by first | (with_reducible assumption) | assumption); have q11 : (a1 : Int) < ((t302.length : Int) : Int) := of_decide_eq_true (by first | (with_reducible assumption) | assumption); obtain ⟨go11, co11, eo11, gb11, gl11, cl11, HG11⟩ := Kd.R_form HO304.out (by omega); (first | cases eo11 | (injection eo11 with ea_ en_ ec_; (first | subst ea_ | (injection ea_ with ea_; subst ea_)); subst ec_; clear en_)); have GB11 := Aside0.mk gb11; have GG11 := Aside0.mk HG11; clear gb11 gl11 HG11; (first | simp only [add_plain] at hx305_0 | skip); (first | simp only [add_plain] at hx305_1 | skip); obtain ⟨ce11, hcl11, hM11, hcc11, hfr11⟩ := Kd.R_elem HO304.out z41 (a1 : Int) p11 q11; obtain rfl := k41_openM hM11; have hx11_0 : w25.cell? ⟨go11, (a1 : Int).toNat * 2, none⟩ = some (.int .i64 ((rd_T41 t302 a1).f0)) := hcc11 0 _ rfl; have hx11_1 : w25.cell? ⟨go11, (a1 : Int).toNat * 2 + 1, none⟩ = some (.int .i64 ((rd_T41 t302 a1).f1)) := hcc11 1 _ rfl; have hf11_0 : w25.frozen? ⟨go11, (a1 : Int).toNat * 2, none⟩ = false := hfr11 0; have hf11_1 : w25.frozen? ⟨go11, (a1 : Int).toNat * 2 + 1, none⟩ = false := hfr11 1; clear hcl11 hcc11 hfr11 hM11; replace p11 := eq_true p11; replace q11 := eq_true q11; have HX27 := Aside0.mk (show Kd.R k41 41 w25 w.heap.size (fun _ => True) (.slice (some ⟨go11, 0, none⟩) t302.length co26) t302 from (by (with_reducible repeat (first | apply Kd.R_alloc | apply Kd.R_drewN | apply Kd.R_drew)); exact HO304.out)); obtain ⟨ce27, hcl27, hM27, hcc27, hfr27⟩ := Kd.R_elem HX27.out z41 (a1 : Int) (of_decide_eq_true (by first | (with_reducible assumption) | assumption)) (by have h_ : (a1 : Int) < ((t302.length : Int) : Int) := of_decide_eq_true (by first | (with_reducible assumption) | assumption); first | exact h_ | (have e_ := (Kd.R_reads' HO304.out).1; omega) | simpa using h_); obtain rfl := k41_openM hM27; have HP27 := Kd.R_seg HX27.out (a1 : Int) (of_decide_eq_true (by first | (with_reducible assumption) | assumption)) (by have h_ : (a1 : Int) < ((t302.length : Int) : Int) := of_decide_eq_true (by first | (with_reducible assumption) | assumption); first | exact h_ | (have e_ := (Kd.R_reads' HO304.out).1; omega) | simpa using h_) (seg := [.int .i64 (wrap64 (((rd_T41 t302 a1).f1) - 1))]) (j := 1) hcl27 hcc27 (show 2 ≤ 2 from by decide) (x' := (⟨(rd_T41 t302 a1).f0, wrap64 (((rd_T41 t302 a1).f1) - 1)⟩ : S41)) (k41_mkM _ _ _ (⟨(rd_T41 t302 a1).f0, wrap64 (((rd_T41 t302 a1).f1) - 1)⟩ : S41) ) (fun _ hk => hk); have hx27_1 := hcc27 1 _ rfl; (try simp only [show (k41).sz = 2 from rfl, Nat.mul_one, Nat.add_zero] at hx27_1); have hf27_1 := hfr27 1; (try simp only [show (k41).sz = 2 from rfl, Nat.mul_one, Nat.add_zero] at hf27_1); clear hcl27 hcc27 hfr27 hM27) | ((with_reducible refine gate_store (t := 3) (p := 34) rfl ?_); refine store_event (t := 3) (p := 34) (v := ?vo_w28) (w1 := (w25.setCell ⟨go11, (a1 : Int).toNat * 2 + 1, none⟩ (.int .i64 (wrap64 (((rd_T41 t302 a1).f1) - 1))))) ?hg ?ho ?hn ?hr ?_; (case ho => rfl); (case hg => rfl); (case hn => rfl); (case hr => first | (go_simp; done) | (go_simp; rfl)); intro w28 hw; have hg : w25.grownBy w28 (some go11) := (by rw [hw]; exact HP27.2); have hp_ : Kd.R k41 41 w28 w.heap.size (fun _ => True) (.slice (some ⟨go11, 0, none⟩) t302.length co26) y306 := (by rw [hw, Ny306.out]; exact HP27.1); clear HP27; have n0_ := Aside0.mk (hp_); have n1_ := Aside0.mk ((by rw [hw]; exact below_set (HB.out) GB11.out : Below w.heap.size w w28)); clear HO304; clear HB; have HO304 := n0_; have HB := n1_; clear n0_ n1_; clear hg hw hp_; have p307 : 0 ≤ (a1 : Int) := of_decide_eq_true (by first | (with_reducible assumption) | assumption); have q307 : a1 < (y306.length : Int) := (by have h_ : (a1 : Int) < ((t302.length : Int) : Int) := of_decide_eq_true (by first | (with_reducible assumption) | assumption); first | (have e_ := (Kd.R_reads' HO304.out).1; omega) | simpa only [Ny306.out, List.length_set] using h_); have ql307 : ((a1 : Int) < ((t302.length : Int) : Int)) = True := eq_true (of_decide_eq_true (by first | (with_reducible assumption) | assumption)); obtain ⟨ad307, e307, hx307_0, hx307_1⟩ := at_T41 (Kd.R_reads' HO304.out).2.2 a1 p307 q307; obtain rfl : (⟨go11, 0, none⟩ : Addr) = ad307 := (by injection e307); (first | simp only [add_plain] at hx307_0 | simp only [add_at] at hx307_0 | simp only [Addr.add, Nat.zero_add] at hx307_0 | skip); (first | simp only [add_plain] at hx307_1 | simp only [add_at] at hx307_1 | simp only [Addr.add, Nat.zero_add] at hx307_1 | skip); replace p307 := eq_true p307; replace q307 := eq_true q307))
              go_ret3
              exact ⟨_, by first | rfl | (simp [errW_none, errW_some] <;> rfl) | (simp [*, errW_none, errW_some] <;> rfl), by (with_reducible repeat (first | apply Kd.R_alloc | apply Kd.R_drewN | apply Kd.R_drew)); exact HO304.out, by repeat (first | (with_reducible first | exact HB.out | apply below_alloc | apply pw_below_drewN | apply below_drew1) | exact HB.out)⟩
          · rw [if_neg c10] at H
            exact absurd H (by simp)
      · rw [if_neg c7] at H
        exact absurd H (by simp)
    · rw [if_neg c6] at H
      exact absurd H (by simp)
  · rw [if_neg c5] at H
    have c5b0 : (t300 == 0) = false := beq_eq_false_iff_ne.mpr c5
    have c5b1 : (t300 != 0) = true := bne_iff_ne.mpr c5
    simp only [Option.some.injEq, Prod.mk.injEq] at H
    obtain ⟨rfl, rfl, rfl⟩ := H
    go_enter Try.func25, Try.ntmps25
    go_wp2_with (first | ((with_reducible refine gate_callee (f := 39) rfl ?_); refine goesL_ (some 13) rfl rfl Try.func39 (by kernel_rfl) rfl #[.slice A0 l0.length c0, .int .i64 a1] rfl (by (try simp only [List.map_toArray, List.map_cons, List.map_nil]); first | done | rfl | (simp only [List.length_drop, List.length_take]; rfl)) ?_; (with_reducible refine (estoversref32_used.calls k _ _ l0 a1 t300 _ ?side1 ?side2 A4.out).mono ?_); (case side1 => repeat (first | exact HR0.out | (with_reducible refine Kd.C_alloc ?_ _) | (with_reducible refine Kd.C_drewN ?_ _) | (with_reducible refine Kd.C_drew ?_))); (case side2 => exact HC0.out); rintro e w' ⟨rfl, ⟨nd, rfl⟩⟩; refine ⟨_, rfl, ?_⟩))
    go_ret3
    exact ⟨_, by first | rfl | (simp [errW_none, errW_some] <;> rfl) | (simp [*, errW_none, errW_some] <;> rfl), by first | exact Kd.R_nil _ _ _ _ _ | exact Kd.N_nil _ _ _ _ _ | exact Kd.V_nil _ _ _ _ _ | exact Kd.Q_nil _ _ _ _ _ | exact Kd.S_nil _ _ _ _ _, by repeat (first | (with_reducible first | exact HB.out | apply below_alloc | apply pw_below_drewN | apply below_drew1) | exact HB.out)⟩

/-! ### estoversref32_Release: function 26 -/
def estoversref32_Release.f (k : Nat) (l0 : List (S41)) (a1 : Int) : Option ((List (S41)) × Int) := (estoversref32_used.f k l0 a1).bind fun t309 => (if t309 = 0 then (if 0 ≤ a1 then (if a1 < (l0.length : Int) then (if ((rd_T41 l0 a1).f1) = 0 then ((estoversref32_Copy.f k l0).bind fun t311 => (if a1 < (t311.length : Int) then (some ((t311.set (a1 : Int).toNat (⟨0, 0⟩ : S41)), 0)) else (none))) else (some (([] : List (S41)), 21))) else (none)) else (none)) else (some (([] : List (S41)), t309)))
theorem estoversref32_Release.mono : ∀ a0 a1 k, LeO (estoversref32_Release.f k a0 a1) (estoversref32_Release.f (k + 1) a0 a1) := by
  intro a0 a1 k
  unfold estoversref32_Release.f
  repeat' first
      | (with_reducible exact estoversref32_Copy.mono _ _)
      | (with_reducible exact estoversref32_used.mono _ _ _)
      | (with_reducible exact LeO.refl _)
      | (with_reducible exact LeO.none _)
      | (with_reducible refine LeO.ite ?_ ?_)
      | (with_reducible refine LeO.bind ?_ (fun _ => ?_))
      | exact estoversref32_Copy.mono _ _
      | exact estoversref32_used.mono _ _ _
      | exact LeO.none _
      | refine LeO.ite ?_ ?_
      | refine LeO.bind ?_ (fun _ => ?_)
set_option maxHeartbeats 8000000 in
set_option maxRecDepth 100000 in
theorem estoversref32_Release.calls (k : Nat) (A0 : Option Addr) (c0 : Nat) (l0 : List (S41)) (a1 : Int) (r1 : List (S41)) (r2 : Int) (w : World) (hr0 : Kd.C k41 w A0 l0.length l0) (hc0 : l0.length ≤ c0) (h : estoversref32_Release.f k l0 a1 = some (r1, r2)) :
    Calls Try.prog 26 #[.slice A0 l0.length c0, .int .i64 a1] w fun e w' => ∃ v0_ : Value, e = .returned (.tuple #[v0_, .int .i64 r2]) ∧ Kd.R k41 41 w' w.heap.size (fun _ => True) v0_ r1 ∧ Below w.heap.size w w' := by
  have hu41 := Try.underlying41
  have HR0 := Aside0.mk hr0
  have HC0 := Aside0.mk hc0
  clear hr0 hc0
  have HB := Aside0.mk (Below.refl w.heap.size w)
  have H : ((estoversref32_used.f k l0 a1).bind fun t309 => (if t309 = 0 then (if 0 ≤ a1 then (if a1 < (l0.length : Int) then (if ((rd_T41 l0 a1).f1) = 0 then ((estoversref32_Copy.f k l0).bind fun t311 => (if a1 < (t311.length : Int) then (some ((t311.set (a1 : Int).toNat (⟨0, 0⟩ : S41)), 0)) else (none))) else (some (([] : List (S41)), 21))) else (none)) else (none)) else (some (([] : List (S41)), t309)))) = some (r1, r2) := h
  clear h
  replace H := Option.bind_eq_some_iff.mp H
  obtain ⟨t309, A30, H⟩ := H
  replace H : (if t309 = 0 then (if 0 ≤ a1 then (if a1 < (l0.length : Int) then (if ((rd_T41 l0 a1).f1) = 0 then ((estoversref32_Copy.f k l0).bind fun t311 => (if a1 < (t311.length : Int) then (some ((t311.set (a1 : Int).toNat (⟨0, 0⟩ : S41)), 0)) else (none))) else (some (([] : List (S41)), 21))) else (none)) else (none)) else (some (([] : List (S41)), t309))) = some (r1, r2) := H
  have A3 := Aside0.mk A30
  clear A30
  by_cases c4 : t309 = 0
  · rw [if_pos c4] at H
    have c4b0 : (t309 == 0) = true := beq_iff_eq.mpr c4
    have c4b1 : (t309 != 0) = false := bne_eq_false_iff_eq.mpr c4
    clear c4
    by_cases c5 : 0 ≤ a1
    · rw [if_pos c5] at H
      have c5b0 : decide (0 ≤ a1) = true := decide_eq_true c5
      clear c5
      by_cases c6 : a1 < (l0.length : Int)
      · rw [if_pos c6] at H
        have c6b0 : decide (a1 < (l0.length : Int)) = true := decide_eq_true c6
        clear c6
        by_cases c7 : ((rd_T41 l0 a1).f1) = 0
        · rw [if_pos c7] at H
          have c7b0 : (((rd_T41 l0 a1).f1) == 0) = true := beq_iff_eq.mpr c7
          have c7b1 : (((rd_T41 l0 a1).f1) != 0) = false := bne_eq_false_iff_eq.mpr c7
          clear c7
          replace H := Option.bind_eq_some_iff.mp H
          obtain ⟨t311, A80, H⟩ := H
          replace H : (if a1 < (t311.length : Int) then (some ((t311.set (a1 : Int).toNat (⟨0, 0⟩ : S41)), 0)) else (none)) = some (r1, r2) := H
          have A8 := Aside0.mk A80
          clear A80
          by_cases c9 : a1 < (t311.length : Int)
          · rw [if_pos c9] at H
            have c9b0 : decide (a1 < (t311.length : Int)) = true := decide_eq_true c9
            clear c9
            obtain ⟨y314, hy314⟩ : ∃ y_ : List (S41), y_ = (t311.set (a1 : Int).toNat (⟨0, 0⟩ : S41)) := ⟨_, rfl⟩
            replace H : (some (y314, 0)) = some (r1, r2) := by first | (rw [hy314]; with_reducible exact H) | (have H2_ := (Option.bind_some _ _).symm.trans H; rw [hy314]; with_reducible exact H2_) | (have H2_ := (Option.bind_some _ _).symm.trans H; with_reducible exact H2_) | with_reducible exact H | (rw [hy314]; exact H) | exact H
            have Ny314 := Aside0.mk hy314
            clear hy314
            simp only [Option.some.injEq, Prod.mk.injEq] at H
            obtain ⟨rfl, rfl⟩ := H
            go_enter Try.func26, Try.ntmps26
            go_wp2_with (first | ((with_reducible refine gate_callee (f := 39) rfl ?_); refine goesL_ (some 10) rfl rfl Try.func39 (by kernel_rfl) rfl #[.slice A0 l0.length c0, .int .i64 a1] rfl (by (try simp only [List.map_toArray, List.map_cons, List.map_nil]); first | done | rfl | (simp only [List.length_drop, List.length_take]; rfl)) ?_; (with_reducible refine (estoversref32_used.calls k _ _ l0 a1 t309 _ ?side1 ?side2 A3.out).mono ?_); (case side1 => repeat (first | exact HR0.out | (with_reducible refine Kd.C_alloc ?_ _) | (with_reducible refine Kd.C_drewN ?_ _) | (with_reducible refine Kd.C_drew ?_))); (case side2 => exact HC0.out); rintro e w' ⟨rfl, ⟨nd, rfl⟩⟩; refine ⟨_, rfl, ?_⟩; have p310 : 0 ≤ (a1 : Int) := of_decide_eq_true (by first | (with_reducible assumption) | assumption); have q310 : a1 < (l0.length : Int) := of_decide_eq_true (by first | (with_reducible assumption) | assumption); obtain ⟨ad310, e310, hx310_0, hx310_1⟩ := at_T41 HR0.out a1 p310 q310; cases e310; replace p310 := eq_true p310; replace q310 := eq_true q310) | ((with_reducible refine gate_callee (f := 38) rfl ?_); refine goesL_ (some 21) rfl rfl Try.func38 (by kernel_rfl) rfl #[.slice (some ad310) l0.length c0] rfl (by (try simp only [List.map_toArray, List.map_cons, List.map_nil]); first | done | rfl | (simp only [List.length_drop, List.length_take]; rfl)) ?_; (with_reducible refine (estoversref32_Copy.calls k _ _ l0 t311 _ ?side1 ?side2 A8.out).mono ?_); (case side1 => repeat (first | exact HR0.out | (with_reducible refine Kd.C_alloc ?_ _) | (with_reducible refine Kd.C_drewN ?_ _) | (with_reducible refine Kd.C_drew ?_))); (case side2 => exact HC0.out); rintro e w11 ⟨v312, rfl, ho0, hb⟩; refine ⟨_, rfl, ?_⟩; have n0_ := Aside0.mk (Kd.R_lower ho0 (below_size (by repeat (first | (with_reducible first | exact HB.out | apply below_alloc | apply pw_below_drewN | apply below_drew1) | exact HB.out)))); have n1_ := Aside0.mk (below_step (by repeat (first | (with_reducible first | exact HB.out | apply below_alloc | apply pw_below_drewN | apply below_drew1) | exact HB.out)) hb); clear HB; have HO313 := n0_; have HB := n1_; clear n0_ n1_; (try clear hb); (try clear hb2); (try clear hk); (try clear hi); (try clear ho0); have p10 : 0 ≤ (a1 : Int) := of_decide_eq_true (by first | (with_reducible assumption) | assumption); have q10 : (a1 : Int) < ((t311.length : Int) : Int) := of_decide_eq_true (by first | (with_reducible assumption) | assumption); obtain ⟨go10, co10, eo10, gb10, gl10, cl10, HG10⟩ := Kd.R_form HO313.out (by omega); (first | cases eo10 | (injection eo10 with ea_ en_ ec_; (first | subst ea_ | (injection ea_ with ea_; subst ea_)); subst ec_; clear en_)); have GB10 := Aside0.mk gb10; have GG10 := Aside0.mk HG10; clear gb10 gl10 HG10; obtain ⟨ce10, hcl10, hM10, hcc10, hfr10⟩ := Kd.R_elem HO313.out z41 (a1 : Int) p10 q10; obtain rfl := k41_openM hM10; have hx10_0 : w11.cell? ⟨go10, (a1 : Int).toNat * 2, none⟩ = some (.int .i64 ((rd_T41 t311 a1).f0)) := hcc10 0 _ rfl; have hx10_1 : w11.cell? ⟨go10, (a1 : Int).toNat * 2 + 1, none⟩ = some (.int .i64 ((rd_T41 t311 a1).f1)) := hcc10 1 _ rfl; have hf10_0 : w11.frozen? ⟨go10, (a1 : Int).toNat * 2, none⟩ = false := hfr10 0; have hf10_1 : w11.frozen? ⟨go10, (a1 : Int).toNat * 2 + 1, none⟩ = false := hfr10 1; clear hcl10 hcc10 hfr10 hM10; replace p10 := eq_true p10; replace q10 := eq_true q10; have HX12 := Aside0.mk (show Kd.R k41 41 w11 w.heap.size (fun _ => True) (.slice (some ⟨go10, 0, none⟩) t311.length co10) t311 from (by (with_reducible repeat (first | apply Kd.R_alloc | apply Kd.R_drewN | apply Kd.R_drew)); exact HO313.out)); obtain ⟨ce12, hcl12, hM12, hcc12, hfr12⟩ := Kd.R_elem HX12.out z41 (a1 : Int) (of_decide_eq_true (by first | (with_reducible assumption) | assumption)) (by have h_ : (a1 : Int) < ((t311.length : Int) : Int) := of_decide_eq_true (by first | (with_reducible assumption) | assumption); first | exact h_ | (have e_ := (Kd.R_reads' HO313.out).1; omega) | simpa using h_); obtain rfl := k41_openM hM12; have HP12 := Kd.R_seg HX12.out (a1 : Int) (of_decide_eq_true (by first | (with_reducible assumption) | assumption)) (by have h_ : (a1 : Int) < ((t311.length : Int) : Int) := of_decide_eq_true (by first | (with_reducible assumption) | assumption); first | exact h_ | (have e_ := (Kd.R_reads' HO313.out).1; omega) | simpa using h_) (seg := [.int .i64 0, .int .i64 0]) (j := 0) hcl12 hcc12 (show 2 ≤ 2 from by decide) (x' := (⟨0, 0⟩ : S41)) (k41_mkM _ _ _ (⟨0, 0⟩ : S41) ) (fun _ hk => hk); have hx12_0 := hcc12 0 _ rfl; (try simp only [show (k41).sz = 2 from rfl, Nat.mul_one, Nat.add_zero] at hx12_0); have hf12_0 := hfr12 0; (try simp only [show (k41).sz = 2 from rfl, Nat.mul_one, Nat.add_zero] at hf12_0); have hx12_1 := hcc12 1 _ rfl; (try simp only [show (k41).sz = 2 from rfl, Nat.mul_one, Nat.add_zero] at hx12_1); have hf12_1 := hfr12 1; (try simp only [show (k41).sz = 2 from rfl, Nat.mul_one, Nat.add_zero] at hf12_1); clear hcl12 hcc12 hfr12 hM12) | ((with_reducible refine gate_store (t := 41) (p := 25) rfl ?_); refine store_event (t := 41) (p := 25) (v := ?vo_w13) (w1 := ((w11.setCell ⟨go10, (a1 : Int).toNat * 2, none⟩ (.int .i64 0)).setCell ⟨go10, (a1 : Int).toNat * 2 + 1, none⟩ (.int .i64 0))) ?hg ?ho ?hn ?hr ?_; (case ho => rfl); (case hg => rfl); (case hn => rfl); (case hr => first | (go_simp; done) | (go_simp; rfl)); intro w13 hw; have hg : w11.grownBy w13 (some go10) := (by rw [hw]; exact HP12.2); have hp_ : Kd.R k41 41 w13 w.heap.size (fun _ => True) (.slice (some ⟨go10, 0, none⟩) t311.length co10) y314 := (by rw [hw, Ny314.out]; exact HP12.1); clear HP12; have n0_ := Aside0.mk (hp_); have n1_ := Aside0.mk ((by rw [hw]; exact below_set (below_set (HB.out) GB10.out) GB10.out : Below w.heap.size w w13)); clear HO313; clear HB; have HO313 := n0_; have HB := n1_; clear n0_ n1_; clear hg hw hp_))
            go_ret2
            exact ⟨_, by first | rfl | (simp [errW_none, errW_some] <;> rfl) | (simp [*, errW_none, errW_some] <;> rfl), by (with_reducible repeat (first | apply Kd.R_alloc | apply Kd.R_drewN | apply Kd.R_drew)); exact HO313.out, by repeat (first | (with_reducible first | exact HB.out | apply below_alloc | apply pw_below_drewN | apply below_drew1) | exact HB.out)⟩
          · rw [if_neg c9] at H
            exact absurd H (by simp)
        · rw [if_neg c7] at H
          have c7b0 : (((rd_T41 l0 a1).f1) == 0) = false := beq_eq_false_iff_ne.mpr c7
          have c7b1 : (((rd_T41 l0 a1).f1) != 0) = true := bne_iff_ne.mpr c7
          simp only [Option.some.injEq, Prod.mk.injEq] at H
          obtain ⟨rfl, rfl⟩ := H
          go_enter Try.func26, Try.ntmps26
          go_wp2_with (first | ((with_reducible refine gate_callee (f := 39) rfl ?_); refine goesL_ (some 10) rfl rfl Try.func39 (by kernel_rfl) rfl #[.slice A0 l0.length c0, .int .i64 a1] rfl (by (try simp only [List.map_toArray, List.map_cons, List.map_nil]); first | done | rfl | (simp only [List.length_drop, List.length_take]; rfl)) ?_; (with_reducible refine (estoversref32_used.calls k _ _ l0 a1 t309 _ ?side1 ?side2 A3.out).mono ?_); (case side1 => repeat (first | exact HR0.out | (with_reducible refine Kd.C_alloc ?_ _) | (with_reducible refine Kd.C_drewN ?_ _) | (with_reducible refine Kd.C_drew ?_))); (case side2 => exact HC0.out); rintro e w' ⟨rfl, ⟨nd, rfl⟩⟩; refine ⟨_, rfl, ?_⟩; have p310 : 0 ≤ (a1 : Int) := of_decide_eq_true (by first | (with_reducible assumption) | assumption); have q310 : a1 < (l0.length : Int) := of_decide_eq_true (by first | (with_reducible assumption) | assumption); obtain ⟨ad310, e310, hx310_0, hx310_1⟩ := at_T41 HR0.out a1 p310 q310; cases e310; replace p310 := eq_true p310; replace q310 := eq_true q310))
          go_ret2
          exact ⟨_, by first | rfl | (simp [errW_none, errW_some] <;> rfl) | (simp [*, errW_none, errW_some] <;> rfl), by first | exact Kd.R_nil _ _ _ _ _ | exact Kd.N_nil _ _ _ _ _ | exact Kd.V_nil _ _ _ _ _ | exact Kd.Q_nil _ _ _ _ _ | exact Kd.S_nil _ _ _ _ _, by repeat (first | (with_reducible first | exact HB.out | apply below_alloc | apply pw_below_drewN | apply below_drew1) | exact HB.out)⟩
      · rw [if_neg c6] at H
        exact absurd H (by simp)
    · rw [if_neg c5] at H
      exact absurd H (by simp)
  · rw [if_neg c4] at H
    have c4b0 : (t309 == 0) = false := beq_eq_false_iff_ne.mpr c4
    have c4b1 : (t309 != 0) = true := bne_iff_ne.mpr c4
    simp only [Option.some.injEq, Prod.mk.injEq] at H
    obtain ⟨rfl, rfl⟩ := H
    go_enter Try.func26, Try.ntmps26
    go_wp2_with (first | ((with_reducible refine gate_callee (f := 39) rfl ?_); refine goesL_ (some 10) rfl rfl Try.func39 (by kernel_rfl) rfl #[.slice A0 l0.length c0, .int .i64 a1] rfl (by (try simp only [List.map_toArray, List.map_cons, List.map_nil]); first | done | rfl | (simp only [List.length_drop, List.length_take]; rfl)) ?_; (with_reducible refine (estoversref32_used.calls k _ _ l0 a1 t309 _ ?side1 ?side2 A3.out).mono ?_); (case side1 => repeat (first | exact HR0.out | (with_reducible refine Kd.C_alloc ?_ _) | (with_reducible refine Kd.C_drewN ?_ _) | (with_reducible refine Kd.C_drew ?_))); (case side2 => exact HC0.out); rintro e w' ⟨rfl, ⟨nd, rfl⟩⟩; refine ⟨_, rfl, ?_⟩))
    go_ret2
    exact ⟨_, by first | rfl | (simp [errW_none, errW_some] <;> rfl) | (simp [*, errW_none, errW_some] <;> rfl), by first | exact Kd.R_nil _ _ _ _ _ | exact Kd.N_nil _ _ _ _ _ | exact Kd.V_nil _ _ _ _ _ | exact Kd.Q_nil _ _ _ _ _ | exact Kd.S_nil _ _ _ _ _, by repeat (first | (with_reducible first | exact HB.out | apply below_alloc | apply pw_below_drewN | apply below_drew1) | exact HB.out)⟩

-- GIVEN: function 27 (slots_Place)

/-! ### estoversref32_Place: function 28 -/
def estoversref32_Place.f (k : Nat) (l0 : List (S41)) (a1 : Int) (a2 : Int) : Option ((List (S41)) × Int) := (estoversref32_used.f k l0 a1).bind fun t315 => (if t315 = 0 then (if a2 = 1 then ((estoversref32_Copy.f k l0).bind fun t316 => (if 0 ≤ a1 then (if a1 < (t316.length : Int) then (some ((t316.set (a1 : Int).toNat (⟨a2, (rd_T41 t316 a1).f1⟩ : S41)), 0)) else (none)) else (none))) else (if a2 = 2 then ((estoversref32_Copy.f k l0).bind fun t320 => (if 0 ≤ a1 then (if a1 < (t320.length : Int) then (some ((t320.set (a1 : Int).toNat (⟨a2, (rd_T41 t320 a1).f1⟩ : S41)), 0)) else (none)) else (none))) else (if a2 = 3 then ((estoversref32_Copy.f k l0).bind fun t324 => (if 0 ≤ a1 then (if a1 < (t324.length : Int) then (some ((t324.set (a1 : Int).toNat (⟨a2, (rd_T41 t324 a1).f1⟩ : S41)), 0)) else (none)) else (none))) else (some (([] : List (S41)), 1))))) else (some (([] : List (S41)), t315)))
theorem estoversref32_Place.mono : ∀ a0 a1 a2 k, LeO (estoversref32_Place.f k a0 a1 a2) (estoversref32_Place.f (k + 1) a0 a1 a2) := by
  intro a0 a1 a2 k
  unfold estoversref32_Place.f
  repeat' first
      | (with_reducible exact estoversref32_Copy.mono _ _)
      | (with_reducible exact estoversref32_used.mono _ _ _)
      | (with_reducible exact LeO.refl _)
      | (with_reducible exact LeO.none _)
      | (with_reducible refine LeO.ite ?_ ?_)
      | (with_reducible refine LeO.bind ?_ (fun _ => ?_))
      | exact estoversref32_Copy.mono _ _
      | exact estoversref32_used.mono _ _ _
      | exact LeO.none _
      | refine LeO.ite ?_ ?_
      | refine LeO.bind ?_ (fun _ => ?_)
set_option maxHeartbeats 8000000 in
set_option maxRecDepth 100000 in
theorem estoversref32_Place.calls (k : Nat) (A0 : Option Addr) (c0 : Nat) (l0 : List (S41)) (a1 : Int) (a2 : Int) (r1 : List (S41)) (r2 : Int) (w : World) (hr0 : Kd.C k41 w A0 l0.length l0) (hc0 : l0.length ≤ c0) (h : estoversref32_Place.f k l0 a1 a2 = some (r1, r2)) :
    Calls Try.prog 28 #[.slice A0 l0.length c0, .int .i64 a1, .int .i64 a2] w fun e w' => ∃ v0_ : Value, e = .returned (.tuple #[v0_, .int .i64 r2]) ∧ Kd.R k41 41 w' w.heap.size (fun _ => True) v0_ r1 ∧ Below w.heap.size w w' := by
  have HR0 := Aside0.mk hr0
  have HC0 := Aside0.mk hc0
  clear hr0 hc0
  have HB := Aside0.mk (Below.refl w.heap.size w)
  have H : ((estoversref32_used.f k l0 a1).bind fun t315 => (if t315 = 0 then (if a2 = 1 then ((estoversref32_Copy.f k l0).bind fun t316 => (if 0 ≤ a1 then (if a1 < (t316.length : Int) then (some ((t316.set (a1 : Int).toNat (⟨a2, (rd_T41 t316 a1).f1⟩ : S41)), 0)) else (none)) else (none))) else (if a2 = 2 then ((estoversref32_Copy.f k l0).bind fun t320 => (if 0 ≤ a1 then (if a1 < (t320.length : Int) then (some ((t320.set (a1 : Int).toNat (⟨a2, (rd_T41 t320 a1).f1⟩ : S41)), 0)) else (none)) else (none))) else (if a2 = 3 then ((estoversref32_Copy.f k l0).bind fun t324 => (if 0 ≤ a1 then (if a1 < (t324.length : Int) then (some ((t324.set (a1 : Int).toNat (⟨a2, (rd_T41 t324 a1).f1⟩ : S41)), 0)) else (none)) else (none))) else (some (([] : List (S41)), 1))))) else (some (([] : List (S41)), t315)))) = some (r1, r2) := h
  clear h
  replace H := Option.bind_eq_some_iff.mp H
  obtain ⟨t315, A40, H⟩ := H
  replace H : (if t315 = 0 then (if a2 = 1 then ((estoversref32_Copy.f k l0).bind fun t316 => (if 0 ≤ a1 then (if a1 < (t316.length : Int) then (some ((t316.set (a1 : Int).toNat (⟨a2, (rd_T41 t316 a1).f1⟩ : S41)), 0)) else (none)) else (none))) else (if a2 = 2 then ((estoversref32_Copy.f k l0).bind fun t320 => (if 0 ≤ a1 then (if a1 < (t320.length : Int) then (some ((t320.set (a1 : Int).toNat (⟨a2, (rd_T41 t320 a1).f1⟩ : S41)), 0)) else (none)) else (none))) else (if a2 = 3 then ((estoversref32_Copy.f k l0).bind fun t324 => (if 0 ≤ a1 then (if a1 < (t324.length : Int) then (some ((t324.set (a1 : Int).toNat (⟨a2, (rd_T41 t324 a1).f1⟩ : S41)), 0)) else (none)) else (none))) else (some (([] : List (S41)), 1))))) else (some (([] : List (S41)), t315))) = some (r1, r2) := H
  have A4 := Aside0.mk A40
  clear A40
  by_cases c5 : t315 = 0
  · rw [if_pos c5] at H
    have c5b0 : (t315 == 0) = true := beq_iff_eq.mpr c5
    have c5b1 : (t315 != 0) = false := bne_eq_false_iff_eq.mpr c5
    clear c5
    by_cases c6 : a2 = 1
    · rw [if_pos c6] at H
      have c6b0 : (a2 == 1) = true := beq_iff_eq.mpr c6
      have c6b1 : (a2 != 1) = false := bne_eq_false_iff_eq.mpr c6
      clear c6
      replace H := Option.bind_eq_some_iff.mp H
      obtain ⟨t316, A70, H⟩ := H
      replace H : (if 0 ≤ a1 then (if a1 < (t316.length : Int) then (some ((t316.set (a1 : Int).toNat (⟨a2, (rd_T41 t316 a1).f1⟩ : S41)), 0)) else (none)) else (none)) = some (r1, r2) := H
      have A7 := Aside0.mk A70
      clear A70
      by_cases c8 : 0 ≤ a1
      · rw [if_pos c8] at H
        have c8b0 : decide (0 ≤ a1) = true := decide_eq_true c8
        clear c8
        by_cases c9 : a1 < (t316.length : Int)
        · rw [if_pos c9] at H
          have c9b0 : decide (a1 < (t316.length : Int)) = true := decide_eq_true c9
          clear c9
          obtain ⟨y319, hy319⟩ : ∃ y_ : List (S41), y_ = (t316.set (a1 : Int).toNat (⟨a2, (rd_T41 t316 a1).f1⟩ : S41)) := ⟨_, rfl⟩
          replace H : (some (y319, 0)) = some (r1, r2) := by first | (rw [hy319]; with_reducible exact H) | (have H2_ := (Option.bind_some _ _).symm.trans H; rw [hy319]; with_reducible exact H2_) | (have H2_ := (Option.bind_some _ _).symm.trans H; with_reducible exact H2_) | with_reducible exact H | (rw [hy319]; exact H) | exact H
          have Ny319 := Aside0.mk hy319
          clear hy319
          simp only [Option.some.injEq, Prod.mk.injEq] at H
          obtain ⟨rfl, rfl⟩ := H
          go_enter Try.func28, Try.ntmps28
          go_wp2_with (first | ((with_reducible refine gate_callee (f := 39) rfl ?_); refine goesL_ (some 12) rfl rfl Try.func39 (by kernel_rfl) rfl #[.slice A0 l0.length c0, .int .i64 a1] rfl (by (try simp only [List.map_toArray, List.map_cons, List.map_nil]); first | done | rfl | (simp only [List.length_drop, List.length_take]; rfl)) ?_; (with_reducible refine (estoversref32_used.calls k _ _ l0 a1 t315 _ ?side1 ?side2 A4.out).mono ?_); (case side1 => repeat (first | exact HR0.out | (with_reducible refine Kd.C_alloc ?_ _) | (with_reducible refine Kd.C_drewN ?_ _) | (with_reducible refine Kd.C_drew ?_))); (case side2 => exact HC0.out); rintro e w' ⟨rfl, ⟨nd, rfl⟩⟩; refine ⟨_, rfl, ?_⟩) | ((with_reducible refine gate_callee (f := 38) rfl ?_); refine goesL_ (some 27) rfl rfl Try.func38 (by kernel_rfl) rfl #[.slice A0 l0.length c0] rfl (by (try simp only [List.map_toArray, List.map_cons, List.map_nil]); first | done | rfl | (simp only [List.length_drop, List.length_take]; rfl)) ?_; (with_reducible refine (estoversref32_Copy.calls k _ _ l0 t316 _ ?side1 ?side2 A7.out).mono ?_); (case side1 => repeat (first | exact HR0.out | (with_reducible refine Kd.C_alloc ?_ _) | (with_reducible refine Kd.C_drewN ?_ _) | (with_reducible refine Kd.C_drew ?_))); (case side2 => exact HC0.out); rintro e w11 ⟨v317, rfl, ho0, hb⟩; refine ⟨_, rfl, ?_⟩; have n0_ := Aside0.mk (Kd.R_lower ho0 (below_size (by repeat (first | (with_reducible first | exact HB.out | apply below_alloc | apply pw_below_drewN | apply below_drew1) | exact HB.out)))); have n1_ := Aside0.mk (below_step (by repeat (first | (with_reducible first | exact HB.out | apply below_alloc | apply pw_below_drewN | apply below_drew1) | exact HB.out)) hb); clear HB; have HO318 := n0_; have HB := n1_; clear n0_ n1_; (try clear hb); (try clear hb2); (try clear hk); (try clear hi); (try clear ho0); have p10 : 0 ≤ (a1 : Int) := of_decide_eq_true (by first | (with_reducible assumption) | assumption); have q10 : (a1 : Int) < ((t316.length : Int) : Int) := of_decide_eq_true (by first | (with_reducible assumption) | assumption); obtain ⟨go10, co10, eo10, gb10, gl10, cl10, HG10⟩ := Kd.R_form HO318.out (by omega); (first | cases eo10 | (injection eo10 with ea_ en_ ec_; (first | subst ea_ | (injection ea_ with ea_; subst ea_)); subst ec_; clear en_)); have GB10 := Aside0.mk gb10; have GG10 := Aside0.mk HG10; clear gb10 gl10 HG10; obtain ⟨ce10, hcl10, hM10, hcc10, hfr10⟩ := Kd.R_elem HO318.out z41 (a1 : Int) p10 q10; obtain rfl := k41_openM hM10; have hx10_0 : w11.cell? ⟨go10, (a1 : Int).toNat * 2, none⟩ = some (.int .i64 ((rd_T41 t316 a1).f0)) := hcc10 0 _ rfl; have hx10_1 : w11.cell? ⟨go10, (a1 : Int).toNat * 2 + 1, none⟩ = some (.int .i64 ((rd_T41 t316 a1).f1)) := hcc10 1 _ rfl; have hf10_0 : w11.frozen? ⟨go10, (a1 : Int).toNat * 2, none⟩ = false := hfr10 0; have hf10_1 : w11.frozen? ⟨go10, (a1 : Int).toNat * 2 + 1, none⟩ = false := hfr10 1; clear hcl10 hcc10 hfr10 hM10; replace p10 := eq_true p10; replace q10 := eq_true q10; have HX12 := Aside0.mk (show Kd.R k41 41 w11 w.heap.size (fun _ => True) (.slice (some ⟨go10, 0, none⟩) t316.length co10) t316 from (by (with_reducible repeat (first | apply Kd.R_alloc | apply Kd.R_drewN | apply Kd.R_drew)); exact HO318.out)); obtain ⟨ce12, hcl12, hM12, hcc12, hfr12⟩ := Kd.R_elem HX12.out z41 (a1 : Int) (of_decide_eq_true (by first | (with_reducible assumption) | assumption)) (by have h_ : (a1 : Int) < ((t316.length : Int) : Int) := of_decide_eq_true (by first | (with_reducible assumption) | assumption); first | exact h_ | (have e_ := (Kd.R_reads' HO318.out).1; omega) | simpa using h_); obtain rfl := k41_openM hM12; have HP12 := Kd.R_seg HX12.out (a1 : Int) (of_decide_eq_true (by first | (with_reducible assumption) | assumption)) (by have h_ : (a1 : Int) < ((t316.length : Int) : Int) := of_decide_eq_true (by first | (with_reducible assumption) | assumption); first | exact h_ | (have e_ := (Kd.R_reads' HO318.out).1; omega) | simpa using h_) (seg := [.int .i64 a2]) (j := 0) hcl12 hcc12 (show 1 ≤ 2 from by decide) (x' := (⟨a2, (rd_T41 t316 a1).f1⟩ : S41)) (k41_mkM _ _ _ (⟨a2, (rd_T41 t316 a1).f1⟩ : S41) ) (fun _ hk => hk); have hx12_0 := hcc12 0 _ rfl; (try simp only [show (k41).sz = 2 from rfl, Nat.mul_one, Nat.add_zero] at hx12_0); have hf12_0 := hfr12 0; (try simp only [show (k41).sz = 2 from rfl, Nat.mul_one, Nat.add_zero] at hf12_0); clear hcl12 hcc12 hfr12 hM12) | ((with_reducible refine gate_store (t := 3) (p := 32) rfl ?_); refine store_event (t := 3) (p := 32) (v := ?vo_w13) (w1 := (w11.setCell ⟨go10, (a1 : Int).toNat * 2, none⟩ (.int .i64 a2))) ?hg ?ho ?hn ?hr ?_; (case ho => rfl); (case hg => rfl); (case hn => rfl); (case hr => first | (go_simp; done) | (go_simp; rfl)); intro w13 hw; have hg : w11.grownBy w13 (some go10) := (by rw [hw]; exact HP12.2); have hp_ : Kd.R k41 41 w13 w.heap.size (fun _ => True) (.slice (some ⟨go10, 0, none⟩) t316.length co10) y319 := (by rw [hw, Ny319.out]; exact HP12.1); clear HP12; have n0_ := Aside0.mk (hp_); have n1_ := Aside0.mk ((by rw [hw]; exact below_set (HB.out) GB10.out : Below w.heap.size w w13)); clear HO318; clear HB; have HO318 := n0_; have HB := n1_; clear n0_ n1_; clear hg hw hp_))
          go_ret2
          exact ⟨_, by first | rfl | (simp [errW_none, errW_some] <;> rfl) | (simp [*, errW_none, errW_some] <;> rfl), by (with_reducible repeat (first | apply Kd.R_alloc | apply Kd.R_drewN | apply Kd.R_drew)); exact HO318.out, by repeat (first | (with_reducible first | exact HB.out | apply below_alloc | apply pw_below_drewN | apply below_drew1) | exact HB.out)⟩
        · rw [if_neg c9] at H
          exact absurd H (by simp)
      · rw [if_neg c8] at H
        exact absurd H (by simp)
    · rw [if_neg c6] at H
      have c6b0 : (a2 == 1) = false := beq_eq_false_iff_ne.mpr c6
      have c6b1 : (a2 != 1) = true := bne_iff_ne.mpr c6
      by_cases c14 : a2 = 2
      · rw [if_pos c14] at H
        have c14b0 : (a2 == 2) = true := beq_iff_eq.mpr c14
        have c14b1 : (a2 != 2) = false := bne_eq_false_iff_eq.mpr c14
        clear c14
        replace H := Option.bind_eq_some_iff.mp H
        obtain ⟨t320, A150, H⟩ := H
        replace H : (if 0 ≤ a1 then (if a1 < (t320.length : Int) then (some ((t320.set (a1 : Int).toNat (⟨a2, (rd_T41 t320 a1).f1⟩ : S41)), 0)) else (none)) else (none)) = some (r1, r2) := H
        have A15 := Aside0.mk A150
        clear A150
        by_cases c16 : 0 ≤ a1
        · rw [if_pos c16] at H
          have c16b0 : decide (0 ≤ a1) = true := decide_eq_true c16
          clear c16
          by_cases c17 : a1 < (t320.length : Int)
          · rw [if_pos c17] at H
            have c17b0 : decide (a1 < (t320.length : Int)) = true := decide_eq_true c17
            clear c17
            obtain ⟨y323, hy323⟩ : ∃ y_ : List (S41), y_ = (t320.set (a1 : Int).toNat (⟨a2, (rd_T41 t320 a1).f1⟩ : S41)) := ⟨_, rfl⟩
            replace H : (some (y323, 0)) = some (r1, r2) := by first | (rw [hy323]; with_reducible exact H) | (have H2_ := (Option.bind_some _ _).symm.trans H; rw [hy323]; with_reducible exact H2_) | (have H2_ := (Option.bind_some _ _).symm.trans H; with_reducible exact H2_) | with_reducible exact H | (rw [hy323]; exact H) | exact H
            have Ny323 := Aside0.mk hy323
            clear hy323
            simp only [Option.some.injEq, Prod.mk.injEq] at H
            obtain ⟨rfl, rfl⟩ := H
            go_enter Try.func28, Try.ntmps28
            go_wp2_with (first | ((with_reducible refine gate_callee (f := 39) rfl ?_); refine goesL_ (some 12) rfl rfl Try.func39 (by kernel_rfl) rfl #[.slice A0 l0.length c0, .int .i64 a1] rfl (by (try simp only [List.map_toArray, List.map_cons, List.map_nil]); first | done | rfl | (simp only [List.length_drop, List.length_take]; rfl)) ?_; (with_reducible refine (estoversref32_used.calls k _ _ l0 a1 t315 _ ?side1 ?side2 A4.out).mono ?_); (case side1 => repeat (first | exact HR0.out | (with_reducible refine Kd.C_alloc ?_ _) | (with_reducible refine Kd.C_drewN ?_ _) | (with_reducible refine Kd.C_drew ?_))); (case side2 => exact HC0.out); rintro e w' ⟨rfl, ⟨nd, rfl⟩⟩; refine ⟨_, rfl, ?_⟩) | ((with_reducible refine gate_callee (f := 38) rfl ?_); refine goesL_ (some 27) rfl rfl Try.func38 (by kernel_rfl) rfl #[.slice A0 l0.length c0] rfl (by (try simp only [List.map_toArray, List.map_cons, List.map_nil]); first | done | rfl | (simp only [List.length_drop, List.length_take]; rfl)) ?_; (with_reducible refine (estoversref32_Copy.calls k _ _ l0 t320 _ ?side1 ?side2 A15.out).mono ?_); (case side1 => repeat (first | exact HR0.out | (with_reducible refine Kd.C_alloc ?_ _) | (with_reducible refine Kd.C_drewN ?_ _) | (with_reducible refine Kd.C_drew ?_))); (case side2 => exact HC0.out); rintro e w19 ⟨v321, rfl, ho0, hb⟩; refine ⟨_, rfl, ?_⟩; have n0_ := Aside0.mk (Kd.R_lower ho0 (below_size (by repeat (first | (with_reducible first | exact HB.out | apply below_alloc | apply pw_below_drewN | apply below_drew1) | exact HB.out)))); have n1_ := Aside0.mk (below_step (by repeat (first | (with_reducible first | exact HB.out | apply below_alloc | apply pw_below_drewN | apply below_drew1) | exact HB.out)) hb); clear HB; have HO322 := n0_; have HB := n1_; clear n0_ n1_; (try clear hb); (try clear hb2); (try clear hk); (try clear hi); (try clear ho0); have p18 : 0 ≤ (a1 : Int) := of_decide_eq_true (by first | (with_reducible assumption) | assumption); have q18 : (a1 : Int) < ((t320.length : Int) : Int) := of_decide_eq_true (by first | (with_reducible assumption) | assumption); obtain ⟨go18, co18, eo18, gb18, gl18, cl18, HG18⟩ := Kd.R_form HO322.out (by omega); (first | cases eo18 | (injection eo18 with ea_ en_ ec_; (first | subst ea_ | (injection ea_ with ea_; subst ea_)); subst ec_; clear en_)); have GB18 := Aside0.mk gb18; have GG18 := Aside0.mk HG18; clear gb18 gl18 HG18; obtain ⟨ce18, hcl18, hM18, hcc18, hfr18⟩ := Kd.R_elem HO322.out z41 (a1 : Int) p18 q18; obtain rfl := k41_openM hM18; have hx18_0 : w19.cell? ⟨go18, (a1 : Int).toNat * 2, none⟩ = some (.int .i64 ((rd_T41 t320 a1).f0)) := hcc18 0 _ rfl; have hx18_1 : w19.cell? ⟨go18, (a1 : Int).toNat * 2 + 1, none⟩ = some (.int .i64 ((rd_T41 t320 a1).f1)) := hcc18 1 _ rfl; have hf18_0 : w19.frozen? ⟨go18, (a1 : Int).toNat * 2, none⟩ = false := hfr18 0; have hf18_1 : w19.frozen? ⟨go18, (a1 : Int).toNat * 2 + 1, none⟩ = false := hfr18 1; clear hcl18 hcc18 hfr18 hM18; replace p18 := eq_true p18; replace q18 := eq_true q18; have HX20 := Aside0.mk (show Kd.R k41 41 w19 w.heap.size (fun _ => True) (.slice (some ⟨go18, 0, none⟩) t320.length co18) t320 from (by (with_reducible repeat (first | apply Kd.R_alloc | apply Kd.R_drewN | apply Kd.R_drew)); exact HO322.out)); obtain ⟨ce20, hcl20, hM20, hcc20, hfr20⟩ := Kd.R_elem HX20.out z41 (a1 : Int) (of_decide_eq_true (by first | (with_reducible assumption) | assumption)) (by have h_ : (a1 : Int) < ((t320.length : Int) : Int) := of_decide_eq_true (by first | (with_reducible assumption) | assumption); first | exact h_ | (have e_ := (Kd.R_reads' HO322.out).1; omega) | simpa using h_); obtain rfl := k41_openM hM20; have HP20 := Kd.R_seg HX20.out (a1 : Int) (of_decide_eq_true (by first | (with_reducible assumption) | assumption)) (by have h_ : (a1 : Int) < ((t320.length : Int) : Int) := of_decide_eq_true (by first | (with_reducible assumption) | assumption); first | exact h_ | (have e_ := (Kd.R_reads' HO322.out).1; omega) | simpa using h_) (seg := [.int .i64 a2]) (j := 0) hcl20 hcc20 (show 1 ≤ 2 from by decide) (x' := (⟨a2, (rd_T41 t320 a1).f1⟩ : S41)) (k41_mkM _ _ _ (⟨a2, (rd_T41 t320 a1).f1⟩ : S41) ) (fun _ hk => hk); have hx20_0 := hcc20 0 _ rfl; (try simp only [show (k41).sz = 2 from rfl, Nat.mul_one, Nat.add_zero] at hx20_0); have hf20_0 := hfr20 0; (try simp only [show (k41).sz = 2 from rfl, Nat.mul_one, Nat.add_zero] at hf20_0); clear hcl20 hcc20 hfr20 hM20) | ((with_reducible refine gate_store (t := 3) (p := 32) rfl ?_); refine store_event (t := 3) (p := 32) (v := ?vo_w21) (w1 := (w19.setCell ⟨go18, (a1 : Int).toNat * 2, none⟩ (.int .i64 a2))) ?hg ?ho ?hn ?hr ?_; (case ho => rfl); (case hg => rfl); (case hn => rfl); (case hr => first | (go_simp; done) | (go_simp; rfl)); intro w21 hw; have hg : w19.grownBy w21 (some go18) := (by rw [hw]; exact HP20.2); have hp_ : Kd.R k41 41 w21 w.heap.size (fun _ => True) (.slice (some ⟨go18, 0, none⟩) t320.length co18) y323 := (by rw [hw, Ny323.out]; exact HP20.1); clear HP20; have n0_ := Aside0.mk (hp_); have n1_ := Aside0.mk ((by rw [hw]; exact below_set (HB.out) GB18.out : Below w.heap.size w w21)); clear HO322; clear HB; have HO322 := n0_; have HB := n1_; clear n0_ n1_; clear hg hw hp_))
            go_ret2
            exact ⟨_, by first | rfl | (simp [errW_none, errW_some] <;> rfl) | (simp [*, errW_none, errW_some] <;> rfl), by (with_reducible repeat (first | apply Kd.R_alloc | apply Kd.R_drewN | apply Kd.R_drew)); exact HO322.out, by repeat (first | (with_reducible first | exact HB.out | apply below_alloc | apply pw_below_drewN | apply below_drew1) | exact HB.out)⟩
          · rw [if_neg c17] at H
            exact absurd H (by simp)
        · rw [if_neg c16] at H
          exact absurd H (by simp)
      · rw [if_neg c14] at H
        have c14b0 : (a2 == 2) = false := beq_eq_false_iff_ne.mpr c14
        have c14b1 : (a2 != 2) = true := bne_iff_ne.mpr c14
        by_cases c22 : a2 = 3
        · rw [if_pos c22] at H
          have c22b0 : (a2 == 3) = true := beq_iff_eq.mpr c22
          have c22b1 : (a2 != 3) = false := bne_eq_false_iff_eq.mpr c22
          clear c22
          replace H := Option.bind_eq_some_iff.mp H
          obtain ⟨t324, A230, H⟩ := H
          replace H : (if 0 ≤ a1 then (if a1 < (t324.length : Int) then (some ((t324.set (a1 : Int).toNat (⟨a2, (rd_T41 t324 a1).f1⟩ : S41)), 0)) else (none)) else (none)) = some (r1, r2) := H
          have A23 := Aside0.mk A230
          clear A230
          by_cases c24 : 0 ≤ a1
          · rw [if_pos c24] at H
            have c24b0 : decide (0 ≤ a1) = true := decide_eq_true c24
            clear c24
            by_cases c25 : a1 < (t324.length : Int)
            · rw [if_pos c25] at H
              have c25b0 : decide (a1 < (t324.length : Int)) = true := decide_eq_true c25
              clear c25
              obtain ⟨y327, hy327⟩ : ∃ y_ : List (S41), y_ = (t324.set (a1 : Int).toNat (⟨a2, (rd_T41 t324 a1).f1⟩ : S41)) := ⟨_, rfl⟩
              replace H : (some (y327, 0)) = some (r1, r2) := by first | (rw [hy327]; with_reducible exact H) | (have H2_ := (Option.bind_some _ _).symm.trans H; rw [hy327]; with_reducible exact H2_) | (have H2_ := (Option.bind_some _ _).symm.trans H; with_reducible exact H2_) | with_reducible exact H | (rw [hy327]; exact H) | exact H
              have Ny327 := Aside0.mk hy327
              clear hy327
              simp only [Option.some.injEq, Prod.mk.injEq] at H
              obtain ⟨rfl, rfl⟩ := H
              go_enter Try.func28, Try.ntmps28
              go_wp2_with (first | ((with_reducible refine gate_callee (f := 39) rfl ?_); refine goesL_ (some 12) rfl rfl Try.func39 (by kernel_rfl) rfl #[.slice A0 l0.length c0, .int .i64 a1] rfl (by (try simp only [List.map_toArray, List.map_cons, List.map_nil]); first | done | rfl | (simp only [List.length_drop, List.length_take]; rfl)) ?_; (with_reducible refine (estoversref32_used.calls k _ _ l0 a1 t315 _ ?side1 ?side2 A4.out).mono ?_); (case side1 => repeat (first | exact HR0.out | (with_reducible refine Kd.C_alloc ?_ _) | (with_reducible refine Kd.C_drewN ?_ _) | (with_reducible refine Kd.C_drew ?_))); (case side2 => exact HC0.out); rintro e w' ⟨rfl, ⟨nd, rfl⟩⟩; refine ⟨_, rfl, ?_⟩) | ((with_reducible refine gate_callee (f := 38) rfl ?_); refine goesL_ (some 27) rfl rfl Try.func38 (by kernel_rfl) rfl #[.slice A0 l0.length c0] rfl (by (try simp only [List.map_toArray, List.map_cons, List.map_nil]); first | done | rfl | (simp only [List.length_drop, List.length_take]; rfl)) ?_; (with_reducible refine (estoversref32_Copy.calls k _ _ l0 t324 _ ?side1 ?side2 A23.out).mono ?_); (case side1 => repeat (first | exact HR0.out | (with_reducible refine Kd.C_alloc ?_ _) | (with_reducible refine Kd.C_drewN ?_ _) | (with_reducible refine Kd.C_drew ?_))); (case side2 => exact HC0.out); rintro e w27 ⟨v325, rfl, ho0, hb⟩; refine ⟨_, rfl, ?_⟩; have n0_ := Aside0.mk (Kd.R_lower ho0 (below_size (by repeat (first | (with_reducible first | exact HB.out | apply below_alloc | apply pw_below_drewN | apply below_drew1) | exact HB.out)))); have n1_ := Aside0.mk (below_step (by repeat (first | (with_reducible first | exact HB.out | apply below_alloc | apply pw_below_drewN | apply below_drew1) | exact HB.out)) hb); clear HB; have HO326 := n0_; have HB := n1_; clear n0_ n1_; (try clear hb); (try clear hb2); (try clear hk); (try clear hi); (try clear ho0); have p26 : 0 ≤ (a1 : Int) := of_decide_eq_true (by first | (with_reducible assumption) | assumption); have q26 : (a1 : Int) < ((t324.length : Int) : Int) := of_decide_eq_true (by first | (with_reducible assumption) | assumption); obtain ⟨go26, co26, eo26, gb26, gl26, cl26, HG26⟩ := Kd.R_form HO326.out (by omega); (first | cases eo26 | (injection eo26 with ea_ en_ ec_; (first | subst ea_ | (injection ea_ with ea_; subst ea_)); subst ec_; clear en_)); have GB26 := Aside0.mk gb26; have GG26 := Aside0.mk HG26; clear gb26 gl26 HG26; obtain ⟨ce26, hcl26, hM26, hcc26, hfr26⟩ := Kd.R_elem HO326.out z41 (a1 : Int) p26 q26; obtain rfl := k41_openM hM26; have hx26_0 : w27.cell? ⟨go26, (a1 : Int).toNat * 2, none⟩ = some (.int .i64 ((rd_T41 t324 a1).f0)) := hcc26 0 _ rfl; have hx26_1 : w27.cell? ⟨go26, (a1 : Int).toNat * 2 + 1, none⟩ = some (.int .i64 ((rd_T41 t324 a1).f1)) := hcc26 1 _ rfl; have hf26_0 : w27.frozen? ⟨go26, (a1 : Int).toNat * 2, none⟩ = false := hfr26 0; have hf26_1 : w27.frozen? ⟨go26, (a1 : Int).toNat * 2 + 1, none⟩ = false := hfr26 1; clear hcl26 hcc26 hfr26 hM26; replace p26 := eq_true p26; replace q26 := eq_true q26; have HX28 := Aside0.mk (show Kd.R k41 41 w27 w.heap.size (fun _ => True) (.slice (some ⟨go26, 0, none⟩) t324.length co26) t324 from (by (with_reducible repeat (first | apply Kd.R_alloc | apply Kd.R_drewN | apply Kd.R_drew)); exact HO326.out)); obtain ⟨ce28, hcl28, hM28, hcc28, hfr28⟩ := Kd.R_elem HX28.out z41 (a1 : Int) (of_decide_eq_true (by first | (with_reducible assumption) | assumption)) (by have h_ : (a1 : Int) < ((t324.length : Int) : Int) := of_decide_eq_true (by first | (with_reducible assumption) | assumption); first | exact h_ | (have e_ := (Kd.R_reads' HO326.out).1; omega) | simpa using h_); obtain rfl := k41_openM hM28; have HP28 := Kd.R_seg HX28.out (a1 : Int) (of_decide_eq_true (by first | (with_reducible assumption) | assumption)) (by have h_ : (a1 : Int) < ((t324.length : Int) : Int) := of_decide_eq_true (by first | (with_reducible assumption) | assumption); first | exact h_ | (have e_ := (Kd.R_reads' HO326.out).1; omega) | simpa using h_) (seg := [.int .i64 a2]) (j := 0) hcl28 hcc28 (show 1 ≤ 2 from by decide) (x' := (⟨a2, (rd_T41 t324 a1).f1⟩ : S41)) (k41_mkM _ _ _ (⟨a2, (rd_T41 t324 a1).f1⟩ : S41) ) (fun _ hk => hk); have hx28_0 := hcc28 0 _ rfl; (try simp only [show (k41).sz = 2 from rfl, Nat.mul_one, Nat.add_zero] at hx28_0); have hf28_0 := hfr28 0; (try simp only [show (k41).sz = 2 from rfl, Nat.mul_one, Nat.add_zero] at hf28_0); clear hcl28 hcc28 hfr28 hM28) | ((with_reducible refine gate_store (t := 3) (p := 32) rfl ?_); refine store_event (t := 3) (p := 32) (v := ?vo_w29) (w1 := (w27.setCell ⟨go26, (a1 : Int).toNat * 2, none⟩ (.int .i64 a2))) ?hg ?ho ?hn ?hr ?_; (case ho => rfl); (case hg => rfl); (case hn => rfl); (case hr => first | (go_simp; done) | (go_simp; rfl)); intro w29 hw; have hg : w27.grownBy w29 (some go26) := (by rw [hw]; exact HP28.2); have hp_ : Kd.R k41 41 w29 w.heap.size (fun _ => True) (.slice (some ⟨go26, 0, none⟩) t324.length co26) y327 := (by rw [hw, Ny327.out]; exact HP28.1); clear HP28; have n0_ := Aside0.mk (hp_); have n1_ := Aside0.mk ((by rw [hw]; exact below_set (HB.out) GB26.out : Below w.heap.size w w29)); clear HO326; clear HB; have HO326 := n0_; have HB := n1_; clear n0_ n1_; clear hg hw hp_))
              go_ret2
              exact ⟨_, by first | rfl | (simp [errW_none, errW_some] <;> rfl) | (simp [*, errW_none, errW_some] <;> rfl), by (with_reducible repeat (first | apply Kd.R_alloc | apply Kd.R_drewN | apply Kd.R_drew)); exact HO326.out, by repeat (first | (with_reducible first | exact HB.out | apply below_alloc | apply pw_below_drewN | apply below_drew1) | exact HB.out)⟩
            · rw [if_neg c25] at H
              exact absurd H (by simp)
          · rw [if_neg c24] at H
            exact absurd H (by simp)
        · rw [if_neg c22] at H
          have c22b0 : (a2 == 3) = false := beq_eq_false_iff_ne.mpr c22
          have c22b1 : (a2 != 3) = true := bne_iff_ne.mpr c22
          simp only [Option.some.injEq, Prod.mk.injEq] at H
          obtain ⟨rfl, rfl⟩ := H
          go_enter Try.func28, Try.ntmps28
          go_wp2_with (first | ((with_reducible refine gate_callee (f := 39) rfl ?_); refine goesL_ (some 12) rfl rfl Try.func39 (by kernel_rfl) rfl #[.slice A0 l0.length c0, .int .i64 a1] rfl (by (try simp only [List.map_toArray, List.map_cons, List.map_nil]); first | done | rfl | (simp only [List.length_drop, List.length_take]; rfl)) ?_; (with_reducible refine (estoversref32_used.calls k _ _ l0 a1 t315 _ ?side1 ?side2 A4.out).mono ?_); (case side1 => repeat (first | exact HR0.out | (with_reducible refine Kd.C_alloc ?_ _) | (with_reducible refine Kd.C_drewN ?_ _) | (with_reducible refine Kd.C_drew ?_))); (case side2 => exact HC0.out); rintro e w' ⟨rfl, ⟨nd, rfl⟩⟩; refine ⟨_, rfl, ?_⟩))
          go_ret2
          exact ⟨_, by first | rfl | (simp [errW_none, errW_some] <;> rfl) | (simp [*, errW_none, errW_some] <;> rfl), by first | exact Kd.R_nil _ _ _ _ _ | exact Kd.N_nil _ _ _ _ _ | exact Kd.V_nil _ _ _ _ _ | exact Kd.Q_nil _ _ _ _ _ | exact Kd.S_nil _ _ _ _ _, by repeat (first | (with_reducible first | exact HB.out | apply below_alloc | apply pw_below_drewN | apply below_drew1) | exact HB.out)⟩
  · rw [if_neg c5] at H
    have c5b0 : (t315 == 0) = false := beq_eq_false_iff_ne.mpr c5
    have c5b1 : (t315 != 0) = true := bne_iff_ne.mpr c5
    simp only [Option.some.injEq, Prod.mk.injEq] at H
    obtain ⟨rfl, rfl⟩ := H
    go_enter Try.func28, Try.ntmps28
    go_wp2_with (first | ((with_reducible refine gate_callee (f := 39) rfl ?_); refine goesL_ (some 12) rfl rfl Try.func39 (by kernel_rfl) rfl #[.slice A0 l0.length c0, .int .i64 a1] rfl (by (try simp only [List.map_toArray, List.map_cons, List.map_nil]); first | done | rfl | (simp only [List.length_drop, List.length_take]; rfl)) ?_; (with_reducible refine (estoversref32_used.calls k _ _ l0 a1 t315 _ ?side1 ?side2 A4.out).mono ?_); (case side1 => repeat (first | exact HR0.out | (with_reducible refine Kd.C_alloc ?_ _) | (with_reducible refine Kd.C_drewN ?_ _) | (with_reducible refine Kd.C_drew ?_))); (case side2 => exact HC0.out); rintro e w' ⟨rfl, ⟨nd, rfl⟩⟩; refine ⟨_, rfl, ?_⟩))
    go_ret2
    exact ⟨_, by first | rfl | (simp [errW_none, errW_some] <;> rfl) | (simp [*, errW_none, errW_some] <;> rfl), by first | exact Kd.R_nil _ _ _ _ _ | exact Kd.N_nil _ _ _ _ _ | exact Kd.V_nil _ _ _ _ _ | exact Kd.Q_nil _ _ _ _ _ | exact Kd.S_nil _ _ _ _ _, by repeat (first | (with_reducible first | exact HB.out | apply below_alloc | apply pw_below_drewN | apply below_drew1) | exact HB.out)⟩

end Go.Proofs.Ytjaondnglmimaaa.X
