-- Written for this claim by a program of this session (wip/px.py) with the kit's print; the contracts of GIVEN functions are proved by hand.
import Derived.Test.YtghmkmpgfpkfmaaX0
import Derived.Test.YtghmkmpgfpkfmaaX27
import Derived.Test.YtghmkmpgfpkfmaaX30
import Derived.Test.YtghmkmpgfpkfmaaDs
namespace Go.Proofs.Ytghmkmpgfpkfmaa.X
open Go.RowKit Go.Proofs.YtghmkmpgfpkfmaaW.PrintWords Go.Proofs.YtghmkmpgfpkfmaaW.PrintLast Go.Proofs.YtghmkmpgfpkfmaaW.PrintMore
attribute [local go_sem] max2_int min2_int max_two min_two max_three min_three max_four min_four   -- for this text's walks alone
set_option linter.unusedVariables false
set_option linter.unusedSimpArgs false

/-! ### estoversref11_Images: function 17 -/
mutual
def estoversref11_Images.l0 : Nat → List (List Int) → List (S38) → List (List (List Int)) → Int → Option ((List (List (List Int))) × Int)
  | 0, _, _, _, _ => none
  | k + 1, x0, x1, x7, x8 => if x8 < (x0.length : Int) then ((estoversref11_choices.f x0 x1 x8).bind fun t245 => (if (wrap64 ((x7.length : Int) * (t245.length : Int))) > 64 then (some (([] : List (List (List Int))), 9)) else (estoversref11_Images.l1 k x0 x1 x7 x8 t245 ([] : List (List (List Int))) 0))) else (some (x7, 0))
def estoversref11_Images.l1 : Nat → List (List Int) → List (S38) → List (List (List Int)) → Int → List (List Int) → List (List (List Int)) → Int → Option ((List (List (List Int))) × Int)
  | 0, _, _, _, _, _, _, _ => none
  | k + 1, x0, x1, x7, x8, x9, x10, x11 => if x11 < (x7.length : Int) then (estoversref11_Images.l2 k x0 x1 x7 x8 x9 x10 x11 0) else (estoversref11_Images.l0 k x0 x1 x10 (wrap64 (x8 + 1)))
def estoversref11_Images.l2 : Nat → List (List Int) → List (S38) → List (List (List Int)) → Int → List (List Int) → List (List (List Int)) → Int → Int → Option ((List (List (List Int))) × Int)
  | 0, _, _, _, _, _, _, _, _ => none
  | k + 1, x0, x1, x7, x8, x9, x10, x11, x12 => if x12 < (x9.length : Int) then (estoversref11_Images.l3 k x0 x1 x7 x8 x9 x10 x11 x12 ([] : List (List Int)) 0) else (estoversref11_Images.l1 k x0 x1 x7 x8 x9 x10 (wrap64 (x11 + 1)))
def estoversref11_Images.l3 : Nat → List (List Int) → List (S38) → List (List (List Int)) → Int → List (List Int) → List (List (List Int)) → Int → Int → List (List Int) → Int → Option ((List (List (List Int))) × Int)
  | 0, _, _, _, _, _, _, _, _, _, _ => none
  | k + 1, x0, x1, x7, x8, x9, x10, x11, x12, x13, x14 => if 0 ≤ x11 then (if x11 < (x7.length : Int) then (if x14 < ((rd_L4 x7 x11).length : Int) then (if 0 ≤ x14 then ((estoversref11_own.f (rd_L1 (rd_L4 x7 x11) x14)).bind fun t251 => (if x13.length < 5864062014805 then (estoversref11_Images.l3 k x0 x1 x7 x8 x9 x10 x11 x12 (x13 ++ [t251]) (wrap64 (x14 + 1))) else (none))) else (none)) else (if 0 ≤ x12 then (if x12 < (x9.length : Int) then ((estoversref11_own.f (rd_L1 x9 x12)).bind fun t258 => (if x13.length < 5864062014805 then (if x10.length < 5864062014805 then (estoversref11_Images.l2 k x0 x1 x7 x8 x9 (x10 ++ [(x13 ++ [t258])]) x11 (wrap64 (x12 + 1))) else (none)) else (none))) else (none)) else (none))) else (none)) else (none)
end
def estoversref11_Images.f (k : Nat) (l0 : List (List Int)) (l1 : List (S38)) : Option ((List (List (List Int))) × Int) := (estoversref11_Check.f k l0 l1).bind fun t238 => (if t238 = 0 then (estoversref11_Images.l0 k l0 l1 (([(([] : List (List Int)))] : List (List (List Int)))) 0) else (some (([] : List (List (List Int))), t238)))
theorem estoversref11_Images.mono_l : ∀ k, (∀ y0 y1 y2 y3, LeO (estoversref11_Images.l0 k y0 y1 y2 y3) (estoversref11_Images.l0 (k + 1) y0 y1 y2 y3)) ∧ (∀ y0 y1 y2 y3 y4 y5 y6, LeO (estoversref11_Images.l1 k y0 y1 y2 y3 y4 y5 y6) (estoversref11_Images.l1 (k + 1) y0 y1 y2 y3 y4 y5 y6)) ∧ (∀ y0 y1 y2 y3 y4 y5 y6 y7, LeO (estoversref11_Images.l2 k y0 y1 y2 y3 y4 y5 y6 y7) (estoversref11_Images.l2 (k + 1) y0 y1 y2 y3 y4 y5 y6 y7)) ∧ (∀ y0 y1 y2 y3 y4 y5 y6 y7 y8 y9, LeO (estoversref11_Images.l3 k y0 y1 y2 y3 y4 y5 y6 y7 y8 y9) (estoversref11_Images.l3 (k + 1) y0 y1 y2 y3 y4 y5 y6 y7 y8 y9))
  | 0 => ⟨fun _ _ _ _ r h => by simp [estoversref11_Images.l0] at h, fun _ _ _ _ _ _ _ r h => by simp [estoversref11_Images.l1] at h, fun _ _ _ _ _ _ _ _ r h => by simp [estoversref11_Images.l2] at h, fun _ _ _ _ _ _ _ _ _ _ r h => by simp [estoversref11_Images.l3] at h⟩
  | k + 1 => by
    obtain ⟨ih0, ih1, ih2, ih3⟩ := estoversref11_Images.mono_l k
    refine ⟨?_, ?_, ?_, ?_⟩
    · intro y0 y1 y2 y3
      unfold estoversref11_Images.l0
      repeat' first
      | (with_reducible exact ih0 _ _ _ _)
      | (with_reducible exact ih1 _ _ _ _ _ _ _)
      | (with_reducible exact ih2 _ _ _ _ _ _ _ _)
      | (with_reducible exact ih3 _ _ _ _ _ _ _ _ _ _)
      | (with_reducible exact estoversref11_Check.mono _ _ _)
      | (with_reducible exact LeO.refl _)
      | (with_reducible exact LeO.none _)
      | (with_reducible refine LeO.ite ?_ ?_)
      | (with_reducible refine LeO.bind ?_ (fun _ => ?_))
      | exact ih0 _ _ _ _
      | exact ih1 _ _ _ _ _ _ _
      | exact ih2 _ _ _ _ _ _ _ _
      | exact ih3 _ _ _ _ _ _ _ _ _ _
      | exact estoversref11_Check.mono _ _ _
      | exact LeO.none _
      | refine LeO.ite ?_ ?_
      | refine LeO.bind ?_ (fun _ => ?_)
    · intro y0 y1 y2 y3 y4 y5 y6
      unfold estoversref11_Images.l1
      repeat' first
      | (with_reducible exact ih0 _ _ _ _)
      | (with_reducible exact ih1 _ _ _ _ _ _ _)
      | (with_reducible exact ih2 _ _ _ _ _ _ _ _)
      | (with_reducible exact ih3 _ _ _ _ _ _ _ _ _ _)
      | (with_reducible exact estoversref11_Check.mono _ _ _)
      | (with_reducible exact LeO.refl _)
      | (with_reducible exact LeO.none _)
      | (with_reducible refine LeO.ite ?_ ?_)
      | (with_reducible refine LeO.bind ?_ (fun _ => ?_))
      | exact ih0 _ _ _ _
      | exact ih1 _ _ _ _ _ _ _
      | exact ih2 _ _ _ _ _ _ _ _
      | exact ih3 _ _ _ _ _ _ _ _ _ _
      | exact estoversref11_Check.mono _ _ _
      | exact LeO.none _
      | refine LeO.ite ?_ ?_
      | refine LeO.bind ?_ (fun _ => ?_)
    · intro y0 y1 y2 y3 y4 y5 y6 y7
      unfold estoversref11_Images.l2
      repeat' first
      | (with_reducible exact ih0 _ _ _ _)
      | (with_reducible exact ih1 _ _ _ _ _ _ _)
      | (with_reducible exact ih2 _ _ _ _ _ _ _ _)
      | (with_reducible exact ih3 _ _ _ _ _ _ _ _ _ _)
      | (with_reducible exact estoversref11_Check.mono _ _ _)
      | (with_reducible exact LeO.refl _)
      | (with_reducible exact LeO.none _)
      | (with_reducible refine LeO.ite ?_ ?_)
      | (with_reducible refine LeO.bind ?_ (fun _ => ?_))
      | exact ih0 _ _ _ _
      | exact ih1 _ _ _ _ _ _ _
      | exact ih2 _ _ _ _ _ _ _ _
      | exact ih3 _ _ _ _ _ _ _ _ _ _
      | exact estoversref11_Check.mono _ _ _
      | exact LeO.none _
      | refine LeO.ite ?_ ?_
      | refine LeO.bind ?_ (fun _ => ?_)
    · intro y0 y1 y2 y3 y4 y5 y6 y7 y8 y9
      unfold estoversref11_Images.l3
      repeat' first
      | (with_reducible exact ih0 _ _ _ _)
      | (with_reducible exact ih1 _ _ _ _ _ _ _)
      | (with_reducible exact ih2 _ _ _ _ _ _ _ _)
      | (with_reducible exact ih3 _ _ _ _ _ _ _ _ _ _)
      | (with_reducible exact estoversref11_Check.mono _ _ _)
      | (with_reducible exact LeO.refl _)
      | (with_reducible exact LeO.none _)
      | (with_reducible refine LeO.ite ?_ ?_)
      | (with_reducible refine LeO.bind ?_ (fun _ => ?_))
      | exact ih0 _ _ _ _
      | exact ih1 _ _ _ _ _ _ _
      | exact ih2 _ _ _ _ _ _ _ _
      | exact ih3 _ _ _ _ _ _ _ _ _ _
      | exact estoversref11_Check.mono _ _ _
      | exact LeO.none _
      | refine LeO.ite ?_ ?_
      | refine LeO.bind ?_ (fun _ => ?_)
theorem estoversref11_Images.mono : ∀ a0 a1 k, LeO (estoversref11_Images.f k a0 a1) (estoversref11_Images.f (k + 1) a0 a1) := by
  intro a0 a1 k
  obtain ⟨ih0, ih1, ih2, ih3⟩ := estoversref11_Images.mono_l k
  unfold estoversref11_Images.f
  repeat' first
      | (with_reducible exact ih0 _ _ _ _)
      | (with_reducible exact ih1 _ _ _ _ _ _ _)
      | (with_reducible exact ih2 _ _ _ _ _ _ _ _)
      | (with_reducible exact ih3 _ _ _ _ _ _ _ _ _ _)
      | (with_reducible exact estoversref11_Check.mono _ _ _)
      | (with_reducible exact LeO.refl _)
      | (with_reducible exact LeO.none _)
      | (with_reducible refine LeO.ite ?_ ?_)
      | (with_reducible refine LeO.bind ?_ (fun _ => ?_))
      | exact ih0 _ _ _ _
      | exact ih1 _ _ _ _ _ _ _
      | exact ih2 _ _ _ _ _ _ _ _
      | exact ih3 _ _ _ _ _ _ _ _ _ _
      | exact estoversref11_Check.mono _ _ _
      | exact LeO.none _
      | refine LeO.ite ?_ ?_
      | refine LeO.bind ?_ (fun _ => ?_)
set_option maxHeartbeats 8000000 in
set_option maxRecDepth 100000 in
theorem estoversref11_Images.calls (k : Nat) (A0 : Option Addr) (c0 : Nat) (l0 : List (List Int)) (A1 : Option Addr) (c1 : Nat) (l1 : List (S38)) (r1 : List (List (List Int))) (r2 : Int) (w : World) (hr0 : Kd.C (Kd.slice 5 (Kd.int .u8)) w A0 l0.length l0) (hc0 : l0.length ≤ c0) (hr1 : Kd.C k38 w A1 l1.length l1) (hc1 : l1.length ≤ c1) (h : estoversref11_Images.f k l0 l1 = some (r1, r2)) :
    Calls Try.prog 17 #[.slice A0 l0.length c0, .slice A1 l1.length c1] w fun e w' => ∃ v0_ : Value, e = .returned (.tuple #[v0_, .int .i64 r2]) ∧ Kd.N (Kd.slice 36 (Kd.slice 5 (Kd.int .u8))) 22 w' w.heap.size (fun k_ => (w.heap.size ≤ k_)) v0_ r1 ∧ Below w.heap.size w w' := by
  have HR0 := Aside0.mk hr0
  have HC0 := Aside0.mk hc0
  clear hr0 hc0
  have HR1 := Aside0.mk hr1
  have HC1 := Aside0.mk hc1
  clear hr1 hc1
  have HB := Aside0.mk (Below.refl w.heap.size w)
  have H : ((estoversref11_Check.f k l0 l1).bind fun t238 => (if t238 = 0 then (estoversref11_Images.l0 k l0 l1 (([(([] : List (List Int)))] : List (List (List Int)))) 0) else (some (([] : List (List (List Int))), t238)))) = some (r1, r2) := h
  clear h
  replace H := Option.bind_eq_some_iff.mp H
  obtain ⟨t238, A30, H⟩ := H
  replace H : (if t238 = 0 then (estoversref11_Images.l0 k l0 l1 (([(([] : List (List Int)))] : List (List (List Int)))) 0) else (some (([] : List (List (List Int))), t238))) = some (r1, r2) := H
  have A3 := Aside0.mk A30
  clear A30
  by_cases c4 : t238 = 0
  · rw [if_pos c4] at H
    have c4b0 : (t238 == 0) = true := beq_iff_eq.mpr c4
    have c4b1 : (t238 != 0) = false := bne_eq_false_iff_eq.mpr c4
    clear c4
    obtain ⟨y239, hy239⟩ : ∃ y_ : List (List Int), y_ = (([] : List (List Int))) := ⟨_, rfl⟩
    replace H : (estoversref11_Images.l0 k l0 l1 (([y239] : List (List (List Int)))) 0) = some (r1, r2) := by first | (rw [hy239]; with_reducible exact H) | (have H2_ := (Option.bind_some _ _).symm.trans H; rw [hy239]; with_reducible exact H2_) | (have H2_ := (Option.bind_some _ _).symm.trans H; with_reducible exact H2_) | with_reducible exact H | (rw [hy239]; exact H) | exact H
    have Ny239 := Aside0.mk hy239
    clear hy239
    obtain ⟨y242, hy242⟩ : ∃ y_ : List (List (List Int)), y_ = (([y239] : List (List (List Int)))) := ⟨_, rfl⟩
    replace H : (estoversref11_Images.l0 k l0 l1 y242 0) = some (r1, r2) := by first | (rw [hy242]; with_reducible exact H) | (have H2_ := (Option.bind_some _ _).symm.trans H; rw [hy242]; with_reducible exact H2_) | (have H2_ := (Option.bind_some _ _).symm.trans H; with_reducible exact H2_) | with_reducible exact H | (rw [hy242]; exact H) | exact H
    have Ny242 := Aside0.mk hy242
    clear hy242
    have H' := Aside0.mk H
    clear H
    go_enter Try.func17, Try.ntmps17
    go_wp2_with (first | ((with_reducible refine gate_callee (f := 15) rfl ?_); refine goesL_ (some 17) rfl rfl Try.func15 (by kernel_rfl) rfl #[.slice A0 l0.length c0, .slice A1 l1.length c1] rfl (by (try simp only [List.map_toArray, List.map_cons, List.map_nil]); first | done | rfl | (simp only [List.length_drop, List.length_take]; rfl)) ?_; (with_reducible refine (estoversref11_Check.calls k _ _ l0 _ _ l1 t238 _ ?side1 ?side2 ?side3 ?side4 A3.out).mono ?_); (case side1 => repeat (first | exact HR0.out | (with_reducible refine Kd.C_alloc ?_ _) | (with_reducible refine Kd.C_drewN ?_ _) | (with_reducible refine Kd.C_drew ?_))); (case side2 => exact HC0.out); (case side3 => repeat (first | exact HR1.out | (with_reducible refine Kd.C_alloc ?_ _) | (with_reducible refine Kd.C_drewN ?_ _) | (with_reducible refine Kd.C_drew ?_))); (case side4 => exact HC1.out); rintro e w5 ⟨rfl, hb⟩; refine ⟨_, rfl, ?_⟩; have n0_ := Aside0.mk (below_step (by repeat (first | (with_reducible first | exact HB.out | apply below_alloc | apply pw_below_drewN | apply below_drew1) | exact HB.out)) hb); clear HB; have HB := n0_; clear n0_; (try clear hb); (try clear hb2); (try clear hk); (try clear hi)) | ((with_reducible refine gate_dst (N := 21) rfl ?_); refine Kd.N_lit (Kd.slice 5 (Kd.int .u8)) _ 36 ?hg (N' := 21) ?hd (xs := ([] : List (List Int))) (inner := []) (ok := (fun k_ => (w.heap.size ≤ k_))) (okp := (fun k_ => (w.heap.size ≤ k_))) ?hr ?hp (fun _ hk => hk) ((show ∀ k_, w5.heap.size ≤ k_ → (fun k_ => (w.heap.size ≤ k_)) k_ from fun k_ hk => (Nat.le_trans (below_size (by repeat (first | (with_reducible first | exact HB.out | apply below_alloc | apply pw_below_drewN | apply below_drew1) | exact HB.out))) hk)) _ (Nat.le_refl _)) (Below.refl _ _) (Nat.le_refl _) (by simp) ?_; (case hd => rfl); (case hg => rfl); (case hr => first | (go_simp; done) | (go_simp; rfl)); (case hp => exact (Reps.none _ _)); intro v240 w6 ho7 hb hg_ hnew_; clear hg_ hnew_; (first | rw [← Ny239.out] at ho7 | (simp only [Int.reduceToNat] at ho7; rw [← Ny239.out] at ho7)); have n0_ := Aside0.mk (Kd.N_lower ho7 (below_size (by repeat (first | (with_reducible first | exact HB.out | apply below_alloc | apply pw_below_drewN | apply below_drew1) | exact HB.out)))); have n1_ := Aside0.mk (below_step (by repeat (first | (with_reducible first | exact HB.out | apply below_alloc | apply pw_below_drewN | apply below_drew1) | exact HB.out)) hb); clear HB; have HO241 := n0_; have HB := n1_; clear n0_ n1_; clear hb ho7; obtain ⟨Ao8, co8, eo8⟩ := Kd.N_slice HO241.out; subst eo8) | ((with_reducible refine gate_dst (N := 22) rfl ?_); refine Kd.N_lit (Kd.slice 36 (Kd.slice 5 (Kd.int .u8))) _ 22 ?hg (N' := 22) ?hd (xs := ([y239] : List (List (List Int)))) (inner := [.slice Ao8 y239.length co8]) (ok := (fun k_ => (w.heap.size ≤ k_))) (okp := (fun k_ => (w.heap.size ≤ k_))) ?hr ?hp (fun _ hk => hk) ((show ∀ k_, w6.heap.size ≤ k_ → (fun k_ => (w.heap.size ≤ k_)) k_ from fun k_ hk => (Nat.le_trans (below_size (by repeat (first | (with_reducible first | exact HB.out | apply below_alloc | apply pw_below_drewN | apply below_drew1) | exact HB.out))) hk)) _ (Nat.le_refl _)) (Below.refl _ _) (Nat.le_refl _) (by simp) ?_; (case hd => rfl); (case hg => rfl); (case hr => first | (go_simp; done) | (go_simp; rfl)); (case hp => exact (Reps.one (show Kd.FK (Kd.slice 36 (Kd.slice 5 (Kd.int .u8))) _ _ y239 [.slice Ao8 y239.length co8] from (Kd.FK_slice_mk (Kd.N_reads' (Kd.N_mono (ok' := (fun k_ => (w.heap.size ≤ k_))) (HO241.out) (fun k_ hk => hk))).2.1 (Kd.N_F (Kd.N_mono (ok' := (fun k_ => (w.heap.size ≤ k_))) (HO241.out) (fun k_ hk => hk))))) (Reps.none _ _))); intro v243 w9 ho10 hb hg_ hnew_; clear hg_ hnew_; (first | rw [← Ny242.out] at ho10 | (simp only [Int.reduceToNat] at ho10; rw [← Ny242.out] at ho10)); have n0_ := Aside0.mk (Kd.N_lower ho10 (below_size (by repeat (first | (with_reducible first | exact HB.out | apply below_alloc | apply pw_below_drewN | apply below_drew1) | exact HB.out)))); have n1_ := Aside0.mk (below_step (by repeat (first | (with_reducible first | exact HB.out | apply below_alloc | apply pw_below_drewN | apply below_drew1) | exact HB.out)) hb); clear HB; clear HO241; have HO244 := n0_; have HB := n1_; clear n0_ n1_; clear hb ho10))
    go_loopg [7, 8] k (fun kq v7 v8 w' => ∃ (x7_1 : List (List (List Int))) (x8_1 : Int), v8 = .int .i64 x8_1 ∧ Aside0 (estoversref11_Images.l0 kq l0 l1 x7_1 x8_1 = some (r1, r2)) ∧ Aside0 (kq ≤ k) ∧ Aside0 (Kd.N (Kd.slice 36 (Kd.slice 5 (Kd.int .u8))) 22 w' w.heap.size (fun k_ => (w.heap.size ≤ k_)) v7 x7_1) ∧ Aside0 (Below w.heap.size w w'))
    case atStart => exact ⟨(y242), (0), (by first | rfl | (simp; done) | (simp [*]; done)), H', ⟨Nat.le_refl _⟩, ⟨by (with_reducible repeat (first | apply Kd.N_alloc | apply Kd.N_drewN | apply Kd.N_drew)); exact HO244.out⟩, ⟨by repeat (first | (with_reducible first | exact HB.out | apply below_alloc | apply pw_below_drewN | apply below_drew1) | exact HB.out)⟩⟩
    case round =>
      clear H'
      try clear c1
      try clear p2
      try clear c4
      try clear c4b0
      try clear c4b1
      obtain ⟨x7_1, x8_1, rfl, HA, HK1, HO_7, HB⟩ := hrel
      cases gk with
      | zero => exact absurd HA.out (by simp [estoversref11_Images.l0])
      | succ k1 =>
        have H := HA.out
        clear HA
        simp only [estoversref11_Images.l0] at H
        by_cases c11 : x8_1 < (l0.length : Int)
        · rw [if_pos c11] at H
          have c11b0 : decide (x8_1 < (l0.length : Int)) = true := decide_eq_true c11
          clear c11
          replace H := Option.bind_eq_some_iff.mp H
          obtain ⟨t245, A120, H⟩ := H
          replace H : (if (wrap64 ((x7_1.length : Int) * (t245.length : Int))) > 64 then (some (([] : List (List (List Int))), 9)) else (estoversref11_Images.l1 k1 l0 l1 x7_1 x8_1 t245 ([] : List (List (List Int))) 0)) = some (r1, r2) := H
          have A12 := Aside0.mk A120
          clear A120
          by_cases c13 : (wrap64 ((x7_1.length : Int) * (t245.length : Int))) > 64
          · rw [if_pos c13] at H
            have c13b0 : decide (64 < (wrap64 ((x7_1.length : Int) * (t245.length : Int)))) = true := decide_eq_true c13
            clear c13
            simp only [Option.some.injEq, Prod.mk.injEq] at H
            obtain ⟨rfl, rfl⟩ := H
            go_wp2_with (first | ((with_reducible refine gate_callee (f := 37) rfl ?_); refine goesL_ (some 32) rfl rfl Try.func37 (by kernel_rfl) rfl #[.slice A0 l0.length c0, .slice A1 l1.length c1, .int .i64 x8_1] rfl (by (try simp only [List.map_toArray, List.map_cons, List.map_nil]); first | done | rfl | (simp only [List.length_drop, List.length_take]; rfl)) ?_; (with_reducible refine (estoversref11_choices.calls _ _ l0 _ _ l1 x8_1 t245 _ ?side1 ?side2 ?side3 ?side4 A12.out).mono ?_); (case side1 => repeat (first | exact (Kd.C_below HR0.out HB.out) | (with_reducible refine Kd.C_alloc ?_ _) | (with_reducible refine Kd.C_drewN ?_ _) | (with_reducible refine Kd.C_drew ?_))); (case side2 => exact HC0.out); (case side3 => repeat (first | exact (Kd.C_below HR1.out HB.out) | (with_reducible refine Kd.C_alloc ?_ _) | (with_reducible refine Kd.C_drewN ?_ _) | (with_reducible refine Kd.C_drew ?_))); (case side4 => exact HC1.out); rintro e w14 ⟨v246, rfl, ho0, hb⟩; refine ⟨_, rfl, ?_⟩; have n0_ := Aside0.mk (Kd.N_elder' (by (with_reducible repeat (first | apply Kd.N_alloc | apply Kd.N_drewN | apply Kd.N_drew)); exact HO_7.out) (by first | exact Kd.N_base ho0 | exact Kd.S_base ho0 | exact Kd.R_base ho0) hb); have n1_ := Aside0.mk (Kd.N_lower (Kd.N_mono (ok' := fun k_ => (w.heap.size ≤ k_) ∧ some k_ ≠ (u7 : Value).ownBlock) (Kd.S_N (Kd.S_bound ho0)) (fun k_ hk_ => ⟨(Nat.le_trans (below_size (by repeat (first | (with_reducible first | exact HB.out | apply below_alloc | apply pw_below_drewN | apply below_drew1) | exact HB.out))) hk_.2.1), (Kd.fresh' (Kd.N_lt (by (with_reducible repeat (first | apply Kd.N_alloc | apply Kd.N_drewN | apply Kd.N_drew)); exact HO_7.out)) k_ hk_.2.1)⟩)) (below_size (by repeat (first | (with_reducible first | exact HB.out | apply below_alloc | apply pw_below_drewN | apply below_drew1) | exact HB.out)))); have n2_ := Aside0.mk (below_step (by repeat (first | (with_reducible first | exact HB.out | apply below_alloc | apply pw_below_drewN | apply below_drew1) | exact HB.out)) hb); clear HO_7; clear HB; have HO_7 := n0_; have HO247 := n1_; have HB := n2_; clear n0_ n1_ n2_; (try clear hb); (try clear hb2); (try clear hk); (try clear hi); (try clear ho0); obtain ⟨Ao15, co15, eo15⟩ := Kd.N_slice HO_7.out; subst eo15; obtain ⟨Ao16, co16, eo16⟩ := Kd.N_slice HO247.out; subst eo16))
            go_ret2
            exact ⟨_, by first | rfl | (simp [errW_none, errW_some] <;> rfl) | (simp [*, errW_none, errW_some] <;> rfl), by first | exact Kd.R_nil _ _ _ _ _ | exact Kd.N_nil _ _ _ _ _ | exact Kd.V_nil _ _ _ _ _ | exact Kd.Q_nil _ _ _ _ _ | exact Kd.S_nil _ _ _ _ _, by repeat (first | (with_reducible first | exact HB.out | apply below_alloc | apply pw_below_drewN | apply below_drew1) | exact HB.out)⟩
          · rw [if_neg c13] at H
            have c13b0 : decide (64 < (wrap64 ((x7_1.length : Int) * (t245.length : Int)))) = false := decide_eq_false c13
            clear c13
            have H' := Aside0.mk H
            clear H
            go_wp2_with (first | ((with_reducible refine gate_callee (f := 37) rfl ?_); refine goesL_ (some 32) rfl rfl Try.func37 (by kernel_rfl) rfl #[.slice A0 l0.length c0, .slice A1 l1.length c1, .int .i64 x8_1] rfl (by (try simp only [List.map_toArray, List.map_cons, List.map_nil]); first | done | rfl | (simp only [List.length_drop, List.length_take]; rfl)) ?_; (with_reducible refine (estoversref11_choices.calls _ _ l0 _ _ l1 x8_1 t245 _ ?side1 ?side2 ?side3 ?side4 A12.out).mono ?_); (case side1 => repeat (first | exact (Kd.C_below HR0.out HB.out) | (with_reducible refine Kd.C_alloc ?_ _) | (with_reducible refine Kd.C_drewN ?_ _) | (with_reducible refine Kd.C_drew ?_))); (case side2 => exact HC0.out); (case side3 => repeat (first | exact (Kd.C_below HR1.out HB.out) | (with_reducible refine Kd.C_alloc ?_ _) | (with_reducible refine Kd.C_drewN ?_ _) | (with_reducible refine Kd.C_drew ?_))); (case side4 => exact HC1.out); rintro e w17 ⟨v246, rfl, ho0, hb⟩; refine ⟨_, rfl, ?_⟩; have n0_ := Aside0.mk (Kd.N_elder' (by (with_reducible repeat (first | apply Kd.N_alloc | apply Kd.N_drewN | apply Kd.N_drew)); exact HO_7.out) (by first | exact Kd.N_base ho0 | exact Kd.S_base ho0 | exact Kd.R_base ho0) hb); have n1_ := Aside0.mk (Kd.N_lower (Kd.N_mono (ok' := fun k_ => (w.heap.size ≤ k_) ∧ some k_ ≠ (u7 : Value).ownBlock) (Kd.S_N (Kd.S_bound ho0)) (fun k_ hk_ => ⟨(Nat.le_trans (below_size (by repeat (first | (with_reducible first | exact HB.out | apply below_alloc | apply pw_below_drewN | apply below_drew1) | exact HB.out))) hk_.2.1), (Kd.fresh' (Kd.N_lt (by (with_reducible repeat (first | apply Kd.N_alloc | apply Kd.N_drewN | apply Kd.N_drew)); exact HO_7.out)) k_ hk_.2.1)⟩)) (below_size (by repeat (first | (with_reducible first | exact HB.out | apply below_alloc | apply pw_below_drewN | apply below_drew1) | exact HB.out)))); have n2_ := Aside0.mk (below_step (by repeat (first | (with_reducible first | exact HB.out | apply below_alloc | apply pw_below_drewN | apply below_drew1) | exact HB.out)) hb); clear HO_7; clear HB; have HO_7 := n0_; have HO247 := n1_; have HB := n2_; clear n0_ n1_ n2_; (try clear hb); (try clear hb2); (try clear hk); (try clear hi); (try clear ho0); obtain ⟨Ao18, co18, eo18⟩ := Kd.N_slice HO_7.out; subst eo18; obtain ⟨Ao19, co19, eo19⟩ := Kd.N_slice HO247.out; subst eo19))
            go_loopg [10, 11] k1 (fun kq v10 v11 w' => ∃ (x10_2 : List (List (List Int))) (x11_2 : Int), v11 = .int .i64 x11_2 ∧ Aside0 (estoversref11_Images.l1 kq l0 l1 x7_1 x8_1 t245 x10_2 x11_2 = some (r1, r2)) ∧ Aside0 (kq ≤ k1) ∧ Aside0 (Kd.N (Kd.slice 36 (Kd.slice 5 (Kd.int .u8))) 22 w' w.heap.size (fun k_ => (w.heap.size ≤ k_) ∧ some k_ ≠ ((.slice Ao19 t245.length co19) : Value).ownBlock ∧ some k_ ≠ (v10 : Value).ownBlock) (.slice Ao18 x7_1.length co18) x7_1) ∧ Aside0 (Kd.N (Kd.slice 5 (Kd.int .u8)) 36 w' w.heap.size (fun k_ => (w.heap.size ≤ k_) ∧ some k_ ≠ ((.slice Ao18 x7_1.length co18) : Value).ownBlock ∧ some k_ ≠ (v10 : Value).ownBlock) (.slice Ao19 t245.length co19) t245) ∧ Aside0 (Kd.N (Kd.slice 36 (Kd.slice 5 (Kd.int .u8))) 22 w' w.heap.size (fun k_ => (w.heap.size ≤ k_) ∧ some k_ ≠ ((.slice Ao18 x7_1.length co18) : Value).ownBlock ∧ some k_ ≠ ((.slice Ao19 t245.length co19) : Value).ownBlock) v10 x10_2) ∧ Aside0 (Below w.heap.size w w'))
            case atStart => exact ⟨(([] : List (List (List Int)))), (0), (by first | rfl | (simp; done) | (simp [*]; done)), H', ⟨Nat.le_refl _⟩, ⟨by (with_reducible repeat (first | apply Kd.N_alloc | apply Kd.N_drewN | apply Kd.N_drew)); exact Kd.N_mono HO_7.out (fun _ hk => ⟨hk.1, ⟨hk.2, (by simp [Value.ownBlock])⟩⟩)⟩, ⟨by (with_reducible repeat (first | apply Kd.N_alloc | apply Kd.N_drewN | apply Kd.N_drew)); exact Kd.N_mono HO247.out (fun _ hk => ⟨hk.1, ⟨hk.2, (by simp [Value.ownBlock])⟩⟩)⟩, ⟨by first | exact Kd.R_nil _ _ _ _ _ | exact Kd.N_nil _ _ _ _ _ | exact Kd.V_nil _ _ _ _ _ | exact Kd.Q_nil _ _ _ _ _ | exact Kd.S_nil _ _ _ _ _⟩, ⟨by repeat (first | (with_reducible first | exact HB.out | apply below_alloc | apply pw_below_drewN | apply below_drew1) | exact HB.out)⟩⟩
            case round =>
              clear H'
              try clear c1
              try clear p2
              try clear c3
              try clear c4
              try clear c4b0
              try clear c4b1
              try clear p6
              try clear c11
              try clear c11b0
              try clear c13
              try clear c13b0
              try clear c15
              try clear c17
              try clear p2
              obtain ⟨x10_2, x11_2, rfl, HA, HK2, HO_7, HO_9, HO_10, HB⟩ := hrel
              cases gk with
              | zero => exact absurd HA.out (by simp [estoversref11_Images.l1])
              | succ k2 =>
                have H := HA.out
                clear HA
                simp only [estoversref11_Images.l1] at H
                by_cases c20 : x11_2 < (x7_1.length : Int)
                · rw [if_pos c20] at H
                  have c20b0 : decide (x11_2 < (x7_1.length : Int)) = true := decide_eq_true c20
                  clear c20
                  have H' := Aside0.mk H
                  clear H
                  go_wp2
                  go_loopg [10, 12] k2 (fun kq v10 v12 w' => ∃ (x10_3 : List (List (List Int))) (x12_3 : Int), v12 = .int .i64 x12_3 ∧ Aside0 (estoversref11_Images.l2 kq l0 l1 x7_1 x8_1 t245 x10_3 x11_2 x12_3 = some (r1, r2)) ∧ Aside0 (kq ≤ k2) ∧ Aside0 (Kd.N (Kd.slice 36 (Kd.slice 5 (Kd.int .u8))) 22 w' w.heap.size (fun k_ => (w.heap.size ≤ k_) ∧ some k_ ≠ ((.slice Ao19 t245.length co19) : Value).ownBlock ∧ some k_ ≠ (v10 : Value).ownBlock) (.slice Ao18 x7_1.length co18) x7_1) ∧ Aside0 (Kd.N (Kd.slice 5 (Kd.int .u8)) 36 w' w.heap.size (fun k_ => (w.heap.size ≤ k_) ∧ some k_ ≠ ((.slice Ao18 x7_1.length co18) : Value).ownBlock ∧ some k_ ≠ (v10 : Value).ownBlock) (.slice Ao19 t245.length co19) t245) ∧ Aside0 (Kd.N (Kd.slice 36 (Kd.slice 5 (Kd.int .u8))) 22 w' w.heap.size (fun k_ => (w.heap.size ≤ k_) ∧ some k_ ≠ ((.slice Ao18 x7_1.length co18) : Value).ownBlock ∧ some k_ ≠ ((.slice Ao19 t245.length co19) : Value).ownBlock) v10 x10_3) ∧ Aside0 (Below w.heap.size w w'))
                  case atStart => exact ⟨(x10_2), (0), (by first | rfl | (simp; done) | (simp [*]; done)), H', ⟨Nat.le_refl _⟩, ⟨by (with_reducible repeat (first | apply Kd.N_alloc | apply Kd.N_drewN | apply Kd.N_drew)); exact HO_7.out⟩, ⟨by (with_reducible repeat (first | apply Kd.N_alloc | apply Kd.N_drewN | apply Kd.N_drew)); exact HO_9.out⟩, ⟨by (with_reducible repeat (first | apply Kd.N_alloc | apply Kd.N_drewN | apply Kd.N_drew)); exact HO_10.out⟩, ⟨by repeat (first | (with_reducible first | exact HB.out | apply below_alloc | apply pw_below_drewN | apply below_drew1) | exact HB.out)⟩⟩
                  case round =>
                    clear H'
                    try clear c1
                    try clear c2
                    try clear p2
                    try clear c3
                    try clear c4
                    try clear c4b0
                    try clear c4b1
                    try clear p6
                    try clear c11
                    try clear c11b0
                    try clear c13
                    try clear c13b0
                    try clear c15
                    try clear c17
                    try clear c20
                    try clear c20b0
                    try clear p2
                    try clear p6
                    obtain ⟨x10_3, x12_3, rfl, HA, HK3, HO_7, HO_9, HO_10, HB⟩ := hrel
                    cases gk with
                    | zero => exact absurd HA.out (by simp [estoversref11_Images.l2])
                    | succ k3 =>
                      have H := HA.out
                      clear HA
                      simp only [estoversref11_Images.l2] at H
                      by_cases c21 : x12_3 < (t245.length : Int)
                      · rw [if_pos c21] at H
                        have c21b0 : decide (x12_3 < (t245.length : Int)) = true := decide_eq_true c21
                        clear c21
                        have H' := Aside0.mk H
                        clear H
                        go_wp2
                        go_loopg [13, 14] k3 (fun kq v13 v14 w' => ∃ (x13_4 : List (List Int)) (x14_4 : Int), v14 = .int .i64 x14_4 ∧ Aside0 (estoversref11_Images.l3 kq l0 l1 x7_1 x8_1 t245 x10_3 x11_2 x12_3 x13_4 x14_4 = some (r1, r2)) ∧ Aside0 (kq ≤ k3) ∧ Aside0 (Kd.N (Kd.slice 36 (Kd.slice 5 (Kd.int .u8))) 22 w' w.heap.size (fun k_ => (w.heap.size ≤ k_) ∧ some k_ ≠ ((.slice Ao19 t245.length co19) : Value).ownBlock ∧ some k_ ≠ (u10 : Value).ownBlock ∧ some k_ ≠ (v13 : Value).ownBlock) (.slice Ao18 x7_1.length co18) x7_1) ∧ Aside0 (Kd.N (Kd.slice 5 (Kd.int .u8)) 36 w' w.heap.size (fun k_ => (w.heap.size ≤ k_) ∧ some k_ ≠ ((.slice Ao18 x7_1.length co18) : Value).ownBlock ∧ some k_ ≠ (u10 : Value).ownBlock ∧ some k_ ≠ (v13 : Value).ownBlock) (.slice Ao19 t245.length co19) t245) ∧ Aside0 (Kd.N (Kd.slice 36 (Kd.slice 5 (Kd.int .u8))) 22 w' w.heap.size (fun k_ => (w.heap.size ≤ k_) ∧ some k_ ≠ ((.slice Ao18 x7_1.length co18) : Value).ownBlock ∧ some k_ ≠ ((.slice Ao19 t245.length co19) : Value).ownBlock ∧ some k_ ≠ (v13 : Value).ownBlock) u10 x10_3) ∧ Aside0 (Kd.N (Kd.slice 5 (Kd.int .u8)) 36 w' w.heap.size (fun k_ => (w.heap.size ≤ k_) ∧ some k_ ≠ ((.slice Ao18 x7_1.length co18) : Value).ownBlock ∧ some k_ ≠ ((.slice Ao19 t245.length co19) : Value).ownBlock ∧ some k_ ≠ (u10 : Value).ownBlock) v13 x13_4) ∧ Aside0 (Below w.heap.size w w'))
                        case atStart => exact ⟨(([] : List (List Int))), (0), (by first | rfl | (simp; done) | (simp [*]; done)), H', ⟨Nat.le_refl _⟩, ⟨by (with_reducible repeat (first | apply Kd.N_alloc | apply Kd.N_drewN | apply Kd.N_drew)); exact Kd.N_mono HO_7.out (fun _ hk => ⟨hk.1, ⟨hk.2.1, ⟨hk.2.2, (by simp [Value.ownBlock])⟩⟩⟩)⟩, ⟨by (with_reducible repeat (first | apply Kd.N_alloc | apply Kd.N_drewN | apply Kd.N_drew)); exact Kd.N_mono HO_9.out (fun _ hk => ⟨hk.1, ⟨hk.2.1, ⟨hk.2.2, (by simp [Value.ownBlock])⟩⟩⟩)⟩, ⟨by (with_reducible repeat (first | apply Kd.N_alloc | apply Kd.N_drewN | apply Kd.N_drew)); exact Kd.N_mono HO_10.out (fun _ hk => ⟨hk.1, ⟨hk.2.1, ⟨hk.2.2, (by simp [Value.ownBlock])⟩⟩⟩)⟩, ⟨by first | exact Kd.S_nil _ _ _ _ _ | exact Kd.N_nil _ _ _ _ _ | exact Kd.V_nil _ _ _ _ _ | exact Kd.Q_nil _ _ _ _ _ | exact Kd.R_nil _ _ _ _ _⟩, ⟨by repeat (first | (with_reducible first | exact HB.out | apply below_alloc | apply pw_below_drewN | apply below_drew1) | exact HB.out)⟩⟩
                        case round =>
                          clear H'
                          try clear c1
                          try clear c2
                          try clear p2
                          try clear c3
                          try clear c4
                          try clear c4b0
                          try clear c4b1
                          try clear p6
                          try clear c11
                          try clear c11b0
                          try clear c13
                          try clear c13b0
                          try clear c15
                          try clear c17
                          try clear c20
                          try clear c20b0
                          try clear c21
                          try clear c21b0
                          try clear p2
                          try clear p6
                          obtain ⟨x13_4, x14_4, rfl, HA, HK4, HO_7, HO_9, HO_10, HO_13, HB⟩ := hrel
                          cases gk with
                          | zero => exact absurd HA.out (by simp [estoversref11_Images.l3])
                          | succ k4 =>
                            have H := HA.out
                            clear HA
                            simp only [estoversref11_Images.l3] at H
                            by_cases c22 : 0 ≤ x11_2
                            · rw [if_pos c22] at H
                              have c22b0 : decide (0 ≤ x11_2) = true := decide_eq_true c22
                              clear c22
                              by_cases c23 : x11_2 < (x7_1.length : Int)
                              · rw [if_pos c23] at H
                                have c23b0 : decide (x11_2 < (x7_1.length : Int)) = true := decide_eq_true c23
                                clear c23
                                by_cases c24 : x14_4 < ((rd_L4 x7_1 x11_2).length : Int)
                                · rw [if_pos c24] at H
                                  have c24b0 : decide (x14_4 < ((rd_L4 x7_1 x11_2).length : Int)) = true := decide_eq_true c24
                                  clear c24
                                  by_cases c25 : 0 ≤ x14_4
                                  · rw [if_pos c25] at H
                                    have c25b0 : decide (0 ≤ x14_4) = true := decide_eq_true c25
                                    clear c25
                                    replace H := Option.bind_eq_some_iff.mp H
                                    obtain ⟨t251, A260, H⟩ := H
                                    replace H : (if x13_4.length < 5864062014805 then (estoversref11_Images.l3 k4 l0 l1 x7_1 x8_1 t245 x10_3 x11_2 x12_3 (x13_4 ++ [t251]) (wrap64 (x14_4 + 1))) else (none)) = some (r1, r2) := H
                                    have A26 := Aside0.mk A260
                                    clear A260
                                    by_cases c27 : x13_4.length < 5864062014805
                                    · rw [if_pos c27] at H
                                      have LMc27 := Aside0.mk c27
                                      clear c27
                                      obtain ⟨y254, hy254⟩ : ∃ y_ : List (List Int), y_ = (x13_4 ++ [t251]) := ⟨_, rfl⟩
                                      replace H : (estoversref11_Images.l3 k4 l0 l1 x7_1 x8_1 t245 x10_3 x11_2 x12_3 y254 (wrap64 (x14_4 + 1))) = some (r1, r2) := by first | (rw [hy254]; with_reducible exact H) | (have H2_ := (Option.bind_some _ _).symm.trans H; rw [hy254]; with_reducible exact H2_) | (have H2_ := (Option.bind_some _ _).symm.trans H; with_reducible exact H2_) | with_reducible exact H | (rw [hy254]; exact H) | exact H
                                      have Ny254 := Aside0.mk hy254
                                      clear hy254
                                      have H' := Aside0.mk H
                                      clear H
                                      have p248 : 0 ≤ (x11_2 : Int) := of_decide_eq_true (by first | (with_reducible assumption) | assumption)
                                      have q248 : x11_2 < (x7_1.length : Int) := of_decide_eq_true (by first | (with_reducible assumption) | assumption)
                                      obtain ⟨ad248, A248_0, c248_0, e248, hx248_0, hl248_0, hi248_0⟩ := at_L4 (Kd.N_reads' HO_7.out).2.2 x11_2 p248 q248
                                      cases e248
                                      obtain ⟨ce248, hce248, hMe248, hcc248⟩ := Kd.N_get HO_7.out [] x11_2 p248 (by first | exact q248 | exact of_decide_eq_true (by first | (with_reducible assumption) | assumption) | (have e_ := (Kd.N_reads' HO_7.out).1; omega))
                                      obtain ⟨ua248_0, uc248_0, rfl, ul248_0, ge248_0⟩ := Kd.FK_slice_open hMe248
                                      have hv248_0 := hcc248 0 _ rfl
                                      rw [Nat.add_zero, show ((Kd.slice 36 (Kd.slice 5 (Kd.int .u8)))).sz = 1 from rfl, Nat.mul_one] at hv248_0
                                      replace hv248_0 := Option.some.inj (hv248_0.symm.trans hx248_0)
                                      injection hv248_0 with hva_ hvn_ hvc_
                                      rw [hva_] at ge248_0
                                      rw [hvc_] at ul248_0
                                      have HL248_0 := Aside0.mk (show Kd.V (Kd.slice 5 (Kd.int .u8)) 36 _ w.heap.size _ _ (rd_L4 x7_1 x11_2) from Kd.V_mk ul248_0 ge248_0)
                                      clear hva_ hvn_ hvc_ ge248_0 ul248_0
                                      clear hcc248 hce248
                                      have HR248_0 := Aside0.mk hi248_0
                                      have HC248_0 := Aside0.mk hl248_0
                                      clear hi248_0 hl248_0
                                      replace p248 := eq_true p248
                                      replace q248 := eq_true q248
                                      have p249 : 0 ≤ (x11_2 : Int) := of_decide_eq_true (by first | (with_reducible assumption) | assumption)
                                      have q249 : x11_2 < (x7_1.length : Int) := of_decide_eq_true (by first | (with_reducible assumption) | assumption)
                                      obtain ⟨ad249, A249_0, c249_0, e249, hx249_0, hl249_0, hi249_0⟩ := at_L4 (Kd.N_reads' HO_7.out).2.2 x11_2 p249 q249
                                      obtain rfl : ad248 = ad249 := (by injection e249)
                                      obtain ⟨ce249, hce249, hMe249, hcc249⟩ := Kd.N_get HO_7.out [] x11_2 p249 (by first | exact q249 | exact of_decide_eq_true (by first | (with_reducible assumption) | assumption) | (have e_ := (Kd.N_reads' HO_7.out).1; omega))
                                      obtain ⟨ua249_0, uc249_0, rfl, ul249_0, ge249_0⟩ := Kd.FK_slice_open hMe249
                                      have hv249_0 := hcc249 0 _ rfl
                                      rw [Nat.add_zero, show ((Kd.slice 36 (Kd.slice 5 (Kd.int .u8)))).sz = 1 from rfl, Nat.mul_one] at hv249_0
                                      replace hv249_0 := Option.some.inj (hv249_0.symm.trans hx249_0)
                                      injection hv249_0 with hva_ hvn_ hvc_
                                      rw [hva_] at ge249_0
                                      rw [hvc_] at ul249_0
                                      have HL249_0 := Aside0.mk (show Kd.V (Kd.slice 5 (Kd.int .u8)) 36 _ w.heap.size _ _ (rd_L4 x7_1 x11_2) from Kd.V_mk ul249_0 ge249_0)
                                      clear hva_ hvn_ hvc_ ge249_0 ul249_0
                                      clear hcc249 hce249
                                      have HR249_0 := Aside0.mk hi249_0
                                      have HC249_0 := Aside0.mk hl249_0
                                      clear hi249_0 hl249_0
                                      replace p249 := eq_true p249
                                      replace q249 := eq_true q249
                                      have ea_ := Option.some.inj (hx248_0.symm.trans hx249_0)
                                      injection ea_ with ea_ en_ ec_
                                      subst ea_
                                      subst ec_
                                      clear en_
                                      have p250 : 0 ≤ (x14_4 : Int) := of_decide_eq_true (by first | (with_reducible assumption) | assumption)
                                      have q250 : x14_4 < ((rd_L4 x7_1 x11_2).length : Int) := of_decide_eq_true (by first | (with_reducible assumption) | assumption)
                                      obtain ⟨ad250, A250_0, c250_0, e250, hx250_0, hl250_0, hi250_0⟩ := at_L1 (by repeat (first | (with_reducible exact HR249_0.out) | (with_reducible refine Kd.C_alloc ?_ _) | (with_reducible refine Kd.C_drewN ?_ _) | (with_reducible refine Kd.C_drew ?_) | exact HR249_0.out)) x14_4 p250 q250
                                      cases e250
                                      obtain ⟨ce250, hce250, hMe250, hcc250⟩ := Kd.V_get HL249_0.out [] x14_4 p250 (by first | exact q250 | exact of_decide_eq_true (by first | (with_reducible assumption) | assumption) | (have e_ := (Kd.V_reads' HL249_0.out).1; omega))
                                      obtain ⟨ua250_0, uc250_0, rfl, ul250_0, ge250_0⟩ := Kd.FK_slice_open hMe250
                                      have hv250_0 := hcc250 0 _ rfl
                                      rw [Nat.add_zero, show ((Kd.slice 5 (Kd.int .u8))).sz = 1 from rfl, Nat.mul_one] at hv250_0
                                      replace hv250_0 := Option.some.inj (hv250_0.symm.trans hx250_0)
                                      injection hv250_0 with hva_ hvn_ hvc_
                                      rw [hva_] at ge250_0
                                      rw [hvc_] at ul250_0
                                      have HL250_0 := Aside0.mk (show Kd.V (Kd.int .u8) 5 _ w.heap.size _ _ (rd_L1 (rd_L4 x7_1 x11_2) x14_4) from Kd.V_mk ul250_0 ge250_0)
                                      clear hva_ hvn_ hvc_ ge250_0 ul250_0
                                      clear hcc250 hce250
                                      have HR250_0 := Aside0.mk hi250_0
                                      have HC250_0 := Aside0.mk hl250_0
                                      clear hi250_0 hl250_0
                                      replace p250 := eq_true p250
                                      replace q250 := eq_true q250
                                      go_wp2_with (first | ((with_reducible refine gate_callee (f := 38) rfl ?_); refine goesL_ (some 68) rfl rfl Try.func38 (by kernel_rfl) rfl #[.slice A250_0 (rd_L1 (rd_L4 x7_1 x11_2) x14_4).length c250_0] rfl (by (try simp only [List.map_toArray, List.map_cons, List.map_nil]); first | done | rfl | (simp only [List.length_drop, List.length_take]; rfl)) ?_; (with_reducible refine (estoversref11_own.calls _ _ (rd_L1 (rd_L4 x7_1 x11_2) x14_4) t251 _ ?side1 ?side2 A26.out).mono ?_); (case side1 => repeat (first | exact (by repeat (first | (with_reducible exact HR250_0.out) | (with_reducible refine Kd.C_alloc ?_ _) | (with_reducible refine Kd.C_drewN ?_ _) | (with_reducible refine Kd.C_drew ?_) | exact HR250_0.out)) | (with_reducible refine Kd.C_alloc ?_ _) | (with_reducible refine Kd.C_drewN ?_ _) | (with_reducible refine Kd.C_drew ?_))); (case side2 => exact HC250_0.out); rintro e w28 ⟨v252, rfl, ho0, hb⟩; refine ⟨_, rfl, ?_⟩; have n0_ := Aside0.mk (Kd.N_elder' (by (with_reducible repeat (first | apply Kd.N_alloc | apply Kd.N_drewN | apply Kd.N_drew)); exact HO_7.out) (Kd.R_base ho0) hb); have n1_ := Aside0.mk (Kd.N_elder' (by (with_reducible repeat (first | apply Kd.N_alloc | apply Kd.N_drewN | apply Kd.N_drew)); exact HO_9.out) (Kd.R_base ho0) hb); have n2_ := Aside0.mk (Kd.N_elder' (by (with_reducible repeat (first | apply Kd.N_alloc | apply Kd.N_drewN | apply Kd.N_drew)); exact HO_10.out) (Kd.R_base ho0) hb); have n3_ := Aside0.mk (Kd.N_elder' (by (with_reducible repeat (first | apply Kd.N_alloc | apply Kd.N_drewN | apply Kd.N_drew)); exact HO_13.out) (Kd.R_base ho0) hb); have n4_ := Aside0.mk (Kd.V_elder' (by (with_reducible repeat (first | apply Kd.V_alloc | apply Kd.V_drewN | apply Kd.V_drew)); exact HL248_0.out) (Kd.R_base ho0) hb); have n5_ := Aside0.mk (Kd.V_elder' (by (with_reducible repeat (first | apply Kd.V_alloc | apply Kd.V_drewN | apply Kd.V_drew)); exact HL249_0.out) (Kd.R_base ho0) hb); have n6_ := Aside0.mk (Kd.V_elder' (by (with_reducible repeat (first | apply Kd.V_alloc | apply Kd.V_drewN | apply Kd.V_drew)); exact HL250_0.out) (Kd.R_base ho0) hb); have n7_ := Aside0.mk (Kd.R_lower (Kd.R_newM (M := fun k_ => (w.heap.size ≤ k_)) ho0 (below_size (by repeat (first | (with_reducible first | exact HB.out | apply below_alloc | apply pw_below_drewN | apply below_drew1) | exact HB.out))) (fun k_ h_ => h_)) (below_size (by repeat (first | (with_reducible first | exact HB.out | apply below_alloc | apply pw_below_drewN | apply below_drew1) | exact HB.out)))); have n8_ := Aside0.mk (Kd.C_below (by repeat (first | (with_reducible exact HR248_0.out) | (with_reducible refine Kd.C_alloc ?_ _) | (with_reducible refine Kd.C_drewN ?_ _) | (with_reducible refine Kd.C_drew ?_) | exact HR248_0.out)) hb); have n9_ := Aside0.mk (Kd.C_below (by repeat (first | (with_reducible exact HR249_0.out) | (with_reducible refine Kd.C_alloc ?_ _) | (with_reducible refine Kd.C_drewN ?_ _) | (with_reducible refine Kd.C_drew ?_) | exact HR249_0.out)) hb); have n10_ := Aside0.mk (Kd.C_below (by repeat (first | (with_reducible exact HR250_0.out) | (with_reducible refine Kd.C_alloc ?_ _) | (with_reducible refine Kd.C_drewN ?_ _) | (with_reducible refine Kd.C_drew ?_) | exact HR250_0.out)) hb); have n11_ := Aside0.mk (below_step (by repeat (first | (with_reducible first | exact HB.out | apply below_alloc | apply pw_below_drewN | apply below_drew1) | exact HB.out)) hb); clear HO_7; clear HO_9; clear HO_10; clear HO_13; clear HL248_0; clear HL249_0; clear HL250_0; clear HR248_0; clear HR249_0; clear HR250_0; clear HB; have HO_7 := n0_; have HO_9 := n1_; have HO_10 := n2_; have HO_13 := n3_; have HL248_0 := n4_; have HL249_0 := n5_; have HL250_0 := n6_; have HO253 := n7_; have HR248_0 := n8_; have HR249_0 := n9_; have HR250_0 := n10_; have HB := n11_; clear n0_ n1_ n2_ n3_ n4_ n5_ n6_ n7_ n8_ n9_ n10_ n11_; (try clear hb); (try clear hb2); (try clear hk); (try clear hi); (try clear ho0); obtain ⟨Ao30, co30, eo30⟩ := Kd.R_slice HO253.out; subst eo30) | ((with_reducible refine gate_builtin (b := .append) (xs := #[.tmp 60, .tmp 69]) rfl ?_); at_builtin; refine Kd.N_append (Kd.slice 5 (Kd.int .u8)) (w0 := w) w.heap.size rfl (.tmp 60) (.tmp 69) 22 36 (.slice none 0 0) 24 rfl Try.underlying22 info36 rfl (by decide) (by omega) u13 x13_4 t251 [.slice Ao30 t251.length co30] (fun k_ => (w.heap.size ≤ k_) ∧ some k_ ≠ (.slice (some ad248) x7_1.length co18 : Value).ownBlock ∧ some k_ ≠ (.slice Ao19 t245.length co19 : Value).ownBlock ∧ some k_ ≠ (u10 : Value).ownBlock) (fun k_ => ((fun k_ => (w.heap.size ≤ k_) ∧ some k_ ≠ (.slice (some ad248) x7_1.length co18 : Value).ownBlock ∧ some k_ ≠ (.slice Ao19 t245.length co19 : Value).ownBlock ∧ some k_ ≠ (u10 : Value).ownBlock)) k_ ∧ some k_ ≠ (u13 : Value).ownBlock) rfl rfl ?aP (fun _ hk => hk) ?aF ?aO ?aB ?aS ?aL ?_; (case aP => exact (Kd.FK_slice_mk (Kd.R_reads' (Kd.R_mono (ok' := (fun k_ => ((fun k_ => (w.heap.size ≤ k_) ∧ some k_ ≠ (.slice (some ad248) x7_1.length co18 : Value).ownBlock ∧ some k_ ≠ (.slice Ao19 t245.length co19 : Value).ownBlock ∧ some k_ ≠ (u10 : Value).ownBlock)) k_ ∧ some k_ ≠ (u13 : Value).ownBlock)) (Kd.R_apart' (Kd.R_apart' (Kd.R_apart' (Kd.R_apart' (HO253.out) (Kd.N_typed HO_7.out) (by decide)) (Kd.N_typed HO_9.out) (by decide)) (Kd.N_typed HO_10.out) (by decide)) (Kd.N_typed HO_13.out) (by decide)) (fun k_ hk => ⟨⟨hk.1.1.1.1.1, ⟨hk.1.1.1.2, ⟨hk.1.1.2, hk.1.2⟩⟩⟩, hk.2⟩))).2.1 (Kd.R_F (Kd.R_mono (ok' := (fun k_ => ((fun k_ => (w.heap.size ≤ k_) ∧ some k_ ≠ (.slice (some ad248) x7_1.length co18 : Value).ownBlock ∧ some k_ ≠ (.slice Ao19 t245.length co19 : Value).ownBlock ∧ some k_ ≠ (u10 : Value).ownBlock)) k_ ∧ some k_ ≠ (u13 : Value).ownBlock)) (Kd.R_apart' (Kd.R_apart' (Kd.R_apart' (Kd.R_apart' (HO253.out) (Kd.N_typed HO_7.out) (by decide)) (Kd.N_typed HO_9.out) (by decide)) (Kd.N_typed HO_10.out) (by decide)) (Kd.N_typed HO_13.out) (by decide)) (fun k_ hk => ⟨⟨hk.1.1.1.1.1, ⟨hk.1.1.1.2, ⟨hk.1.1.2, hk.1.2⟩⟩⟩, hk.2⟩))))); (case aB => exact (by repeat (first | (with_reducible first | exact HB.out | apply below_alloc | apply pw_below_drewN | apply below_drew1) | exact HB.out))); (case aF => exact (fun k_ hk => ⟨(Nat.le_trans (below_size (by repeat (first | (with_reducible first | exact HB.out | apply below_alloc | apply pw_below_drewN | apply below_drew1) | exact HB.out))) hk), Kd.fresh' (Kd.N_lt (by (with_reducible repeat (first | apply Kd.N_alloc | apply Kd.N_drewN | apply Kd.N_drew)); exact HO_7.out)) k_ hk, Kd.fresh' (Kd.N_lt (by (with_reducible repeat (first | apply Kd.N_alloc | apply Kd.N_drewN | apply Kd.N_drew)); exact HO_9.out)) k_ hk, Kd.fresh' (Kd.N_lt (by (with_reducible repeat (first | apply Kd.N_alloc | apply Kd.N_drewN | apply Kd.N_drew)); exact HO_10.out)) k_ hk⟩)); (case aO => exact (by (with_reducible repeat (first | apply Kd.N_alloc | apply Kd.N_drewN | apply Kd.N_drew)); exact Kd.N_mono HO_13.out (fun _ hk => ⟨hk.1.1, ⟨hk.1.2.1, ⟨hk.1.2.2.1, hk.1.2.2.2⟩⟩⟩))); (case aS => exact (below_size (by repeat (first | (with_reducible first | exact HB.out | apply below_alloc | apply pw_below_drewN | apply below_drew1) | exact HB.out)))); (case aL => have := LMc27.out; omega); intro v255 w29 ho hb hg hat; rw [← Ny254.out] at ho; have n0_ := Aside0.mk (Kd.N_afterv (ok := (fun k_ => (w.heap.size ≤ k_) ∧ some k_ ≠ (.slice Ao19 t245.length co19 : Value).ownBlock ∧ some k_ ≠ (u10 : Value).ownBlock ∧ some k_ ≠ (.slice Ao30 t251.length co30 : Value).ownBlock)) (by (with_reducible repeat (first | apply Kd.N_alloc | apply Kd.N_drewN | apply Kd.N_drew)); exact Kd.N_mono HO_7.out (fun _ hk => ⟨⟨hk.1.1, ⟨hk.1.2.1, ⟨hk.1.2.2.1, hk.2⟩⟩⟩, hk.1.2.2.2⟩)) hg hat); have n1_ := Aside0.mk (Kd.N_afterv (ok := (fun k_ => (w.heap.size ≤ k_) ∧ some k_ ≠ (.slice (some ad248) x7_1.length co18 : Value).ownBlock ∧ some k_ ≠ (u10 : Value).ownBlock ∧ some k_ ≠ (.slice Ao30 t251.length co30 : Value).ownBlock)) (by (with_reducible repeat (first | apply Kd.N_alloc | apply Kd.N_drewN | apply Kd.N_drew)); exact Kd.N_mono HO_9.out (fun _ hk => ⟨⟨hk.1.1, ⟨hk.1.2.1, ⟨hk.1.2.2.1, hk.2⟩⟩⟩, hk.1.2.2.2⟩)) hg hat); have n2_ := Aside0.mk (Kd.N_afterv (ok := (fun k_ => (w.heap.size ≤ k_) ∧ some k_ ≠ (.slice (some ad248) x7_1.length co18 : Value).ownBlock ∧ some k_ ≠ (.slice Ao19 t245.length co19 : Value).ownBlock ∧ some k_ ≠ (.slice Ao30 t251.length co30 : Value).ownBlock)) (by (with_reducible repeat (first | apply Kd.N_alloc | apply Kd.N_drewN | apply Kd.N_drew)); exact Kd.N_mono HO_10.out (fun _ hk => ⟨⟨hk.1.1, ⟨hk.1.2.1, ⟨hk.1.2.2.1, hk.2⟩⟩⟩, hk.1.2.2.2⟩)) hg hat); have n3_ := Aside0.mk (Kd.V_afterv (ok := (fun k_ => (w.heap.size ≤ k_) ∧ some k_ ≠ (.slice (some ad248) x7_1.length co18 : Value).ownBlock ∧ some k_ ≠ (.slice Ao19 t245.length co19 : Value).ownBlock ∧ some k_ ≠ (u10 : Value).ownBlock ∧ some k_ ≠ (.slice Ao30 t251.length co30 : Value).ownBlock)) (by (with_reducible repeat (first | apply Kd.V_alloc | apply Kd.V_drewN | apply Kd.V_drew)); exact Kd.V_mono HL248_0.out (fun _ hk => ⟨⟨hk.1.1.1, ⟨hk.1.2, ⟨hk.1.1.2.1, ⟨hk.1.1.2.2.1, hk.2⟩⟩⟩⟩, hk.1.1.2.2.2⟩)) hg hat); have n4_ := Aside0.mk (Kd.V_afterv (ok := (fun k_ => (w.heap.size ≤ k_) ∧ some k_ ≠ (.slice (some ad248) x7_1.length co18 : Value).ownBlock ∧ some k_ ≠ (.slice Ao19 t245.length co19 : Value).ownBlock ∧ some k_ ≠ (u10 : Value).ownBlock ∧ some k_ ≠ (.slice Ao30 t251.length co30 : Value).ownBlock)) (by (with_reducible repeat (first | apply Kd.V_alloc | apply Kd.V_drewN | apply Kd.V_drew)); exact Kd.V_mono HL249_0.out (fun _ hk => ⟨⟨hk.1.1.1, ⟨hk.1.2, ⟨hk.1.1.2.1, ⟨hk.1.1.2.2.1, hk.2⟩⟩⟩⟩, hk.1.1.2.2.2⟩)) hg hat); have n5_ := Aside0.mk (Kd.V_afterv (ok := (fun k_ => (w.heap.size ≤ k_) ∧ some k_ ≠ (.slice (some ad248) x7_1.length co18 : Value).ownBlock ∧ some k_ ≠ (.slice Ao19 t245.length co19 : Value).ownBlock ∧ some k_ ≠ (u10 : Value).ownBlock ∧ some k_ ≠ (.slice Ao30 t251.length co30 : Value).ownBlock)) (by (with_reducible repeat (first | apply Kd.V_alloc | apply Kd.V_drewN | apply Kd.V_drew)); exact Kd.V_mono HL250_0.out (fun _ hk => ⟨⟨hk.1.1.1, ⟨hk.1.2, ⟨hk.1.1.2.1, ⟨hk.1.1.2.2.1, hk.2⟩⟩⟩⟩, hk.1.1.2.2.2⟩)) hg hat); have n6_ := Aside0.mk (hb); have n7_ := Aside0.mk (ho); clear HO_7; clear HO_9; clear HO_10; clear HL248_0; clear HL249_0; clear HL250_0; clear HB; clear HO_13; clear HO253; have HO_7 := n0_; have HO_9 := n1_; have HO_10 := n2_; have HL248_0 := n3_; have HL249_0 := n4_; have HL250_0 := n5_; have HB := n6_; have HO256 := n7_; clear n0_ n1_ n2_ n3_ n4_ n5_ n6_ n7_; clear ho hb hg hat))
                                      go_roundg k4
                                      case measure => have := HK1.out; have := HK2.out; have := HK3.out; have := HK4.out; omega
                                      case rel => exact ⟨(y254), (wrap64 (x14_4 + 1)), (by first | rfl | (simp; done) | (simp [*]; done)), H', ⟨by have := HK1.out; have := HK2.out; have := HK3.out; have := HK4.out; omega⟩, ⟨by (with_reducible repeat (first | apply Kd.N_alloc | apply Kd.N_drewN | apply Kd.N_drew)); exact Kd.N_mono HO_7.out (fun _ hk => ⟨hk.1.1, ⟨hk.1.2.1, ⟨hk.1.2.2.1, hk.2⟩⟩⟩)⟩, ⟨by (with_reducible repeat (first | apply Kd.N_alloc | apply Kd.N_drewN | apply Kd.N_drew)); exact Kd.N_mono HO_9.out (fun _ hk => ⟨hk.1.1, ⟨hk.1.2.1, ⟨hk.1.2.2.1, hk.2⟩⟩⟩)⟩, ⟨by (with_reducible repeat (first | apply Kd.N_alloc | apply Kd.N_drewN | apply Kd.N_drew)); exact Kd.N_mono HO_10.out (fun _ hk => ⟨hk.1.1, ⟨hk.1.2.1, ⟨hk.1.2.2.1, hk.2⟩⟩⟩)⟩, ⟨by (with_reducible repeat (first | apply Kd.N_alloc | apply Kd.N_drewN | apply Kd.N_drew)); exact HO256.out⟩, ⟨by repeat (first | (with_reducible first | exact HB.out | apply below_alloc | apply pw_below_drewN | apply below_drew1) | exact HB.out)⟩⟩
                                    · rw [if_neg c27] at H
                                      exact absurd H (by simp)
                                  · rw [if_neg c25] at H
                                    exact absurd H (by simp)
                                · rw [if_neg c24] at H
                                  have c24b0 : decide (x14_4 < ((rd_L4 x7_1 x11_2).length : Int)) = false := decide_eq_false c24
                                  clear c24
                                  by_cases c31 : 0 ≤ x12_3
                                  · rw [if_pos c31] at H
                                    have c31b0 : decide (0 ≤ x12_3) = true := decide_eq_true c31
                                    clear c31
                                    by_cases c32 : x12_3 < (t245.length : Int)
                                    · rw [if_pos c32] at H
                                      have c32b0 : decide (x12_3 < (t245.length : Int)) = true := decide_eq_true c32
                                      clear c32
                                      replace H := Option.bind_eq_some_iff.mp H
                                      obtain ⟨t258, A330, H⟩ := H
                                      replace H : (if x13_4.length < 5864062014805 then (if x10_3.length < 5864062014805 then (estoversref11_Images.l2 k4 l0 l1 x7_1 x8_1 t245 (x10_3 ++ [(x13_4 ++ [t258])]) x11_2 (wrap64 (x12_3 + 1))) else (none)) else (none)) = some (r1, r2) := H
                                      have A33 := Aside0.mk A330
                                      clear A330
                                      by_cases c34 : x13_4.length < 5864062014805
                                      · rw [if_pos c34] at H
                                        have LMc34 := Aside0.mk c34
                                        clear c34
                                        obtain ⟨y261, hy261⟩ : ∃ y_ : List (List Int), y_ = (x13_4 ++ [t258]) := ⟨_, rfl⟩
                                        replace H : (if x10_3.length < 5864062014805 then (estoversref11_Images.l2 k4 l0 l1 x7_1 x8_1 t245 (x10_3 ++ [y261]) x11_2 (wrap64 (x12_3 + 1))) else (none)) = some (r1, r2) := by first | (rw [hy261]; with_reducible exact H) | (have H2_ := (Option.bind_some _ _).symm.trans H; rw [hy261]; with_reducible exact H2_) | (have H2_ := (Option.bind_some _ _).symm.trans H; with_reducible exact H2_) | with_reducible exact H | (rw [hy261]; exact H) | exact H
                                        have Ny261 := Aside0.mk hy261
                                        clear hy261
                                        by_cases c35 : x10_3.length < 5864062014805
                                        · rw [if_pos c35] at H
                                          have LMc35 := Aside0.mk c35
                                          clear c35
                                          obtain ⟨y264, hy264⟩ : ∃ y_ : List (List (List Int)), y_ = (x10_3 ++ [y261]) := ⟨_, rfl⟩
                                          replace H : (estoversref11_Images.l2 k4 l0 l1 x7_1 x8_1 t245 y264 x11_2 (wrap64 (x12_3 + 1))) = some (r1, r2) := by first | (rw [hy264]; with_reducible exact H) | (have H2_ := (Option.bind_some _ _).symm.trans H; rw [hy264]; with_reducible exact H2_) | (have H2_ := (Option.bind_some _ _).symm.trans H; with_reducible exact H2_) | with_reducible exact H | (rw [hy264]; exact H) | exact H
                                          have Ny264 := Aside0.mk hy264
                                          clear hy264
                                          have H' := Aside0.mk H
                                          clear H
                                          have p248 : 0 ≤ (x11_2 : Int) := of_decide_eq_true (by first | (with_reducible assumption) | assumption)
                                          have q248 : x11_2 < (x7_1.length : Int) := of_decide_eq_true (by first | (with_reducible assumption) | assumption)
                                          obtain ⟨ad248, A248_0, c248_0, e248, hx248_0, hl248_0, hi248_0⟩ := at_L4 (Kd.N_reads' HO_7.out).2.2 x11_2 p248 q248
                                          cases e248
                                          obtain ⟨ce248, hce248, hMe248, hcc248⟩ := Kd.N_get HO_7.out [] x11_2 p248 (by first | exact q248 | exact of_decide_eq_true (by first | (with_reducible assumption) | assumption) | (have e_ := (Kd.N_reads' HO_7.out).1; omega))
                                          obtain ⟨ua248_0, uc248_0, rfl, ul248_0, ge248_0⟩ := Kd.FK_slice_open hMe248
                                          have hv248_0 := hcc248 0 _ rfl
                                          rw [Nat.add_zero, show ((Kd.slice 36 (Kd.slice 5 (Kd.int .u8)))).sz = 1 from rfl, Nat.mul_one] at hv248_0
                                          replace hv248_0 := Option.some.inj (hv248_0.symm.trans hx248_0)
                                          injection hv248_0 with hva_ hvn_ hvc_
                                          rw [hva_] at ge248_0
                                          rw [hvc_] at ul248_0
                                          have HL248_0 := Aside0.mk (show Kd.V (Kd.slice 5 (Kd.int .u8)) 36 _ w.heap.size _ _ (rd_L4 x7_1 x11_2) from Kd.V_mk ul248_0 ge248_0)
                                          clear hva_ hvn_ hvc_ ge248_0 ul248_0
                                          clear hcc248 hce248
                                          have HR248_0 := Aside0.mk hi248_0
                                          have HC248_0 := Aside0.mk hl248_0
                                          clear hi248_0 hl248_0
                                          replace p248 := eq_true p248
                                          replace q248 := eq_true q248
                                          have p257 : 0 ≤ (x12_3 : Int) := of_decide_eq_true (by first | (with_reducible assumption) | assumption)
                                          have q257 : x12_3 < (t245.length : Int) := of_decide_eq_true (by first | (with_reducible assumption) | assumption)
                                          obtain ⟨ad257, A257_0, c257_0, e257, hx257_0, hl257_0, hi257_0⟩ := at_L1 (Kd.N_reads' HO_9.out).2.2 x12_3 p257 q257
                                          cases e257
                                          obtain ⟨ce257, hce257, hMe257, hcc257⟩ := Kd.N_get HO_9.out [] x12_3 p257 (by first | exact q257 | exact of_decide_eq_true (by first | (with_reducible assumption) | assumption) | (have e_ := (Kd.N_reads' HO_9.out).1; omega))
                                          obtain ⟨ua257_0, uc257_0, rfl, ul257_0, ge257_0⟩ := Kd.FK_slice_open hMe257
                                          have hv257_0 := hcc257 0 _ rfl
                                          rw [Nat.add_zero, show ((Kd.slice 5 (Kd.int .u8))).sz = 1 from rfl, Nat.mul_one] at hv257_0
                                          replace hv257_0 := Option.some.inj (hv257_0.symm.trans hx257_0)
                                          injection hv257_0 with hva_ hvn_ hvc_
                                          rw [hva_] at ge257_0
                                          rw [hvc_] at ul257_0
                                          have HL257_0 := Aside0.mk (show Kd.V (Kd.int .u8) 5 _ w.heap.size _ _ (rd_L1 t245 x12_3) from Kd.V_mk ul257_0 ge257_0)
                                          clear hva_ hvn_ hvc_ ge257_0 ul257_0
                                          clear hcc257 hce257
                                          have HR257_0 := Aside0.mk hi257_0
                                          have HC257_0 := Aside0.mk hl257_0
                                          clear hi257_0 hl257_0
                                          replace p257 := eq_true p257
                                          replace q257 := eq_true q257
                                          go_wp2_with (first | ((with_reducible refine gate_callee (f := 38) rfl ?_); refine goesL_ (some 77) rfl rfl Try.func38 (by kernel_rfl) rfl #[.slice A257_0 (rd_L1 t245 x12_3).length c257_0] rfl (by (try simp only [List.map_toArray, List.map_cons, List.map_nil]); first | done | rfl | (simp only [List.length_drop, List.length_take]; rfl)) ?_; (with_reducible refine (estoversref11_own.calls _ _ (rd_L1 t245 x12_3) t258 _ ?side1 ?side2 A33.out).mono ?_); (case side1 => repeat (first | exact (by repeat (first | (with_reducible exact HR257_0.out) | (with_reducible refine Kd.C_alloc ?_ _) | (with_reducible refine Kd.C_drewN ?_ _) | (with_reducible refine Kd.C_drew ?_) | exact HR257_0.out)) | (with_reducible refine Kd.C_alloc ?_ _) | (with_reducible refine Kd.C_drewN ?_ _) | (with_reducible refine Kd.C_drew ?_))); (case side2 => exact HC257_0.out); rintro e w36 ⟨v259, rfl, ho0, hb⟩; refine ⟨_, rfl, ?_⟩; have n0_ := Aside0.mk (Kd.N_elder' (by (with_reducible repeat (first | apply Kd.N_alloc | apply Kd.N_drewN | apply Kd.N_drew)); exact HO_7.out) (Kd.R_base ho0) hb); have n1_ := Aside0.mk (Kd.N_elder' (by (with_reducible repeat (first | apply Kd.N_alloc | apply Kd.N_drewN | apply Kd.N_drew)); exact HO_9.out) (Kd.R_base ho0) hb); have n2_ := Aside0.mk (Kd.N_elder' (by (with_reducible repeat (first | apply Kd.N_alloc | apply Kd.N_drewN | apply Kd.N_drew)); exact HO_10.out) (Kd.R_base ho0) hb); have n3_ := Aside0.mk (Kd.N_elder' (by (with_reducible repeat (first | apply Kd.N_alloc | apply Kd.N_drewN | apply Kd.N_drew)); exact HO_13.out) (Kd.R_base ho0) hb); have n4_ := Aside0.mk (Kd.V_elder' (by (with_reducible repeat (first | apply Kd.V_alloc | apply Kd.V_drewN | apply Kd.V_drew)); exact HL248_0.out) (Kd.R_base ho0) hb); have n5_ := Aside0.mk (Kd.V_elder' (by (with_reducible repeat (first | apply Kd.V_alloc | apply Kd.V_drewN | apply Kd.V_drew)); exact HL257_0.out) (Kd.R_base ho0) hb); have n6_ := Aside0.mk (Kd.R_lower (Kd.R_newM (M := fun k_ => (w.heap.size ≤ k_)) ho0 (below_size (by repeat (first | (with_reducible first | exact HB.out | apply below_alloc | apply pw_below_drewN | apply below_drew1) | exact HB.out))) (fun k_ h_ => h_)) (below_size (by repeat (first | (with_reducible first | exact HB.out | apply below_alloc | apply pw_below_drewN | apply below_drew1) | exact HB.out)))); have n7_ := Aside0.mk (Kd.C_below (by repeat (first | (with_reducible exact HR248_0.out) | (with_reducible refine Kd.C_alloc ?_ _) | (with_reducible refine Kd.C_drewN ?_ _) | (with_reducible refine Kd.C_drew ?_) | exact HR248_0.out)) hb); have n8_ := Aside0.mk (Kd.C_below (by repeat (first | (with_reducible exact HR257_0.out) | (with_reducible refine Kd.C_alloc ?_ _) | (with_reducible refine Kd.C_drewN ?_ _) | (with_reducible refine Kd.C_drew ?_) | exact HR257_0.out)) hb); have n9_ := Aside0.mk (below_step (by repeat (first | (with_reducible first | exact HB.out | apply below_alloc | apply pw_below_drewN | apply below_drew1) | exact HB.out)) hb); clear HO_7; clear HO_9; clear HO_10; clear HO_13; clear HL248_0; clear HL257_0; clear HR248_0; clear HR257_0; clear HB; have HO_7 := n0_; have HO_9 := n1_; have HO_10 := n2_; have HO_13 := n3_; have HL248_0 := n4_; have HL257_0 := n5_; have HO260 := n6_; have HR248_0 := n7_; have HR257_0 := n8_; have HB := n9_; clear n0_ n1_ n2_ n3_ n4_ n5_ n6_ n7_ n8_ n9_; (try clear hb); (try clear hb2); (try clear hk); (try clear hi); (try clear ho0); obtain ⟨Ao38, co38, eo38⟩ := Kd.R_slice HO260.out; subst eo38) | ((with_reducible refine gate_builtin (b := .append) (xs := #[.tmp 72, .tmp 78]) rfl ?_); at_builtin; refine Kd.N_append (Kd.slice 5 (Kd.int .u8)) (w0 := w) w.heap.size rfl (.tmp 72) (.tmp 78) 22 36 (.slice none 0 0) 24 rfl Try.underlying22 info36 rfl (by decide) (by omega) u13 x13_4 t258 [.slice Ao38 t258.length co38] (fun k_ => (w.heap.size ≤ k_) ∧ some k_ ≠ (.slice (some ad248) x7_1.length co18 : Value).ownBlock ∧ some k_ ≠ (.slice (some ad257) t245.length co19 : Value).ownBlock ∧ some k_ ≠ (u10 : Value).ownBlock) (fun k_ => ((fun k_ => (w.heap.size ≤ k_) ∧ some k_ ≠ (.slice (some ad248) x7_1.length co18 : Value).ownBlock ∧ some k_ ≠ (.slice (some ad257) t245.length co19 : Value).ownBlock ∧ some k_ ≠ (u10 : Value).ownBlock)) k_ ∧ some k_ ≠ (u13 : Value).ownBlock) rfl rfl ?aP (fun _ hk => hk) ?aF ?aO ?aB ?aS ?aL ?_; (case aP => exact (Kd.FK_slice_mk (Kd.R_reads' (Kd.R_mono (ok' := (fun k_ => ((fun k_ => (w.heap.size ≤ k_) ∧ some k_ ≠ (.slice (some ad248) x7_1.length co18 : Value).ownBlock ∧ some k_ ≠ (.slice (some ad257) t245.length co19 : Value).ownBlock ∧ some k_ ≠ (u10 : Value).ownBlock)) k_ ∧ some k_ ≠ (u13 : Value).ownBlock)) (Kd.R_apart' (Kd.R_apart' (Kd.R_apart' (Kd.R_apart' (HO260.out) (Kd.N_typed HO_7.out) (by decide)) (Kd.N_typed HO_9.out) (by decide)) (Kd.N_typed HO_10.out) (by decide)) (Kd.N_typed HO_13.out) (by decide)) (fun k_ hk => ⟨⟨hk.1.1.1.1.1, ⟨hk.1.1.1.2, ⟨hk.1.1.2, hk.1.2⟩⟩⟩, hk.2⟩))).2.1 (Kd.R_F (Kd.R_mono (ok' := (fun k_ => ((fun k_ => (w.heap.size ≤ k_) ∧ some k_ ≠ (.slice (some ad248) x7_1.length co18 : Value).ownBlock ∧ some k_ ≠ (.slice (some ad257) t245.length co19 : Value).ownBlock ∧ some k_ ≠ (u10 : Value).ownBlock)) k_ ∧ some k_ ≠ (u13 : Value).ownBlock)) (Kd.R_apart' (Kd.R_apart' (Kd.R_apart' (Kd.R_apart' (HO260.out) (Kd.N_typed HO_7.out) (by decide)) (Kd.N_typed HO_9.out) (by decide)) (Kd.N_typed HO_10.out) (by decide)) (Kd.N_typed HO_13.out) (by decide)) (fun k_ hk => ⟨⟨hk.1.1.1.1.1, ⟨hk.1.1.1.2, ⟨hk.1.1.2, hk.1.2⟩⟩⟩, hk.2⟩))))); (case aB => exact (by repeat (first | (with_reducible first | exact HB.out | apply below_alloc | apply pw_below_drewN | apply below_drew1) | exact HB.out))); (case aF => exact (fun k_ hk => ⟨(Nat.le_trans (below_size (by repeat (first | (with_reducible first | exact HB.out | apply below_alloc | apply pw_below_drewN | apply below_drew1) | exact HB.out))) hk), Kd.fresh' (Kd.N_lt (by (with_reducible repeat (first | apply Kd.N_alloc | apply Kd.N_drewN | apply Kd.N_drew)); exact HO_7.out)) k_ hk, Kd.fresh' (Kd.N_lt (by (with_reducible repeat (first | apply Kd.N_alloc | apply Kd.N_drewN | apply Kd.N_drew)); exact HO_9.out)) k_ hk, Kd.fresh' (Kd.N_lt (by (with_reducible repeat (first | apply Kd.N_alloc | apply Kd.N_drewN | apply Kd.N_drew)); exact HO_10.out)) k_ hk⟩)); (case aO => exact (by (with_reducible repeat (first | apply Kd.N_alloc | apply Kd.N_drewN | apply Kd.N_drew)); exact Kd.N_mono HO_13.out (fun _ hk => ⟨hk.1.1, ⟨hk.1.2.1, ⟨hk.1.2.2.1, hk.1.2.2.2⟩⟩⟩))); (case aS => exact (below_size (by repeat (first | (with_reducible first | exact HB.out | apply below_alloc | apply pw_below_drewN | apply below_drew1) | exact HB.out)))); (case aL => have := LMc34.out; omega); intro v262 w37 ho hb hg hat; rw [← Ny261.out] at ho; have n0_ := Aside0.mk (Kd.N_afterv (ok := (fun k_ => (w.heap.size ≤ k_) ∧ some k_ ≠ (.slice (some ad257) t245.length co19 : Value).ownBlock ∧ some k_ ≠ (u10 : Value).ownBlock ∧ some k_ ≠ (.slice Ao38 t258.length co38 : Value).ownBlock)) (by (with_reducible repeat (first | apply Kd.N_alloc | apply Kd.N_drewN | apply Kd.N_drew)); exact Kd.N_mono HO_7.out (fun _ hk => ⟨⟨hk.1.1, ⟨hk.1.2.1, ⟨hk.1.2.2.1, hk.2⟩⟩⟩, hk.1.2.2.2⟩)) hg hat); have n1_ := Aside0.mk (Kd.N_afterv (ok := (fun k_ => (w.heap.size ≤ k_) ∧ some k_ ≠ (.slice (some ad248) x7_1.length co18 : Value).ownBlock ∧ some k_ ≠ (u10 : Value).ownBlock ∧ some k_ ≠ (.slice Ao38 t258.length co38 : Value).ownBlock)) (by (with_reducible repeat (first | apply Kd.N_alloc | apply Kd.N_drewN | apply Kd.N_drew)); exact Kd.N_mono HO_9.out (fun _ hk => ⟨⟨hk.1.1, ⟨hk.1.2.1, ⟨hk.1.2.2.1, hk.2⟩⟩⟩, hk.1.2.2.2⟩)) hg hat); have n2_ := Aside0.mk (Kd.N_afterv (ok := (fun k_ => (w.heap.size ≤ k_) ∧ some k_ ≠ (.slice (some ad248) x7_1.length co18 : Value).ownBlock ∧ some k_ ≠ (.slice (some ad257) t245.length co19 : Value).ownBlock ∧ some k_ ≠ (.slice Ao38 t258.length co38 : Value).ownBlock)) (by (with_reducible repeat (first | apply Kd.N_alloc | apply Kd.N_drewN | apply Kd.N_drew)); exact Kd.N_mono HO_10.out (fun _ hk => ⟨⟨hk.1.1, ⟨hk.1.2.1, ⟨hk.1.2.2.1, hk.2⟩⟩⟩, hk.1.2.2.2⟩)) hg hat); have n3_ := Aside0.mk (Kd.V_afterv (ok := (fun k_ => (w.heap.size ≤ k_) ∧ some k_ ≠ (.slice (some ad248) x7_1.length co18 : Value).ownBlock ∧ some k_ ≠ (.slice (some ad257) t245.length co19 : Value).ownBlock ∧ some k_ ≠ (u10 : Value).ownBlock ∧ some k_ ≠ (.slice Ao38 t258.length co38 : Value).ownBlock)) (by (with_reducible repeat (first | apply Kd.V_alloc | apply Kd.V_drewN | apply Kd.V_drew)); exact Kd.V_mono HL248_0.out (fun _ hk => ⟨⟨hk.1.1.1, ⟨hk.1.2, ⟨hk.1.1.2.1, ⟨hk.1.1.2.2.1, hk.2⟩⟩⟩⟩, hk.1.1.2.2.2⟩)) hg hat); have n4_ := Aside0.mk (Kd.V_afterv (ok := (fun k_ => (w.heap.size ≤ k_) ∧ some k_ ≠ (.slice (some ad248) x7_1.length co18 : Value).ownBlock ∧ some k_ ≠ (.slice (some ad257) t245.length co19 : Value).ownBlock ∧ some k_ ≠ (u10 : Value).ownBlock ∧ some k_ ≠ (.slice Ao38 t258.length co38 : Value).ownBlock)) (by (with_reducible repeat (first | apply Kd.V_alloc | apply Kd.V_drewN | apply Kd.V_drew)); exact Kd.V_mono HL257_0.out (fun _ hk => ⟨⟨hk.1.1.1, ⟨hk.1.1.2.1, ⟨hk.1.2, ⟨hk.1.1.2.2.1, hk.2⟩⟩⟩⟩, hk.1.1.2.2.2⟩)) hg hat); have n5_ := Aside0.mk (hb); have n6_ := Aside0.mk (ho); clear HO_7; clear HO_9; clear HO_10; clear HL248_0; clear HL257_0; clear HB; clear HO_13; clear HO260; have HO_7 := n0_; have HO_9 := n1_; have HO_10 := n2_; have HL248_0 := n3_; have HL257_0 := n4_; have HB := n5_; have HO263 := n6_; clear n0_ n1_ n2_ n3_ n4_ n5_ n6_; clear ho hb hg hat; obtain ⟨Ao40, co40, eo40⟩ := Kd.N_slice HO263.out; subst eo40) | ((with_reducible refine gate_builtin (b := .append) (xs := #[.tmp 71, .tmp 80]) rfl ?_); at_builtin; refine Kd.N_append (Kd.slice 36 (Kd.slice 5 (Kd.int .u8))) (w0 := w) w.heap.size rfl (.tmp 71) (.tmp 80) 29 22 (.slice none 0 0) 24 rfl Try.underlying29 info22 rfl (by decide) (by omega) u10 x10_3 y261 [.slice Ao40 y261.length co40] (fun k_ => (w.heap.size ≤ k_) ∧ some k_ ≠ (.slice (some ad248) x7_1.length co18 : Value).ownBlock ∧ some k_ ≠ (.slice (some ad257) t245.length co19 : Value).ownBlock) (fun k_ => ((fun k_ => (w.heap.size ≤ k_) ∧ some k_ ≠ (.slice (some ad248) x7_1.length co18 : Value).ownBlock ∧ some k_ ≠ (.slice (some ad257) t245.length co19 : Value).ownBlock)) k_ ∧ some k_ ≠ (u10 : Value).ownBlock) rfl rfl ?aP (fun _ hk => hk) ?aF ?aO ?aB ?aS ?aL ?_; (case aP => exact (Kd.FK_slice_mk (Kd.N_reads' (Kd.N_mono (ok' := (fun k_ => ((fun k_ => (w.heap.size ≤ k_) ∧ some k_ ≠ (.slice (some ad248) x7_1.length co18 : Value).ownBlock ∧ some k_ ≠ (.slice (some ad257) t245.length co19 : Value).ownBlock)) k_ ∧ some k_ ≠ (u10 : Value).ownBlock)) (HO263.out) (fun k_ hk => ⟨⟨hk.1, ⟨hk.2.1, hk.2.2.1⟩⟩, hk.2.2.2⟩))).2.1 (Kd.N_F (Kd.N_mono (ok' := (fun k_ => ((fun k_ => (w.heap.size ≤ k_) ∧ some k_ ≠ (.slice (some ad248) x7_1.length co18 : Value).ownBlock ∧ some k_ ≠ (.slice (some ad257) t245.length co19 : Value).ownBlock)) k_ ∧ some k_ ≠ (u10 : Value).ownBlock)) (HO263.out) (fun k_ hk => ⟨⟨hk.1, ⟨hk.2.1, hk.2.2.1⟩⟩, hk.2.2.2⟩))))); (case aB => exact (by repeat (first | (with_reducible first | exact HB.out | apply below_alloc | apply pw_below_drewN | apply below_drew1) | exact HB.out))); (case aF => exact (fun k_ hk => ⟨(Nat.le_trans (below_size (by repeat (first | (with_reducible first | exact HB.out | apply below_alloc | apply pw_below_drewN | apply below_drew1) | exact HB.out))) hk), Kd.fresh' (Kd.N_lt (by (with_reducible repeat (first | apply Kd.N_alloc | apply Kd.N_drewN | apply Kd.N_drew)); exact HO_7.out)) k_ hk, Kd.fresh' (Kd.N_lt (by (with_reducible repeat (first | apply Kd.N_alloc | apply Kd.N_drewN | apply Kd.N_drew)); exact HO_9.out)) k_ hk⟩)); (case aO => exact (by (with_reducible repeat (first | apply Kd.N_alloc | apply Kd.N_drewN | apply Kd.N_drew)); exact Kd.N_mono HO_10.out (fun _ hk => ⟨hk.1.1, ⟨hk.1.2.1, hk.1.2.2.1⟩⟩))); (case aS => exact (below_size (by repeat (first | (with_reducible first | exact HB.out | apply below_alloc | apply pw_below_drewN | apply below_drew1) | exact HB.out)))); (case aL => have := LMc35.out; omega); intro v265 w39 ho hb hg hat; rw [← Ny264.out] at ho; have n0_ := Aside0.mk (Kd.N_afterv (ok := (fun k_ => (w.heap.size ≤ k_) ∧ some k_ ≠ (.slice (some ad257) t245.length co19 : Value).ownBlock ∧ some k_ ≠ (.slice Ao40 y261.length co40 : Value).ownBlock)) (by (with_reducible repeat (first | apply Kd.N_alloc | apply Kd.N_drewN | apply Kd.N_drew)); exact Kd.N_mono HO_7.out (fun _ hk => ⟨⟨hk.1.1, ⟨hk.1.2.1, hk.2⟩⟩, hk.1.2.2.1⟩)) hg hat); have n1_ := Aside0.mk (Kd.N_afterv (ok := (fun k_ => (w.heap.size ≤ k_) ∧ some k_ ≠ (.slice (some ad248) x7_1.length co18 : Value).ownBlock ∧ some k_ ≠ (.slice Ao40 y261.length co40 : Value).ownBlock)) (by (with_reducible repeat (first | apply Kd.N_alloc | apply Kd.N_drewN | apply Kd.N_drew)); exact Kd.N_mono HO_9.out (fun _ hk => ⟨⟨hk.1.1, ⟨hk.1.2.1, hk.2⟩⟩, hk.1.2.2.1⟩)) hg hat); have n2_ := Aside0.mk (Kd.V_afterv (ok := (fun k_ => (w.heap.size ≤ k_) ∧ some k_ ≠ (.slice (some ad248) x7_1.length co18 : Value).ownBlock ∧ some k_ ≠ (.slice (some ad257) t245.length co19 : Value).ownBlock ∧ some k_ ≠ (.slice Ao40 y261.length co40 : Value).ownBlock)) (by (with_reducible repeat (first | apply Kd.V_alloc | apply Kd.V_drewN | apply Kd.V_drew)); exact Kd.V_mono HL248_0.out (fun _ hk => ⟨⟨hk.1.1, ⟨hk.1.2.1, ⟨hk.1.2.2.1, hk.2⟩⟩⟩, hk.1.2.2.2.1⟩)) hg hat); have n3_ := Aside0.mk (Kd.V_afterv (ok := (fun k_ => (w.heap.size ≤ k_) ∧ some k_ ≠ (.slice (some ad248) x7_1.length co18 : Value).ownBlock ∧ some k_ ≠ (.slice (some ad257) t245.length co19 : Value).ownBlock ∧ some k_ ≠ (.slice Ao40 y261.length co40 : Value).ownBlock)) (by (with_reducible repeat (first | apply Kd.V_alloc | apply Kd.V_drewN | apply Kd.V_drew)); exact Kd.V_mono HL257_0.out (fun _ hk => ⟨⟨hk.1.1, ⟨hk.1.2.1, ⟨hk.1.2.2.1, hk.2⟩⟩⟩, hk.1.2.2.2.1⟩)) hg hat); have n4_ := Aside0.mk (hb); have n5_ := Aside0.mk (ho); clear HO_7; clear HO_9; clear HL248_0; clear HL257_0; clear HB; clear HO_10; clear HO263; have HO_7 := n0_; have HO_9 := n1_; have HL248_0 := n2_; have HL257_0 := n3_; have HB := n4_; have HO266 := n5_; clear n0_ n1_ n2_ n3_ n4_ n5_; clear ho hb hg hat))
                                          go_roundg k4
                                          case measure => have := HK1.out; have := HK2.out; have := HK3.out; have := HK4.out; omega
                                          case rel => exact ⟨(y264), (wrap64 (x12_3 + 1)), (by first | rfl | (simp; done) | (simp [*]; done)), H', ⟨by have := HK1.out; have := HK2.out; have := HK3.out; have := HK4.out; omega⟩, ⟨by (with_reducible repeat (first | apply Kd.N_alloc | apply Kd.N_drewN | apply Kd.N_drew)); exact Kd.N_mono HO_7.out (fun _ hk => ⟨hk.1.1, ⟨hk.1.2.1, hk.2⟩⟩)⟩, ⟨by (with_reducible repeat (first | apply Kd.N_alloc | apply Kd.N_drewN | apply Kd.N_drew)); exact Kd.N_mono HO_9.out (fun _ hk => ⟨hk.1.1, ⟨hk.1.2.1, hk.2⟩⟩)⟩, ⟨by (with_reducible repeat (first | apply Kd.N_alloc | apply Kd.N_drewN | apply Kd.N_drew)); exact HO266.out⟩, ⟨by repeat (first | (with_reducible first | exact HB.out | apply below_alloc | apply pw_below_drewN | apply below_drew1) | exact HB.out)⟩⟩
                                        · rw [if_neg c35] at H
                                          exact absurd H (by simp)
                                      · rw [if_neg c34] at H
                                        exact absurd H (by simp)
                                    · rw [if_neg c32] at H
                                      exact absurd H (by simp)
                                  · rw [if_neg c31] at H
                                    exact absurd H (by simp)
                              · rw [if_neg c23] at H
                                exact absurd H (by simp)
                            · rw [if_neg c22] at H
                              exact absurd H (by simp)
                      · rw [if_neg c21] at H
                        have c21b0 : decide (x12_3 < (t245.length : Int)) = false := decide_eq_false c21
                        clear c21
                        have H' := Aside0.mk H
                        clear H
                        go_wp2
                        go_roundg k3
                        case measure => have := HK1.out; have := HK2.out; have := HK3.out; omega
                        case rel => exact ⟨(x10_3), (wrap64 (x11_2 + 1)), (by first | rfl | (simp; done) | (simp [*]; done)), H', ⟨by have := HK1.out; have := HK2.out; have := HK3.out; omega⟩, ⟨by (with_reducible repeat (first | apply Kd.N_alloc | apply Kd.N_drewN | apply Kd.N_drew)); exact HO_7.out⟩, ⟨by (with_reducible repeat (first | apply Kd.N_alloc | apply Kd.N_drewN | apply Kd.N_drew)); exact HO_9.out⟩, ⟨by (with_reducible repeat (first | apply Kd.N_alloc | apply Kd.N_drewN | apply Kd.N_drew)); exact HO_10.out⟩, ⟨by repeat (first | (with_reducible first | exact HB.out | apply below_alloc | apply pw_below_drewN | apply below_drew1) | exact HB.out)⟩⟩
                · rw [if_neg c20] at H
                  have c20b0 : decide (x11_2 < (x7_1.length : Int)) = false := decide_eq_false c20
                  clear c20
                  have H' := Aside0.mk H
                  clear H
                  go_wp2
                  go_roundg k2
                  case measure => have := HK1.out; have := HK2.out; omega
                  case rel => exact ⟨(x10_2), (wrap64 (x8_1 + 1)), (by first | rfl | (simp; done) | (simp [*]; done)), H', ⟨by have := HK1.out; have := HK2.out; omega⟩, ⟨by (with_reducible repeat (first | apply Kd.N_alloc | apply Kd.N_drewN | apply Kd.N_drew)); exact Kd.N_mono HO_10.out (fun _ hk => hk.1)⟩, ⟨by repeat (first | (with_reducible first | exact HB.out | apply below_alloc | apply pw_below_drewN | apply below_drew1) | exact HB.out)⟩⟩
        · rw [if_neg c11] at H
          have c11b0 : decide (x8_1 < (l0.length : Int)) = false := decide_eq_false c11
          clear c11
          simp only [Option.some.injEq, Prod.mk.injEq] at H
          obtain ⟨rfl, rfl⟩ := H
          go_wp2
          go_ret2
          exact ⟨_, by first | rfl | (simp [errW_none, errW_some] <;> rfl) | (simp [*, errW_none, errW_some] <;> rfl), by (with_reducible repeat (first | apply Kd.N_alloc | apply Kd.N_drewN | apply Kd.N_drew)); exact HO_7.out, by repeat (first | (with_reducible first | exact HB.out | apply below_alloc | apply pw_below_drewN | apply below_drew1) | exact HB.out)⟩
  · rw [if_neg c4] at H
    have c4b0 : (t238 == 0) = false := beq_eq_false_iff_ne.mpr c4
    have c4b1 : (t238 != 0) = true := bne_iff_ne.mpr c4
    simp only [Option.some.injEq, Prod.mk.injEq] at H
    obtain ⟨rfl, rfl⟩ := H
    go_enter Try.func17, Try.ntmps17
    go_wp2_with (first | ((with_reducible refine gate_callee (f := 15) rfl ?_); refine goesL_ (some 17) rfl rfl Try.func15 (by kernel_rfl) rfl #[.slice A0 l0.length c0, .slice A1 l1.length c1] rfl (by (try simp only [List.map_toArray, List.map_cons, List.map_nil]); first | done | rfl | (simp only [List.length_drop, List.length_take]; rfl)) ?_; (with_reducible refine (estoversref11_Check.calls k _ _ l0 _ _ l1 t238 _ ?side1 ?side2 ?side3 ?side4 A3.out).mono ?_); (case side1 => repeat (first | exact HR0.out | (with_reducible refine Kd.C_alloc ?_ _) | (with_reducible refine Kd.C_drewN ?_ _) | (with_reducible refine Kd.C_drew ?_))); (case side2 => exact HC0.out); (case side3 => repeat (first | exact HR1.out | (with_reducible refine Kd.C_alloc ?_ _) | (with_reducible refine Kd.C_drewN ?_ _) | (with_reducible refine Kd.C_drew ?_))); (case side4 => exact HC1.out); rintro e w41 ⟨rfl, hb⟩; refine ⟨_, rfl, ?_⟩; have n0_ := Aside0.mk (below_step (by repeat (first | (with_reducible first | exact HB.out | apply below_alloc | apply pw_below_drewN | apply below_drew1) | exact HB.out)) hb); clear HB; have HB := n0_; clear n0_; (try clear hb); (try clear hb2); (try clear hk); (try clear hi)))
    go_ret2
    exact ⟨_, by first | rfl | (simp [errW_none, errW_some] <;> rfl) | (simp [*, errW_none, errW_some] <;> rfl), by first | exact Kd.R_nil _ _ _ _ _ | exact Kd.N_nil _ _ _ _ _ | exact Kd.V_nil _ _ _ _ _ | exact Kd.Q_nil _ _ _ _ _ | exact Kd.S_nil _ _ _ _ _, by repeat (first | (with_reducible first | exact HB.out | apply below_alloc | apply pw_below_drewN | apply below_drew1) | exact HB.out)⟩

end Go.Proofs.Ytghmkmpgfpkfmaa.X
