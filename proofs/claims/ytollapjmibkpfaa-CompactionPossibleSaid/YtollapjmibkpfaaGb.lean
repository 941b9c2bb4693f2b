/- The contract of compaction.Apply. -/
import Derived.Test.YtollapjmibkpfaaGa
import Derived.Outline
namespace Go.Proofs.Ytollapjmibkpfaa.X
open Go.RowKit Go.Proofs.YtollapjmibkpfaaW.PrintWords Go.Proofs.YtollapjmibkpfaaW.PrintLast Go.Proofs.YtollapjmibkpfaaW.PrintMore
set_option linter.unusedVariables false
set_option linter.unusedSimpArgs false

/-- Is i a cell of n? -/
def inr (n : Nat) (i : Int) : Bool := decide (0 ≤ i) && decide (i < (n : Int))
/-- Moves, one after the other. -/
def go : List Int → List S26 → List Int × Int
  | out, [] => (out, 0)
  | out, m :: l => if inr out.length m.f0 && inr out.length m.f1 then (if rd out m.f0 = 1 ∧ rd out m.f1 = 0 then go ((out.set m.f0.toNat 0).set m.f1.toNat 1) l else ([], 11)) else ([], 2)
def applyF (l : List Int) (m : List S26) : List Int × Int := if chk l = 0 then go l m else ([], chk l)
def compaction_Apply.f (l : List Int) (m : List S26) : Option (List Int × Int) := some (applyF l m)

set_option maxHeartbeats 1000000 in
theorem is_calls (i : Int) (B n c : Nat) (A : Option Addr) (W : World) (hc : W.cell? ⟨B, 0, none⟩ = some (.slice A n c)) (hn : n ≤ 4096) :
    Calls Try.prog 40 #[.int .i64 i, .pointer (some ⟨B, 0, none⟩)] W fun e w' => e = .returned (.bool (inr n i)) ∧ Drawn0 W w' := by
  by_cases h0 : 0 ≤ i
  · have c0 : decide (0 ≤ i) = true := decide_eq_true h0
    by_cases h1 : i < (n : Int)
    · have c1 : decide (i < (n : Int)) = true := decide_eq_true h1
      have HR : Aside0 (inr n i = true) := ⟨by unfold inr; rw [c0, c1]; rfl⟩
      clear h0 h1
      go_enter Try.func40, Try.ntmps40
      go_wp2
      repeat (go_quiet (fail); try go_wp2)
      go_ret
      exact ⟨by rw [HR.out]; rfl, by repeat (first | exact Drawn0.refl _ | apply Drawn0.step)⟩
    · have c1 : decide (i < (n : Int)) = false := decide_eq_false h1
      have HR : Aside0 (inr n i = false) := ⟨by unfold inr; rw [c0, c1]; rfl⟩
      clear h0 h1
      go_enter Try.func40, Try.ntmps40
      go_wp2
      repeat (go_quiet (fail); try go_wp2)
      go_ret
      exact ⟨by rw [HR.out]; rfl, by repeat (first | exact Drawn0.refl _ | apply Drawn0.step)⟩
  · have c0 : decide (0 ≤ i) = false := decide_eq_false h0
    have HR : Aside0 (inr n i = false) := ⟨by unfold inr; rw [c0]; rfl⟩
    clear h0
    go_enter Try.func40, Try.ntmps40
    go_wp2
    repeat (go_quiet (fail); try go_wp2)
    go_ret
    exact ⟨by rw [HR.out]; rfl, by repeat (first | exact Drawn0.refl _ | apply Drawn0.step)⟩

theorem go_len : ∀ (l : List S26) (o : List Int), (go o l).2 = 0 → (go o l).1.length = o.length
  | [], o, h => rfl
  | m :: l, o, h => by
    unfold go at h ⊢
    split at h
    · split at h
      · rename_i c0 c1
        rw [if_pos c0, if_pos c1, go_len l _ h]; simp
      · simp at h
    · simp at h
theorem go_drop (o : List Int) (l : List S26) (k : Nat) (h : k < l.length) : go o (l.drop k) = go o (rd_T26 l k :: l.drop (k + 1)) := by
  have : rd_T26 l k = l[k] := by unfold rd_T26; simp [List.getD_eq_getElem?_getD, h]
  rw [this, ← List.drop_eq_getElem_cons h]

theorem ne_of_rd (cur : List Int) (i j : Int) (hi : rd cur i = 1) (hj : rd cur j = 0) (h0 : 0 ≤ i) (h1 : 0 ≤ j) : i.toNat ≠ j.toNat := by
  intro h
  have e : i = j := by omega
  rw [e, hj] at hi
  exact absurd hi (by decide)
def Rel40 (w : World) (B n c : Nat) (A : Option Addr) (wr : World) (cur : List Int) : Prop :=
  Kd.R (Kd.int .i64) 3 wr w.heap.size (fun k => k ≠ B) (.slice A n c) cur ∧ wr.heap[B]? = some (.cells #[.slice A n c] 22 (0, 0)) ∧ Below w.heap.size w wr ∧ w.heap.size ≤ B

set_option maxHeartbeats 2000000 in
theorem compaction_Apply.calls (A0 : Option Addr) (c0 : Nat) (l0 : List Int) (A1 : Option Addr) (c1 : Nat) (l1 : List S26) (r1 : List Int) (r2 : Int) (w : World) (hr0 : Kd.C (Kd.int .i64) w A0 l0.length l0) (hc0 : l0.length ≤ c0) (hr1 : Kd.C k26 w A1 l1.length l1) (hc1 : l1.length ≤ c1) (h : compaction_Apply.f l0 l1 = some (r1, r2)) :
    Calls Try.prog 20 #[.slice A0 l0.length c0, .slice A1 l1.length c1] w fun e w' => ∃ v0_ : Value, e = .returned (.tuple #[v0_, .int .i64 r2]) ∧ Kd.R (Kd.int .i64) 3 w' w.heap.size (fun _ => True) v0_ r1 ∧ Below w.heap.size w w' := by
  have hw := Option.some.inj h
  clear h
  have hu26 := Try.underlying26
  have HC := Aside0.mk (check_calls A0 c0 l0 w hr0 hc0)
  unfold applyF at hw
  by_cases hk : chk l0 = 0
  · rw [if_pos hk] at hw
    rw [hk] at HC
    have HR0 := Aside0.mk hr0
    have HR1 := Aside0.mk hr1
    have hm1 : l1.length ≤ 9223372036854775807 := hr1.2.1
    have HC0 := Aside0.mk hc0
    have HC1 := Aside0.mk hc1
    have HN := Aside0.mk (chk_len hk)
    clear hr0 hr1 hc0 hc1 hk
    have HW : Aside0 (go l0 l1 = (r1, r2)) := ⟨hw⟩
    clear hw
    go_enter Try.func20, Try.ntmps20
    go_wp2_with (go_at_call 18; refine HC.out.mono ?_; rintro e w' ⟨rfl, hd⟩; obtain ⟨nd, rfl⟩ := hd.out)
    refine (clone_calls _ c0 l0 _ (by repeat (first | exact HR0.out | (with_reducible refine Kd.C_drewN ?_ _))) HC0.out (by have := HN.out; omega)).mono ?_
    rintro e w1 ⟨v, rfl, ho, hb1⟩
    have HB := Aside0.mk (show Below w.heap.size w w1 from (pw_below_drewN (Below.refl _ w) nd).trans hb1)
    have HO : Aside0 (Kd.R (Kd.int .i64) 3 w1 w.heap.size (fun _ => True) v l0) := ⟨ho⟩
    clear hb1 ho
    obtain ⟨A, c, rfl⟩ := Kd.R_slice HO.out
    go_wp2
    have HI : Aside0 (Rel40 w w1.heap.size l0.length c A (w1.alloc (.cells #[.slice A l0.length c] 22)) l0) := ⟨Kd.R_mono (Kd.R_alloc (Kd.R_bound HO.out) _) (fun k hk => by have := hk.2.2.1; omega), heap_alloc_new w1 _, below_alloc HB.out _, HB.out.size⟩
    have HWB := Aside0.mk HB.out.size
    clear HO HB
    go_loopg [21] l1.length (fun gg s21 wr => ∃ (kk : Nat) (cur : List Int), kk ≤ l1.length ∧ l1.length - kk ≤ gg ∧ s21 = .int .i64 kk ∧ Aside0 (Rel40 w w1.heap.size l0.length c A wr cur) ∧ Aside0 (cur.length = l0.length) ∧ Aside0 (go cur (l1.drop kk) = (r1, r2)))
    case atStart => exact ⟨0, l0, Nat.zero_le _, by omega, rfl, HI, ⟨rfl⟩, ⟨HW.out⟩⟩
    case round =>
      clear HI HW
      obtain ⟨kk, cur, hkk, hg, rfl, HI, HL, HW⟩ := hrel
      have hcell : wr.cell? ⟨w1.heap.size, 0, none⟩ = some (.slice A l0.length c) := by have := cell_of_row wr w1.heap.size 0 _ _ _ HI.out.2.1; rw [this]; rfl
      by_cases hlt : kk < l1.length
      · have hltz : (kk : Int) < (l1.length : Int) := by omega
        obtain ⟨ad, e0, hx0, hx1⟩ := at_T26 (Kd.C_below HR1.out HI.out.2.2.1) (kk : Int) (by omega) hltz
        cases e0
        have HG : Aside0 (go cur (rd_T26 l1 kk :: l1.drop (kk + 1)) = (r1, r2)) := ⟨by rw [← go_drop cur l1 kk hlt]; exact HW.out⟩
        simp only [Int.toNat_natCast] at hx0 hx1
        clear HW
        generalize rd_T26 l1 kk = m at hx0 hx1 HG
        have HS := Aside0.mk (fun (i : Int) (W : World) (hc : W.cell? ⟨w1.heap.size, 0, none⟩ = some (.slice A l0.length c)) => is_calls i w1.heap.size l0.length c A W hc HN.out)
        have hcell2 := fun o => pw_cell_below (below_alloc (Below.refl _ wr) o) hcell
        have HBW := Aside0.mk HI.out.2.2.1
        cases t1 : inr l0.length m.f0 with
        | false =>
          have HE : Aside0 (r1 = [] ∧ r2 = 2) := ⟨by have h_ := HG.out; unfold go at h_; rw [HL.out, t1] at h_; simp at h_; exact ⟨h_.1, h_.2.symm⟩⟩
          obtain ⟨rfl, rfl⟩ := HE.out
          clear HG HE
          go_wp2_with (fail)
          refine (HS.out m.f0 _ (hcell2 _)).mono ?_
          rw [t1]; rintro e w' ⟨rfl, hd⟩; obtain ⟨nd, rfl⟩ := hd.out
          clear hx0 hx1 hcell2 hd
          go_wp2_with (fail)
          go_ret2
          exact ⟨_, rfl, Kd.R_nil _ _ _ _ _, by repeat (first | exact HBW.out | apply below_alloc | apply pw_below_drewN)⟩
        | true =>
          cases t2 : inr l0.length m.f1 with
          | false =>
            have HE : Aside0 (r1 = [] ∧ r2 = 2) := ⟨by have h_ := HG.out; unfold go at h_; rw [HL.out, t1, t2] at h_; simp at h_; exact ⟨h_.1, h_.2.symm⟩⟩
            obtain ⟨rfl, rfl⟩ := HE.out
            clear HG HE
            go_wp2_with (fail)
            refine (HS.out m.f0 _ (hcell2 _)).mono ?_
            rw [t1]; rintro e w' ⟨rfl, hd⟩; obtain ⟨nd, rfl⟩ := hd.out
            clear hx0 hx1 hd
            go_wp2_with (fail)
            refine (HS.out m.f1 _ (by rw [World.cell?_drewN]; exact hcell2 _)).mono ?_
            rw [t2]; rintro e w' ⟨rfl, hd⟩; obtain ⟨nd2, rfl⟩ := hd.out
            clear hcell2 hd
            go_wp2_with (fail)
            go_ret2
            exact ⟨_, rfl, Kd.R_nil _ _ _ _ _, by repeat (first | exact HBW.out | apply below_alloc | apply pw_below_drewN)⟩
          | true =>
            have HE : Aside0 ((if rd cur m.f0 = 1 ∧ rd cur m.f1 = 0 then go ((cur.set m.f0.toNat 0).set m.f1.toNat 1) (l1.drop (kk + 1)) else ([], 11)) = (r1, r2)) := ⟨by have h_ := HG.out; unfold go at h_; rw [HL.out, t1, t2] at h_; simpa using h_⟩
            have q0 : 0 ≤ m.f0 ∧ m.f0 < (l0.length : Int) := by unfold inr at t1; simpa using t1
            have q1 : 0 ≤ m.f1 ∧ m.f1 < (l0.length : Int) := by unfold inr at t2; simpa using t2
            obtain ⟨q00, q01⟩ := q0
            obtain ⟨q10, q11⟩ := q1
            obtain ⟨g, cap, eg, gb, gl, _⟩ := Kd.R_form HI.out.1 (by have := HL.out; omega)
            injection eg with eg1 eg2 eg3
            subst eg1
            subst eg3
            clear eg2
            obtain ⟨ad0, e0, hy0⟩ := Kd.at_int (Kd.R_reads' HI.out.1).2.2 m.f0 q00 (by have := HL.out; omega)
            obtain ⟨ad1, e1, hy1⟩ := Kd.at_int (Kd.R_reads' HI.out.1).2.2 m.f1 q10 (by have := HL.out; omega)
            cases e0
            cases e1
            simp only [add_plain] at hy0 hy1
            have hz0 := fun o => pw_cell_below (below_alloc (Below.refl _ wr) o) hy0
            have hz1 := fun o => pw_cell_below (below_alloc (Below.refl _ wr) o) hy1
            clear hy0 hy1 HG
            by_cases t3 : rd cur m.f0 = 1
            · have t3' : (rd cur m.f0 != 1) = false := by simp [t3]
              by_cases t4 : rd cur m.f1 = 0
              · have t4' : (rd cur m.f1 != 0) = false := by simp [t4]
                have HV : Aside0 (go ((cur.set m.f0.toNat 0).set m.f1.toNat 1) (l1.drop (kk + 1)) = (r1, r2)) := ⟨by have h_ := HE.out; rw [if_pos ⟨t3, t4⟩] at h_; exact h_⟩
                clear HE
                go_wp2_with (fail)
                refine (HS.out m.f0 _ (hcell2 _)).mono ?_
                rw [t1]; rintro e w' ⟨rfl, hd⟩; obtain ⟨nd, rfl⟩ := hd.out
                clear hx0 hx1 hd
                go_wp2_with (fail)
                refine (HS.out m.f1 _ (by rw [World.cell?_drewN]; exact hcell2 _)).mono ?_
                rw [t2]; rintro e w' ⟨rfl, hd⟩; obtain ⟨nd2, rfl⟩ := hd.out
                clear hd
                go_wp2_with (fail)
                repeat (go_quiet (fail); try go_wp2_with (fail))
                have hne : m.f0.toNat ≠ m.f1.toNat := ne_of_rd cur m.f0 m.f1 t3 t4 q00 q10
                have hne' := Ne.symm hne
                have hgw : g ≠ wr.heap.size := by omega
                have hgb : g ≠ w1.heap.size := by intro h_; exact HI.out.1.1 g rfl h_
                have hf0 : wr.frozen? ⟨g, m.f0.toNat, none⟩ = false := by
                  obtain ⟨_, _, _, _, hf⟩ := Kd.R_elem HI.out.1 0 m.f0 q00 q01
                  have h_ := hf 0
                  rwa [show (Kd.int .i64).sz = 1 from rfl, Nat.mul_one, Nat.add_zero] at h_
                have hf1 : wr.frozen? ⟨g, m.f1.toNat, none⟩ = false := by
                  obtain ⟨_, _, _, _, hf⟩ := Kd.R_elem HI.out.1 0 m.f1 q10 q11
                  have h_ := hf 0
                  rwa [show (Kd.int .i64).sz = 1 from rfl, Nat.mul_one, Nat.add_zero] at h_
                go_region
                go_wp2
                go_roundg (l1.length - (kk + 1))
                case measure => omega
                case rel =>
                  refine ⟨kk + 1, (cur.set m.f0.toNat 0).set m.f1.toNat 1, by omega, by omega, by go_num, ⟨?_⟩, ⟨by simp [HL.out]⟩, HV⟩
                  refine ⟨Kd.R_putn (Kd.R_putn (by (with_reducible repeat (first | apply Kd.R_alloc | apply Kd.R_drewN | apply Kd.R_drew)); exact HI.out.1) m.f0 0) m.f1 1, ?_, below_set (below_set (by repeat (first | exact HBW.out | apply below_alloc | apply pw_below_drewN | apply below_drew1)) gb) gb, HI.out.2.2.2⟩
                  rw [Below.heap_setCell _ _ _ _ (Ne.symm hgb), Below.heap_setCell _ _ _ _ (Ne.symm hgb)]
                  exact (Below.heap_alloc wr _ _ (Array.getElem?_eq_some_iff.1 HI.out.2.1).1).trans HI.out.2.1
              · have t4' : (rd cur m.f1 != 0) = true := bne_iff_ne.mpr t4
                obtain ⟨rfl, rfl⟩ : r1 = [] ∧ r2 = 11 := by have h_ := HE.out; rw [if_neg (by simp [t4])] at h_; simp at h_; exact ⟨h_.1, h_.2.symm⟩
                clear HE
                go_wp2_with (fail)
                refine (HS.out m.f0 _ (hcell2 _)).mono ?_
                rw [t1]; rintro e w' ⟨rfl, hd⟩; obtain ⟨nd, rfl⟩ := hd.out
                clear hx0 hx1 hd
                go_wp2_with (fail)
                refine (HS.out m.f1 _ (by rw [World.cell?_drewN]; exact hcell2 _)).mono ?_
                rw [t2]; rintro e w' ⟨rfl, hd⟩; obtain ⟨nd2, rfl⟩ := hd.out
                clear hd
                go_wp2_with (fail)
                repeat (go_quiet (fail); try go_wp2_with (fail))
                go_ret2
                exact ⟨_, rfl, Kd.R_nil _ _ _ _ _, by repeat (first | exact HBW.out | apply below_alloc | apply pw_below_drewN)⟩
            · have t3' : (rd cur m.f0 != 1) = true := bne_iff_ne.mpr t3
              obtain ⟨rfl, rfl⟩ : r1 = [] ∧ r2 = 11 := by have h_ := HE.out; rw [if_neg (by simp [t3])] at h_; simp at h_; exact ⟨h_.1, h_.2.symm⟩
              clear HE
              go_wp2_with (fail)
              refine (HS.out m.f0 _ (hcell2 _)).mono ?_
              rw [t1]; rintro e w' ⟨rfl, hd⟩; obtain ⟨nd, rfl⟩ := hd.out
              clear hx0 hx1 hd
              go_wp2_with (fail)
              refine (HS.out m.f1 _ (by rw [World.cell?_drewN]; exact hcell2 _)).mono ?_
              rw [t2]; rintro e w' ⟨rfl, hd⟩; obtain ⟨nd2, rfl⟩ := hd.out
              clear hd
              go_wp2_with (fail)
              repeat (go_quiet (fail); try go_wp2_with (fail))
              go_ret2
              exact ⟨_, rfl, Kd.R_nil _ _ _ _ _, by repeat (first | exact HBW.out | apply below_alloc | apply pw_below_drewN)⟩
      · have hltz : ¬ (kk : Int) < (l1.length : Int) := by omega
        have : kk = l1.length := by omega
        subst this
        have HE : Aside0 (r1 = cur ∧ r2 = 0) := ⟨by have h_ := HW.out; rw [List.drop_length] at h_; unfold go at h_; simp at h_; exact ⟨h_.1.symm, h_.2.symm⟩⟩
        obtain ⟨rfl, rfl⟩ := HE.out
        clear HW HE
        go_wp2
        go_ret2
        exact ⟨_, rfl, Kd.R_mono HI.out.1 (fun _ _ => trivial), HI.out.2.2.1⟩
  · rw [if_neg hk] at hw
    have c1 : (chk l0 != 0) = true := bne_iff_ne.mpr hk
    generalize chk l0 = r at HC c1 hw hk
    simp only [Prod.mk.injEq] at hw
    obtain ⟨rfl, rfl⟩ := hw
    clear hr0 hr1 hc0 hc1 hk
    go_enter Try.func20, Try.ntmps20
    go_wp2_with (go_at_call 18; refine HC.out.mono ?_; rintro e w' ⟨rfl, hd⟩; obtain ⟨nd, rfl⟩ := hd.out)
    go_ret2
    exact ⟨_, rfl, Kd.R_nil _ _ _ _ _, pw_below_drewN (Below.refl _ _) _⟩
end Go.Proofs.Ytollapjmibkpfaa.X
