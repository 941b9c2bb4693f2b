/- The contracts of the reference's Plan and Apply. -/
import Derived.Test.YtollapjmibkpfaaGb
import Derived.Test.YtollapjmibkpfaaPa
import Derived.Outline
namespace Go.Proofs.Ytollapjmibkpfaa.X
open Go.RowKit Go.Proofs.YtollapjmibkpfaaW.PrintWords Go.Proofs.YtollapjmibkpfaaW.PrintLast Go.Proofs.YtollapjmibkpfaaW.PrintMore
set_option linter.unusedVariables false
set_option linter.unusedSimpArgs false

theorem refCheck_calls (A0 : Option Addr) (c0 : Nat) (l0 : List Int) (w : World) (hr0 : Kd.C (Kd.int .i64) w A0 l0.length l0) (hc0 : l0.length ≤ c0) :
    Calls Try.prog 19 #[.slice A0 l0.length c0] w fun e w' => e = .returned (.int .i64 (chk l0)) ∧ Drawn0 w w' := by
  obtain ⟨k, h⟩ := (refCheck_ev l0).rounds
  exact estoversref40_Check.calls k A0 c0 l0 (chk l0) w hr0 hc0 h
theorem refNext_calls (A0 : Option Addr) (c0 : Nat) (l0 : List Int) (w : World) (hr0 : Kd.C (Kd.int .i64) w A0 l0.length l0) (hc0 : l0.length ≤ c0) (hk : chk l0 = 0) :
    Calls Try.prog 14 #[.slice A0 l0.length c0] w fun e w' => e = .returned (.tuple #[.agg #[.int .i64 (nextF l0).1, .int .i64 (nextF l0).2.1], .bool (nextF l0).2.2]) ∧ Below w.heap.size w w' := by
  obtain ⟨k, h⟩ := (refNext_ev l0 hk).rounds
  exact estoversref40_Next.calls k A0 c0 l0 _ _ _ w hr0 hc0 h
theorem refCopy_calls (A0 : Option Addr) (c0 : Nat) (l0 : List Int) (w : World) (hr0 : Kd.C (Kd.int .i64) w A0 l0.length l0) (hc0 : l0.length ≤ c0) (hl : l0.length ≤ 100000) :
    Calls Try.prog 38 #[.slice A0 l0.length c0] w fun e w' => ∃ v0_ : Value, e = .returned v0_ ∧ Kd.R (Kd.int .i64) 3 w' w.heap.size (fun _ => True) v0_ l0 ∧ Below w.heap.size w w' := by
  obtain ⟨k, h⟩ := (refCopy_ev l0 hl).rounds
  exact estoversref40_Copy.calls k A0 c0 l0 l0 w hr0 hc0 h

theorem refNext_own {A : Option Addr} {n c : Nat} {l : List Int} {W : World} {base : Nat} {ok : Nat → Prop} (h : Kd.R (Kd.int .i64) 3 W base ok (.slice A n c) l) (hk : chk l = 0) :
    Calls Try.prog 14 #[.slice A n c] W fun e w' => e = .returned (.tuple #[.agg #[.int .i64 (nextF l).1, .int .i64 (nextF l).2.1], .bool (nextF l).2.2]) ∧ Below W.heap.size W w' := by
  obtain ⟨rfl, h2, h3⟩ := Kd.R_reads' h
  exact refNext_calls A c l W h3 h2 hk
/-- What the reference's loop keeps. -/
def RelP (w : World) (B n c : Nat) (A : Option Addr) (wr : World) (v : Value) (ms : List S26) (cur : List Int) (f t : Int) (ok : Bool) : Prop :=
  Kd.R k26 26 wr w.heap.size (fun k => k ≠ B) v ms ∧ wr.heap[B]? = some (.cells #[.int .i64 f, .int .i64 t] 26 (0, 0)) ∧ Kd.R (Kd.int .i64) 3 wr w.heap.size (fun _ => True) (.slice A n c) cur ∧ Below w.heap.size w wr ∧ w.heap.size ≤ B ∧ nextF cur = (f, t, ok) ∧ chk cur = 0 ∧ cur.length = n
def estoversref40_Plan.f (l : List Int) : Option (List S26 × Int) := some (planF l)
set_option maxHeartbeats 2000000 in
theorem estoversref40_Plan.calls (A0 : Option Addr) (c0 : Nat) (l0 : List Int) (r1 : List S26) (r2 : Int) (w : World) (hr0 : Kd.C (Kd.int .i64) w A0 l0.length l0) (hc0 : l0.length ≤ c0) (h : estoversref40_Plan.f l0 = some (r1, r2)) :
    Calls Try.prog 16 #[.slice A0 l0.length c0] w fun e w' => ∃ v0_ : Value, e = .returned (.tuple #[v0_, .int .i64 r2]) ∧ Kd.R k26 26 w' w.heap.size (fun _ => True) v0_ r1 ∧ Below w.heap.size w w' := by
  have hw := Option.some.inj h
  clear h
  have hu26 := Try.underlying26
  have HC := Aside0.mk (refCheck_calls A0 c0 l0 w hr0 hc0)
  unfold planF at hw
  by_cases hk : chk l0 = 0
  · rw [if_pos hk] at hw
    simp only [Prod.mk.injEq] at hw
    obtain ⟨hw1, rfl⟩ := hw
    rw [hk] at HC
    have HR0 := Aside0.mk hr0
    have HC0 := Aside0.mk hc0
    have HN := Aside0.mk (chk_len hk)
    have HK := Aside0.mk hk
    have HW := Aside0.mk hw1
    clear hr0 hc0 hk hw1
    go_enter Try.func16, Try.ntmps16
    go_wp2_with (go_at_call 19; refine HC.out.mono ?_; rintro e w' ⟨rfl, hd⟩; obtain ⟨nd, rfl⟩ := hd.out; clear hd)
    refine (refCopy_calls _ c0 l0 _ (by repeat (first | exact HR0.out | (with_reducible refine Kd.C_drewN ?_ _))) HC0.out (by have := HN.out; omega)).mono ?_
    rintro e w1 ⟨v, rfl, ho, hb1⟩
    have HB := Aside0.mk (show Below w.heap.size w w1 from (pw_below_drewN (Below.refl _ w) nd).trans hb1)
    have HO : Aside0 (Kd.R (Kd.int .i64) 3 w1 w.heap.size (fun _ => True) v l0) := ⟨ho⟩
    clear hb1 ho
    obtain ⟨A, c, rfl⟩ := Kd.R_slice HO.out
    go_wp2_with (fail)
    refine (refNext_calls A c l0 w1 (Kd.R_reads' HO.out).2.2 (Kd.R_reads' HO.out).2.1 HK.out).mono ?_
    rintro e w2 ⟨rfl, hb2⟩
    have HB2 := Aside0.mk (below_step HB.out hb2)
    have HO2 := Aside0.mk (Kd.R_below HO.out hb2)
    clear hb2 HO HB
    have HX : Aside0 (nextF l0 = ((nextF l0).1, (nextF l0).2.1, (nextF l0).2.2)) := ⟨rfl⟩
    generalize (nextF l0).1 = f0 at HX ⊢
    generalize (nextF l0).2.1 = t0 at HX ⊢
    generalize (nextF l0).2.2 = k0 at HX ⊢
    go_wp2
    have HI : Aside0 (RelP w w2.heap.size l0.length c A (w2.alloc (.cells #[.int .i64 f0, .int .i64 t0] 26)) (.slice none 0 0) [] l0 f0 t0 k0) := ⟨Kd.R_nil _ _ _ _ _, heap_alloc_new w2 _, Kd.R_alloc HO2.out _, below_alloc HB2.out _, HB2.out.size, HX.out, HK.out, rfl⟩
    have hstart : lastM l0 < ((l0.length + 1 : Nat) : Int) := by have := (lastM_is l0).2.1; omega
    clear HO2 HB2 HX
    go_loopg [6, 8] (l0.length + 1) (fun gg v6 s8 wr => ∃ (ms : List S26) (cur : List Int) (f t : Int) (ok : Bool), s8 = .bool ok ∧ lastM cur < (gg : Int) ∧ ms.length + gg = l0.length + 1 ∧ Aside0 (RelP w w2.heap.size l0.length c A wr v6 ms cur f t ok) ∧ Aside0 (ms ++ planL gg cur = r1))
    case atStart => exact ⟨[], l0, f0, t0, k0, rfl, hstart, by simp, HI, ⟨by simpa using HW.out⟩⟩
    case round =>
      clear HI HW hstart
      obtain ⟨ms, cur, f, t, ok, rfl, hlast, hlen, HI, HW⟩ := hrel
      cases ok with
      | false =>
        have HE : Aside0 (r1 = ms) := ⟨by
          have h_ := HI.out.2.2.2.2.2.1
          unfold nextF at h_
          split at h_
          · simp at h_
          · rename_i q
            rw [← HW.out]
            cases gk with
            | zero => simp [planL]
            | succ gk => simp [planL, q]⟩
        obtain rfl := HE.out
        clear HW HE
        go_wp2
        go_ret2
        exact ⟨_, rfl, Kd.R_mono HI.out.1 (fun _ _ => trivial), HI.out.2.2.2.1⟩
      | true =>
        have hq : firstF cur < lastM cur ∧ f = lastM cur ∧ t = firstF cur := by
          have h_ := HI.out.2.2.2.2.2.1
          unfold nextF at h_
          split at h_
          · rename_i q
            simp at h_
            exact ⟨q, h_.1.symm, h_.2.symm⟩
          · simp at h_
        obtain ⟨q0, q1, q2⟩ := hq
        cases gk with
        | zero => have := (firstF_is cur).1; omega
        | succ gk =>
        have HV : Aside0 ((ms ++ [(⟨f, t⟩ : S26)]) ++ planL gk (mv cur f t) = r1) := ⟨by rw [← HW.out, planL, if_pos q0, q1, q2]; simp⟩
        have hl2 : lastM (mv cur f t) < (gk : Int) := by have := mv_last cur q0; rw [q1, q2]; omega
        have hF := lastM_is cur
        have hT := firstF_is cur
        rw [← q1] at hF q0
        rw [← q2] at hT q0
        obtain ⟨_, fb, fc, _⟩ := hF
        obtain ⟨tb, _, tc, _⟩ := hT
        have hn : cur.length = l0.length := HI.out.2.2.2.2.2.2.2
        have q00 : 0 ≤ f := by omega
        have q01 : f < (l0.length : Int) := by omega
        have q10 : 0 ≤ t := tb
        have q11 : t < (l0.length : Int) := by omega
        have HRF : Aside0 (rd cur f = 1 ∧ rd cur t = 0) := ⟨fc q00, tc (by omega)⟩
        have hmb : ms.length ≤ 5000 := by have := HN.out; omega
        clear HW q1 q2 fc tc fb tb hn
        have hc0 : wr.cell? ⟨w2.heap.size, 0, none⟩ = some (.int .i64 f) := by rw [cell_of_row wr _ 0 _ _ _ HI.out.2.1]; rfl
        have hc1 : wr.cell? ⟨w2.heap.size, 1, none⟩ = some (.int .i64 t) := by rw [cell_of_row wr _ 1 _ _ _ HI.out.2.1]; rfl
        go_wp2_with (first | ((with_reducible refine gate_builtin (b := .append) (xs := #[.tmp 22, .tmp 24]) rfl ?_); at_builtin; refine Kd.R_append k26 (w0 := w) w.heap.size rfl (.tmp 22) (.tmp 24) 29 26 (.agg #[(.int .i64 0), (.int .i64 0)]) 16 rfl Try.underlying29 info26 rfl (by decide) (by omega) u6 ms (⟨f, t⟩ : S26) [.int .i64 f, .int .i64 t] (fun k => k ≠ w2.heap.size) (fun _ => False) rfl rfl ?aP (fun _ hk => hk.elim) ?aF ?aO ?aB ?aS ?aL ?_; (case aP => exact k26_mkM _ _ _ (⟨f, t⟩ : S26)); (case aB => exact HI.out.2.2.2.1); (case aF => intro k_ hk_; have := (Array.getElem?_eq_some_iff.1 HI.out.2.1).1; omega); (case aO => exact HI.out.1); (case aS => exact HI.out.2.2.2.1.size); (case aL => omega); intro v114 w8 ho hb hg hat; have HA := Aside0.mk (show RelP w w2.heap.size l0.length c A w8 v114 (ms ++ [(⟨f, t⟩ : S26)]) cur f t true from ⟨ho, (hg.block _ (Array.getElem?_eq_some_iff.1 HI.out.2.1).1 (fun e_ => HI.out.1.1 _ e_.symm rfl)).trans HI.out.2.1, Kd.R_over HI.out.2.2.1 HI.out.1 (by decide) hg, hb, HI.out.2.2.2.2⟩); clear ho hb hg hat hc0 hc1; have hc0 : w8.cell? ⟨w2.heap.size, 0, none⟩ = some (.int .i64 f) := (by rw [cell_of_row w8 _ 0 _ _ _ HA.out.2.1]; rfl); have hc1 : w8.cell? ⟨w2.heap.size, 1, none⟩ = some (.int .i64 t) := (by rw [cell_of_row w8 _ 1 _ _ _ HA.out.2.1]; rfl)))
        clear HI
        obtain ⟨g, cap, eg, gb, gl, hgt⟩ := Kd.R_form HA.out.2.2.1 (by have := HA.out.2.2.2.2.2.2.2; omega)
        injection eg with eg1 eg2 eg3
        subst eg1
        subst eg3
        clear eg2
        have hgB : g ≠ w2.heap.size := by
          intro e_
          obtain ⟨cs, hcs⟩ := hgt
          rw [e_, HA.out.2.1] at hcs
          injection hcs with hcs
          injection hcs with _ h2
          exact absurd h2 (by decide)
        have hBg := Ne.symm hgB
        obtain ⟨ad0, e0, hy0⟩ := Kd.at_int (Kd.R_reads' HA.out.2.2.1).2.2 f q00 (by have := HA.out.2.2.2.2.2.2.2; omega)
        obtain ⟨ad1, e1, hy1⟩ := Kd.at_int (Kd.R_reads' HA.out.2.2.1).2.2 t q10 (by have := HA.out.2.2.2.2.2.2.2; omega)
        cases e0
        cases e1
        simp only [add_plain] at hy0 hy1
        have hne : f.toNat ≠ t.toNat := ne_of_rd cur f t HRF.out.1 HRF.out.2 q00 q10
        have hne' := Ne.symm hne
        have hf0 : w8.frozen? ⟨g, f.toNat, none⟩ = false := by
          obtain ⟨_, _, _, _, hf⟩ := Kd.R_elem HA.out.2.2.1 0 f q00 q01
          have h_ := hf 0
          rwa [show (Kd.int .i64).sz = 1 from rfl, Nat.mul_one, Nat.add_zero] at h_
        have hf1 : w8.frozen? ⟨g, t.toNat, none⟩ = false := by
          obtain ⟨_, _, _, _, hf⟩ := Kd.R_elem HA.out.2.2.1 0 t q10 q11
          have h_ := hf 0
          rwa [show (Kd.int .i64).sz = 1 from rfl, Nat.mul_one, Nat.add_zero] at h_
        clear hgt q0
        go_region
        go_wp2_with (fail)
        have HP := Aside0.mk (Kd.R_putn (Kd.R_putn (ok := fun _ => True) (base := w.heap.size) (by (with_reducible repeat (first | apply Kd.R_drewN | apply Kd.R_drew)); exact HA.out.2.2.1 : Kd.R (Kd.int .i64) 3 w8.drew w.heap.size (fun _ => True) (.slice (some ⟨g, 0, none⟩) l0.length c) cur) f 0) t 1)
        have hk2 : chk (mv cur f t) = 0 := mv_chk cur f t HA.out.2.2.2.2.2.2.1
        refine (refNext_own HP.out hk2).mono ?_
        rintro e w9 ⟨rfl, hb9⟩
        obtain ⟨f', t', ok', hx⟩ : ∃ a b k, nextF ((cur.set f.toNat 0).set t.toNat 1) = (a, b, k) := ⟨_, _, _, rfl⟩
        rw [hx]
        have HX := Aside0.mk hx
        clear hx
        have HG := Aside0.mk (World.grownBy.trans (Kd.R_putg (ok := fun _ => True) (base := w.heap.size) (by (with_reducible repeat (first | apply Kd.R_drewN | apply Kd.R_drew)); exact HA.out.2.2.1 : Kd.R (Kd.int .i64) 3 w8.drew w.heap.size (fun _ => True) (.slice (some ⟨g, 0, none⟩) l0.length c) cur) f 0).2 (Kd.R_putg (Kd.R_putn (ok := fun _ => True) (base := w.heap.size) (by (with_reducible repeat (first | apply Kd.R_drewN | apply Kd.R_drew)); exact HA.out.2.2.1 : Kd.R (Kd.int .i64) 3 w8.drew w.heap.size (fun _ => True) (.slice (some ⟨g, 0, none⟩) l0.length c) cur) f 0) t 1).2)
        have HM := Aside0.mk (Kd.R_below (Kd.R_over (Kd.R_drew HA.out.1) (Kd.R_drew HA.out.2.2.1) (by decide) HG.out) hb9)
        have HP9 := Aside0.mk (Kd.R_below HP.out hb9)
        have hBlt : w2.heap.size < w8.heap.size := (Array.getElem?_eq_some_iff.1 HA.out.2.1).1
        have hB9 : w9.heap[w2.heap.size]? = some (.cells #[.int .i64 f, .int .i64 t] 26 (0, 0)) := by
          rw [hb9.block _ (by simpa using hBlt), Below.heap_setCell _ _ _ _ hBg, Below.heap_setCell _ _ _ _ hBg]
          exact HA.out.2.1
        have HB9 := Aside0.mk hB9
        have HBW := Aside0.mk (below_then (below_set (below_set (below_drew HA.out.2.2.2.1) gb) gb) (by have := HA.out.2.2.2.1.size; simpa using this) hb9 : Below w.heap.size w w9)
        have k0' : w9.cell? ⟨w2.heap.size, 0, none⟩ = some (.int .i64 f) := by rw [cell_of_row w9 _ 0 _ _ _ hB9]; rfl
        have k1' : w9.cell? ⟨w2.heap.size, 1, none⟩ = some (.int .i64 t) := by rw [cell_of_row w9 _ 1 _ _ _ hB9]; rfl
        have k2' : w9.frozen? ⟨w2.heap.size, 0, none⟩ = false := by simp [World.frozen?, hB9]
        have k3' : w9.frozen? ⟨w2.heap.size, 1, none⟩ = false := by simp [World.frozen?, hB9]
        clear hB9 hb9 HG hy0 hy1 hf0 hf1 hc0 hc1 hk2 hBlt
        go_wp2
        go_roundg gk
        case measure => omega
        case rel =>
          refine ⟨ms ++ [(⟨f, t⟩ : S26)], mv cur f t, f', t', ok', rfl, hl2, by simp; omega, ⟨?_⟩, HV⟩
          have hsz : w.heap.size ≤ w2.heap.size := HA.out.2.2.2.2.1
          refine ⟨Kd.R_far (Kd.R_far HM.out (fun _ hk => hk) _) (fun _ hk => hk) _, ?_, ?_, below_set (below_set HBW.out hsz) hsz, hsz, HX.out, mv_chk cur f t HA.out.2.2.2.2.2.2.1, by rw [mv_len]; exact HA.out.2.2.2.2.2.2.2⟩
          · simp [World.setCell, Array.getElem?_modify, HB9.out]
          · refine Kd.R_set (t := 26) (Kd.R_set (t := 26) HP9.out HB9.out (by decide) 0 _) (cells := #[.int .i64 f', .int .i64 t]) (by simp [World.setCell, Array.getElem?_modify, HB9.out]) (by decide) 1 _
  · rw [if_neg hk] at hw
    have c1 : (chk l0 != 0) = true := bne_iff_ne.mpr hk
    generalize chk l0 = r at HC c1 hw hk
    simp only [Prod.mk.injEq] at hw
    obtain ⟨rfl, rfl⟩ := hw
    clear hr0 hc0 hk
    go_enter Try.func16, Try.ntmps16
    go_wp2_with (go_at_call 19; refine HC.out.mono ?_; rintro e w' ⟨rfl, hd⟩; obtain ⟨nd, rfl⟩ := hd.out)
    go_ret2
    exact ⟨_, rfl, Kd.R_nil _ _ _ _ _, pw_below_drewN (Below.refl _ _) _⟩

def RelR (w : World) (n c : Nat) (A : Option Addr) (wr : World) (cur : List Int) : Prop :=
  Kd.R (Kd.int .i64) 3 wr w.heap.size (fun _ => True) (.slice A n c) cur ∧ Below w.heap.size w wr ∧ cur.length = n
def estoversref40_Apply.f (l : List Int) (m : List S26) : Option (List Int × Int) := some (applyF l m)
theorem inr_false {n : Nat} {i : Int} (h : inr n i = false) : i < 0 ∨ (0 ≤ i ∧ (n : Int) ≤ i) := by
  unfold inr at h
  by_cases h0 : i < 0
  · exact .inl h0
  · refine .inr ⟨by omega, ?_⟩
    by_cases h1 : i < (n : Int)
    · rw [decide_eq_true (show 0 ≤ i by omega), decide_eq_true h1] at h; cases h
    · omega
set_option maxHeartbeats 2000000 in
theorem estoversref40_Apply.calls (A0 : Option Addr) (c0 : Nat) (l0 : List Int) (A1 : Option Addr) (c1 : Nat) (l1 : List S26) (r1 : List Int) (r2 : Int) (w : World) (hr0 : Kd.C (Kd.int .i64) w A0 l0.length l0) (hc0 : l0.length ≤ c0) (hr1 : Kd.C k26 w A1 l1.length l1) (hc1 : l1.length ≤ c1) (h : estoversref40_Apply.f l0 l1 = some (r1, r2)) :
    Calls Try.prog 21 #[.slice A0 l0.length c0, .slice A1 l1.length c1] w fun e w' => ∃ v0_ : Value, e = .returned (.tuple #[v0_, .int .i64 r2]) ∧ Kd.R (Kd.int .i64) 3 w' w.heap.size (fun _ => True) v0_ r1 ∧ Below w.heap.size w w' := by
  have hw := Option.some.inj h
  clear h
  have hu26 := Try.underlying26
  have HC := Aside0.mk (refCheck_calls A0 c0 l0 w hr0 hc0)
  unfold applyF at hw
  by_cases hk : chk l0 = 0
  · rw [if_pos hk] at hw
    rw [hk] at HC
    have HR0 := Aside0.mk hr0
    have HR1 := Aside0.mk hr1
    have hm1 : l1.length ≤ 9223372036854775807 := hr1.2.1
    have HC0 := Aside0.mk hc0
    have HN := Aside0.mk (chk_len hk)
    have HW : Aside0 (go l0 l1 = (r1, r2)) := ⟨hw⟩
    clear hr0 hr1 hc0 hc1 hk hw
    go_enter Try.func21, Try.ntmps21
    go_wp2_with (go_at_call 19; refine HC.out.mono ?_; rintro e w' ⟨rfl, hd⟩; obtain ⟨nd, rfl⟩ := hd.out; clear hd)
    refine (refCopy_calls _ c0 l0 _ (by repeat (first | exact HR0.out | (with_reducible refine Kd.C_drewN ?_ _))) HC0.out (by have := HN.out; omega)).mono ?_
    rintro e w1 ⟨v, rfl, ho, hb1⟩
    have HB := Aside0.mk (show Below w.heap.size w w1 from (pw_below_drewN (Below.refl _ w) nd).trans hb1)
    have HO : Aside0 (Kd.R (Kd.int .i64) 3 w1 w.heap.size (fun _ => True) v l0) := ⟨ho⟩
    clear hb1 ho
    obtain ⟨A, c, rfl⟩ := Kd.R_slice HO.out
    go_wp2
    have HI : Aside0 (RelR w l0.length c A w1 l0) := ⟨HO.out, HB.out, rfl⟩
    clear HO HB
    go_loopg [8] l1.length (fun gg s8 wr => ∃ (kk : Nat) (cur : List Int), kk ≤ l1.length ∧ l1.length - kk ≤ gg ∧ s8 = .int .i64 kk ∧ Aside0 (RelR w l0.length c A wr cur) ∧ Aside0 (go cur (l1.drop kk) = (r1, r2)))
    case atStart => exact ⟨0, l0, Nat.zero_le _, by omega, rfl, HI, ⟨HW.out⟩⟩
    case round =>
      clear HI HW
      obtain ⟨kk, cur, hkk, hg, rfl, HI, HW⟩ := hrel
      have HBW := Aside0.mk HI.out.2.1
      have HL := Aside0.mk HI.out.2.2
      by_cases hlt : kk < l1.length
      · have hltz : (kk : Int) < (l1.length : Int) := by omega
        obtain ⟨ad, e0, hx0, hx1⟩ := at_T26 (Kd.C_below HR1.out HI.out.2.1) (kk : Int) (by omega) hltz
        cases e0
        have HG : Aside0 (go cur (rd_T26 l1 kk :: l1.drop (kk + 1)) = (r1, r2)) := ⟨by rw [← go_drop cur l1 kk hlt]; exact HW.out⟩
        simp only [Int.toNat_natCast] at hx0 hx1
        clear HW
        generalize rd_T26 l1 kk = m at hx0 hx1 HG
        cases t1 : inr l0.length m.f0 with
        | false =>
          have HE : Aside0 (r1 = [] ∧ r2 = 2) := ⟨by have h_ := HG.out; unfold go at h_; rw [HL.out, t1] at h_; simp at h_; exact ⟨h_.1, h_.2.symm⟩⟩
          obtain ⟨rfl, rfl⟩ := HE.out
          clear HG HE
          rcases inr_false t1 with q | ⟨q, q'⟩
          · have d0 : decide (m.f0 < 0) = true := decide_eq_true q
            clear t1 q
            go_wp2
            repeat (go_quiet (fail); try go_wp2)
            go_ret2
            exact ⟨_, rfl, Kd.R_nil _ _ _ _ _, by repeat (first | exact HBW.out | apply below_alloc | apply pw_below_drewN | apply below_drew1)⟩
          · have d0 : decide (m.f0 < 0) = false := decide_eq_false (by omega)
            have d1 : decide ((l0.length : Int) ≤ m.f0) = true := decide_eq_true q'
            clear t1 q q'
            go_wp2
            repeat (go_quiet (fail); try go_wp2)
            go_ret2
            exact ⟨_, rfl, Kd.R_nil _ _ _ _ _, by repeat (first | exact HBW.out | apply below_alloc | apply pw_below_drewN | apply below_drew1)⟩
        | true =>
          have q0 : 0 ≤ m.f0 ∧ m.f0 < (l0.length : Int) := by unfold inr at t1; simpa using t1
          obtain ⟨q00, q01⟩ := q0
          have d0 : decide (m.f0 < 0) = false := decide_eq_false (by omega)
          have d1 : decide ((l0.length : Int) ≤ m.f0) = false := decide_eq_false (by omega)
          cases t2 : inr l0.length m.f1 with
          | false =>
            have HE : Aside0 (r1 = [] ∧ r2 = 2) := ⟨by have h_ := HG.out; unfold go at h_; rw [HL.out, t1, t2] at h_; simp at h_; exact ⟨h_.1, h_.2.symm⟩⟩
            obtain ⟨rfl, rfl⟩ := HE.out
            clear HG HE
            rcases inr_false t2 with q | ⟨q, q'⟩
            · have d2 : decide (m.f1 < 0) = true := decide_eq_true q
              clear t1 t2 q
              go_wp2
              repeat (go_quiet (fail); try go_wp2)
              go_ret2
              exact ⟨_, rfl, Kd.R_nil _ _ _ _ _, by repeat (first | exact HBW.out | apply below_alloc | apply pw_below_drewN | apply below_drew1)⟩
            · have d2 : decide (m.f1 < 0) = false := decide_eq_false (by omega)
              have d3 : decide ((l0.length : Int) ≤ m.f1) = true := decide_eq_true q'
              clear t1 t2 q q'
              go_wp2
              repeat (go_quiet (fail); try go_wp2)
              go_ret2
              exact ⟨_, rfl, Kd.R_nil _ _ _ _ _, by repeat (first | exact HBW.out | apply below_alloc | apply pw_below_drewN | apply below_drew1)⟩
          | true =>
            have q1 : 0 ≤ m.f1 ∧ m.f1 < (l0.length : Int) := by unfold inr at t2; simpa using t2
            obtain ⟨q10, q11⟩ := q1
            have d2 : decide (m.f1 < 0) = false := decide_eq_false (by omega)
            have d3 : decide ((l0.length : Int) ≤ m.f1) = false := decide_eq_false (by omega)
            have HE : Aside0 ((if rd cur m.f0 = 1 ∧ rd cur m.f1 = 0 then go ((cur.set m.f0.toNat 0).set m.f1.toNat 1) (l1.drop (kk + 1)) else ([], 11)) = (r1, r2)) := ⟨by have h_ := HG.out; unfold go at h_; rw [HL.out, t1, t2] at h_; simpa using h_⟩
            obtain ⟨g, cap, eg, gb, gl, _⟩ := Kd.R_form HI.out.1 (by have := HL.out; omega)
            injection eg with eg1 eg2 eg3
            subst eg1
            subst eg3
            clear eg2
            obtain ⟨ad0, e0, hy0⟩ := Kd.at_int (Kd.R_reads' HI.out.1).2.2 m.f0 q00 (by have := HL.out; omega)
            obtain ⟨ad1, e1, hy1⟩ := Kd.at_int (Kd.R_reads' HI.out.1).2.2 m.f1 q10 (by have := HL.out; omega)
            cases e0
            cases e1
            simp only [add_plain] at hy0 hy1
            have hz0 := fun o => pw_cell_below (below_alloc (Below.refl _ wr) o) hy0
            have hz1 := fun o => pw_cell_below (below_alloc (Below.refl _ wr) o) hy1
            clear HG t1 t2
            by_cases t3 : rd cur m.f0 = 1
            · have t3' : (rd cur m.f0 != 1) = false := by simp [t3]
              by_cases t4 : rd cur m.f1 = 0
              · have t4' : (rd cur m.f1 != 0) = false := by simp [t4]
                have HV : Aside0 (go ((cur.set m.f0.toNat 0).set m.f1.toNat 1) (l1.drop (kk + 1)) = (r1, r2)) := ⟨by have h_ := HE.out; rw [if_pos ⟨t3, t4⟩] at h_; exact h_⟩
                clear HE
                go_wp2
                repeat (go_quiet (fail); try go_wp2)
                have hne : m.f0.toNat ≠ m.f1.toNat := ne_of_rd cur m.f0 m.f1 t3 t4 q00 q10
                have hne' := Ne.symm hne
                have hgw : g ≠ wr.heap.size := by omega
                have hf0 : wr.frozen? ⟨g, m.f0.toNat, none⟩ = false := by
                  obtain ⟨_, _, _, _, hf⟩ := Kd.R_elem HI.out.1 0 m.f0 q00 q01
                  have h_ := hf 0
                  rwa [show (Kd.int .i64).sz = 1 from rfl, Nat.mul_one, Nat.add_zero] at h_
                have hf1 : wr.frozen? ⟨g, m.f1.toNat, none⟩ = false := by
                  obtain ⟨_, _, _, _, hf⟩ := Kd.R_elem HI.out.1 0 m.f1 q10 q11
                  have h_ := hf 0
                  rwa [show (Kd.int .i64).sz = 1 from rfl, Nat.mul_one, Nat.add_zero] at h_
                go_region
                go_wp2
                go_roundg (l1.length - (kk + 1))
                case measure => omega
                case rel =>
                  refine ⟨kk + 1, (cur.set m.f0.toNat 0).set m.f1.toNat 1, by omega, by omega, by go_num, ⟨?_⟩, HV⟩
                  exact ⟨by (with_reducible repeat (first | apply Kd.R_alloc | apply Kd.R_drewN | apply Kd.R_drew)); exact Kd.R_putn (Kd.R_putn HI.out.1 m.f0 0) m.f1 1, by repeat (first | exact below_set (below_set HBW.out gb) gb | apply below_alloc | apply pw_below_drewN | apply below_drew1), by simp [HL.out]⟩
              · have t4' : (rd cur m.f1 != 0) = true := bne_iff_ne.mpr t4
                obtain ⟨rfl, rfl⟩ : r1 = [] ∧ r2 = 11 := by have h_ := HE.out; rw [if_neg (by simp [t4])] at h_; simp at h_; exact ⟨h_.1, h_.2.symm⟩
                clear HE
                go_wp2
                repeat (go_quiet (fail); try go_wp2)
                go_ret2
                exact ⟨_, rfl, Kd.R_nil _ _ _ _ _, by repeat (first | exact HBW.out | apply below_alloc | apply pw_below_drewN | apply below_drew1)⟩
            · have t3' : (rd cur m.f0 != 1) = true := bne_iff_ne.mpr t3
              obtain ⟨rfl, rfl⟩ : r1 = [] ∧ r2 = 11 := by have h_ := HE.out; rw [if_neg (by simp [t3])] at h_; simp at h_; exact ⟨h_.1, h_.2.symm⟩
              clear HE
              go_wp2
              repeat (go_quiet (fail); try go_wp2)
              go_ret2
              exact ⟨_, rfl, Kd.R_nil _ _ _ _ _, by repeat (first | exact HBW.out | apply below_alloc | apply pw_below_drewN | apply below_drew1)⟩
      · have hltz : ¬ (kk : Int) < (l1.length : Int) := by omega
        have : kk = l1.length := by omega
        subst this
        have HE : Aside0 (r1 = cur ∧ r2 = 0) := ⟨by have h_ := HW.out; rw [List.drop_length] at h_; unfold go at h_; simp at h_; exact ⟨h_.1.symm, h_.2.symm⟩⟩
        obtain ⟨rfl, rfl⟩ := HE.out
        clear HW HE
        go_wp2
        go_ret2
        exact ⟨_, rfl, HI.out.1, HI.out.2.1⟩
  · rw [if_neg hk] at hw
    have c1 : (chk l0 != 0) = true := bne_iff_ne.mpr hk
    generalize chk l0 = r at HC c1 hw hk
    simp only [Prod.mk.injEq] at hw
    obtain ⟨rfl, rfl⟩ := hw
    clear hr0 hr1 hc0 hc1 hk
    go_enter Try.func21, Try.ntmps21
    go_wp2_with (go_at_call 19; refine HC.out.mono ?_; rintro e w' ⟨rfl, hd⟩; obtain ⟨nd, rfl⟩ := hd.out)
    go_ret2
    exact ⟨_, rfl, Kd.R_nil _ _ _ _ _, pw_below_drewN (Below.refl _ _) _⟩
end Go.Proofs.Ytollapjmibkpfaa.X
