/- The contract of the reference's choices. -/
import Derived.Test.YtghmkmpgfpkfmaaPr
namespace Go.Proofs.Ytghmkmpgfpkfmaa.X
open Go.RowKit Go.Proofs.YtghmkmpgfpkfmaaW.PrintWords Go.Proofs.YtghmkmpgfpkfmaaW.PrintLast Go.Proofs.YtghmkmpgfpkfmaaW.PrintMore
attribute [local go_sem] max2_int min2_int max_two min_two max_three min_three max_four min_four
set_option linter.unusedVariables false
set_option linter.unusedSimpArgs false

def putL (xs : List (List Int)) (b : List Int) : List (List Int) := if xs.any (fun c => eqB b c) = true then xs else xs ++ [b]
theorem dedL_put (b : List Int) (l out : List (List Int)) : dedL (b :: l) out = dedL l (putL out b) := by
  rw [dedL]; unfold putL; split <;> rfl
theorem putL_len (xs : List (List Int)) (b : List Int) : (putL xs b).length ≤ xs.length + 1 := by
  unfold putL; split
  · omega
  · rw [List.length_append]; exact Nat.le_refl _
abbrev dL : Kd (List Int) := Kd.slice 5 (Kd.int .u8)
set_option maxHeartbeats 4000000 in
theorem put_calls (base : Nat) (v : Value) (xs : List (List Int)) (A : Option Addr) (c : Nat) (b : List Int) (w : World)
    (hs : Kd.S (Kd.slice 5 (Kd.int .u8)) 36 w base (fun _ => True) v xs) (hx : xs.length ≤ 1000000) (hr : Kd.C (Kd.int .u8) w A b.length b) (hc : b.length ≤ c) (hb : b.length ≤ 1000000) (hbase : base ≤ w.heap.size) :
    Calls Try.prog 53 #[v, .slice A b.length c] w fun e w' => ∃ v' : Value, e = .returned v' ∧ Kd.S (Kd.slice 5 (Kd.int .u8)) 36 w' base (fun _ => True) v' (putL xs b) ∧ Below base w w' := by
  obtain ⟨A1, c1, rfl, hc1, hC1⟩ := Kd.S_reads hs
  obtain ⟨k, hk⟩ := Ev.rounds (has_ev xs b hx)
  have HA := Aside0.mk (estoversref11_has.calls k A1 c1 xs A c b _ w hC1 hc1 hr hc hk)
  have HS := Aside0.mk hs
  have HR := Aside0.mk hr
  have HB := Aside0.mk (show Below base w w from Below.refl _ _)
  have HZ := Aside0.mk hbase
  have HO := Aside0.mk (fun w1 (h : Kd.C (Kd.int .u8) w1 A b.length b) => estoversref11_own.calls A c b b w1 h hc (own_ev b hb))
  have HX := Aside0.mk hx
  unfold putL
  generalize hg : xs.any (fun c => eqB b c) = g at HA ⊢
  clear hs hr hk hC1 hbase hx
  go_enter Try.func53, Try.ntmps53
  go_wp2_with (fail)
  refine HA.out.mono ?_
  rintro e w1 ⟨rfl, n, rfl⟩
  clear HA
  cases g with
  | true =>
    go_wp2_with (fail)
    go_ret
    exact ⟨_, rfl, Kd.S_drewN HS.out _, pw_below_drewN HB.out _⟩
  | false =>
    go_wp2_with (fail)
    refine (HO.out _ (Kd.C_drewN HR.out _)).mono ?_
    rintro e w2 ⟨v2, rfl, ho, hb2⟩
    have HS2 := Aside0.mk (Kd.S_elder' (Kd.S_drewN HS.out n) (Kd.R_base ho) hb2)
    have HO2 := Aside0.mk (Kd.R_lower ho (show base ≤ (w.drewN n).heap.size from HZ.out))
    have HB2 := Aside0.mk ((pw_below_drewN HB.out n).trans (hb2.mono HZ.out))
    clear ho hb2 HO
    obtain ⟨A2, c2, e2⟩ := Kd.R_slice HO2.out
    subst e2
    go_wp2_with (first | ((with_reducible refine gate_builtin (b := .append) (xs := #[.tmp 9, .tmp 12]) rfl ?_); at_builtin; refine Kd.S_append (Kd.slice 5 (Kd.int .u8)) (w0 := w) base rfl (.tmp 9) (.tmp 12) 22 36 (.slice none 0 0) 24 rfl Try.underlying22 info36 rfl (by decide) (by omega) (.slice A1 xs.length c1) xs b [.slice A2 b.length c2] (fun _ => True) (fun k_ => some k_ = (.slice A2 b.length c2 : Value).ownBlock) rfl rfl ?aP (fun k_ hk_ => ((Kd.R_mono (ok' := fun k_ => ((fun _ => True)) k_ ∧ some k_ ≠ (.slice A1 xs.length c1 : Value).ownBlock) (Kd.R_apart' (HO2.out) (Kd.S_typed HS2.out) (by decide)) (fun k_ hk => ⟨trivial, hk.2⟩))).1 k_ hk_.symm) ?aF ?aO ?aB ?aS ?aL ?_; (case aP => exact Kd.M_row (Kd.R_mono (Kd.R_tight rfl (Kd.R_mono (ok' := fun k_ => ((fun _ => True)) k_ ∧ some k_ ≠ (.slice A1 xs.length c1 : Value).ownBlock) (Kd.R_apart' (HO2.out) (Kd.S_typed HS2.out) (by decide)) (fun k_ hk => ⟨trivial, hk.2⟩))) (fun _ h_ => h_))); (case aB => exact HB2.out); (case aF => exact (fun _ _ => trivial)); (case aO => exact (Kd.S_mono HS2.out (fun k_ hk => ⟨trivial, fun e_ => hk.2 e_⟩))); (case aS => have := HZ.out; have := HB2.out.size; omega); (case aL => have := HX.out; omega); intro v3 w3 ho hb hg_ hat; have n0_ := Aside0.mk hb; have n1_ := Aside0.mk ho; clear ho hb hg_ hat))
    go_ret
    exact ⟨_, rfl, n1_.out, n0_.out⟩

def estoversref11_choices.f (l0 : List (List Int)) (l1 : List S38) (b : Int) : Option (List (List Int)) := if l0.length ≤ 1000000 ∧ l1.length ≤ 900000 ∧ checkE l0 l1 = 0 ∧ 0 ≤ b ∧ b < l0.length then some (chR l0 l1 b.toNat) else none
set_option maxHeartbeats 8000000 in
theorem estoversref11_choices.calls (A0 : Option Addr) (c0 : Nat) (l0 : List (List Int)) (A1 : Option Addr) (c1 : Nat) (l1 : List S38) (a2 : Int) (r : List (List Int)) (w : World) (hr0 : Kd.C (Kd.slice 5 (Kd.int .u8)) w A0 l0.length l0) (hc0 : l0.length ≤ c0) (hr1 : Kd.C k38 w A1 l1.length l1) (hc1 : l1.length ≤ c1) (h : estoversref11_choices.f l0 l1 a2 = some r) :
    Calls Try.prog 37 #[.slice A0 l0.length c0, .slice A1 l1.length c1, .int .i64 a2] w fun e w' => ∃ v0_ : Value, e = .returned (v0_) ∧ Kd.S (Kd.slice 5 (Kd.int .u8)) 36 w' w.heap.size (fun _ => True) v0_ r ∧ Below w.heap.size w w' := by
  unfold estoversref11_choices.f at h
  split at h
  · rename_i hn
    obtain ⟨n0, n1, n2, n3, n4⟩ := hn
    obtain ⟨b, rfl⟩ : ∃ b : Nat, a2 = b := ⟨a2.toNat, by omega⟩
    have ok := ok_of n2
    rw [Int.toNat_natCast] at h
    injection h with h
    obtain ⟨k1, e1⟩ := Ev.rounds (fl_ev l1 (by omega))
    have hfl := flE_le l1 l1.length
    obtain ⟨k2, e2⟩ := Ev.rounds (upto_ev ok (by omega) (flE l1 l1.length) b hfl (by omega))
    obtain ⟨k3, e3⟩ := Ev.rounds (upto_ev ok (by omega) l1.length b (by omega) (by omega))
    have u2 := uptoN_len ok b (flE l1 l1.length) hfl (by omega)
    have u3 := uptoN_len ok b l1.length (by omega) (by omega)
    have HA := Aside0.mk (estoversref11_flushed.calls k1 A1 c1 l1 _ w hr1 hc1 e1)
    have HU := Aside0.mk (fun w1 (q0 : Kd.C (Kd.slice 5 (Kd.int .u8)) w1 A0 l0.length l0) (q1 : Kd.C k38 w1 A1 l1.length l1) => estoversref11_upto.calls k2 A0 c0 l0 A1 c1 l1 _ _ _ w1 q0 hc0 q1 hc1 e2)
    have HV := Aside0.mk (fun w1 (q0 : Kd.C (Kd.slice 5 (Kd.int .u8)) w1 A0 l0.length l0) (q1 : Kd.C k38 w1 A1 l1.length l1) => estoversref11_upto.calls k3 A0 c0 l0 A1 c1 l1 _ _ _ w1 q0 hc0 q1 hc1 e3)
    have HCM := Aside0.mk (fun (id : Int) => Ev.rounds (com_ev l1 id l1.length (by omega) (by omega)))
    have HCN := Aside0.mk (fun w1 (q1 : Kd.C k38 w1 A1 l1.length l1) (k : Nat) (id : Int) (t : Int) => estoversref11_completed.calls k A1 c1 l1 l1.length id t w1 q1 hc1)
    have HW := Aside0.mk (fun (i : Nat) (hi : i < l1.length) (kd : (rd_T38 l1 i).f0 = 1) => (ok.write hi kd).1)
    have HR0 := Aside0.mk hr0
    have HR1 := Aside0.mk hr1
    have HE := Aside0.mk (show dedL (wrR l1 b 0) (putL (putL [] (uptoN l0 l1 (flE l1 l1.length) b)) (uptoN l0 l1 l1.length b)) = r from by rw [← h, ← dedL_put, ← dedL_put]; rfl)
    have HN := Aside0.mk n1
    have HB := Aside0.mk (Below.refl w.heap.size w)
    clear h e1 e2 e3 hr0 hr1 n0 n2 n3 hfl ok
    generalize flE l1 l1.length = fl at HA HU HE u2
    generalize uptoN l0 l1 fl b = x2 at HU HE u2
    generalize uptoN l0 l1 l1.length b = x3 at HV HE u3
    have U2 := Aside0.mk (show x2.length ≤ 1000000 by omega)
    have U3 := Aside0.mk (show x3.length ≤ 1000000 by omega)
    clear u2 u3
    go_enter Try.func37, Try.ntmps37
    go_wp2_with (fail)
    refine HA.out.mono ?_
    rintro e w1 ⟨rfl, m, rfl⟩
    clear HA
    go_wp2_with (fail)
    refine (HU.out _ (Kd.C_drewN HR0.out _) (Kd.C_drewN HR1.out _)).mono ?_
    rintro e w2 ⟨v2, rfl, ho, hb2⟩
    have HB2 := Aside0.mk ((pw_below_drewN HB.out m).trans hb2)
    obtain ⟨A2, c2, rfl, hc2, hC2⟩ := Kd.R_reads ho
    have HP := Aside0.mk (put_calls w.heap.size (.slice none 0 0) [] A2 c2 x2 w2 (Kd.S_nil _ _ _ _ _) (by decide) hC2 hc2 U2.out HB2.out.size)
    clear HU ho hb2 hC2 HB
    go_wp2_with (fail)
    refine HP.out.mono ?_
    rintro e w3 ⟨v3, rfl, ho, hb3⟩
    have HB3 := Aside0.mk (HB2.out.trans hb3)
    have HS3 := Aside0.mk ho
    clear HP ho hb3 HB2
    go_wp2_with (fail)
    refine (HV.out _ (Kd.C_below HR0.out HB3.out) (Kd.C_below HR1.out HB3.out)).mono ?_
    rintro e w4 ⟨v4, rfl, ho, hb4⟩
    have HB4 := Aside0.mk (below_step HB3.out hb4)
    obtain ⟨A4, c4, rfl, hc4, hC4⟩ := Kd.R_reads ho
    have HP := Aside0.mk (put_calls w.heap.size v3 _ A4 c4 x3 w4 (Kd.S_below HS3.out hb4) (by have := putL_len [] x2; simp only [List.length_nil] at this; omega) hC4 hc4 U3.out HB4.out.size)
    clear HV ho hb4 hC4 HB3 HS3
    go_wp2_with (fail)
    refine HP.out.mono ?_
    rintro e w5 ⟨v5, rfl, ho, hb5⟩
    have HB5 := Aside0.mk (HB4.out.trans hb5)
    have HS5 := Aside0.mk ho
    clear HP ho hb5 HB4
    go_wp2_with (fail)
    have HL := Aside0.mk (show (putL (putL [] x2) x3).length ≤ 0 + 2 by have h1 := putL_len [] x2; have h2 := putL_len (putL [] x2) x3; simp only [List.length_nil] at h1; omega)
    generalize putL (putL [] x2) x3 = o0 at HL HE HS5
    clear hc2 hc4 U2 U3
    go_loopg [7, 8] l1.length (fun gg v7 v8 wr => ∃ (kk : Nat) (out : List (List Int)), kk ≤ l1.length ∧ l1.length - kk ≤ gg ∧ v8 = .int .i64 kk ∧ Aside0 (Below w.heap.size w wr) ∧ Aside0 (Kd.S (Kd.slice 5 (Kd.int .u8)) 36 wr w.heap.size (fun _ => True) v7 out) ∧ Aside0 (out.length ≤ kk + 2) ∧ Aside0 (dedL (wrR l1 b kk) out = r))
    case atStart => exact ⟨0, o0, Nat.zero_le _, by omega, rfl, HB5, HS5, HL, HE⟩
    case round =>
      clear HB5 HS5 HL HE
      obtain ⟨kk, out, hkk, hg, rfl, HB, HS, HL, HE⟩ := hrel
      by_cases hlt : kk < l1.length
      · have hltz : (kk : Int) < (l1.length : Int) := by omega
        obtain ⟨ad, A3, c3, e0, hx0, hx1, hx2, hx3, hl3, hi3⟩ := at_T38 (Kd.C_below HR1.out HB.out) (kk : Int) (by omega) hltz
        cases e0
        simp only [Int.toNat_natCast] at hx0 hx1 hx2 hx3
        have HL3 := Aside0.mk hl3
        have HI3 := Aside0.mk hi3
        have HX0 := Aside0.mk hx0
        have HX1 := Aside0.mk hx1
        have HX2 := Aside0.mk hx2
        have HX3 := Aside0.mk hx3
        have hE := wrR_next l1 b kk hlt
        have hWW := HW.out kk hlt
        have HLT := Aside0.mk hlt
        clear hl3 hi3
        obtain ⟨k4, e4⟩ := HCM.out (rd_T38 l1 kk).f1
        have HC := Aside0.mk (HCN.out _ (Kd.C_below HR1.out HB.out) k4 (rd_T38 l1 kk).f1 _ e4)
        clear e4
        by_cases d1 : (rd_T38 l1 kk).f0 = 1
        · have b1 : ((rd_T38 l1 kk).f0 == 1) = true := beq_iff_eq.2 d1
          by_cases d2 : (rd_T38 l1 kk).f2 = b
          · have b2 : ((rd_T38 l1 kk).f2 == (b : Int)) = true := beq_iff_eq.2 d2
            by_cases d3 : subN 2 l1 (rd_T38 l1 kk).f1 l1.length < 0
            · have b3 : decide (subN 2 l1 (rd_T38 l1 kk).f1 l1.length < 0) = true := decide_eq_true d3
              rw [if_pos ⟨d1, d2, d3⟩] at hE
              have HW3 := Aside0.mk (hWW d1)
              have HE2 : Aside0 (dedL (wrR l1 b (kk + 1)) (putL out (rd_T38 l1 kk).f3) = r) := ⟨by rw [← HE.out, hE, ← dedL_put]; rfl⟩
              clear hE hWW d1 d2 d3 HE hlt
              generalize subN 2 l1 (rd_T38 l1 kk).f1 l1.length = t at HC b3
              generalize rd_T38 l1 kk = x at *
              go_wp2_with (fail)
              refine HC.out.mono ?_
              rintro e w7 ⟨rfl, m7, rfl⟩
              clear HC
              go_wp2_with (fail)
              have HP := Aside0.mk (put_calls w.heap.size _ out A3 c3 x.f3 (wr.drewN m7) (Kd.S_drewN HS.out _) (by have := HL.out; have := HN.out; have := HLT.out; omega) (Kd.C_drewN HI3.out _) HL3.out (by have := HW3.out; omega) HB.out.size)
              refine HP.out.mono ?_
              rintro e w8 ⟨v8, rfl, ho, hb8⟩
              have HB8 := Aside0.mk ((pw_below_drewN HB.out m7).trans hb8)
              have HS8 := Aside0.mk ho
              clear HP ho hb8 HB HS
              go_wp2_with (fail)
              go_roundg (l1.length - (kk + 1))
              case measure => have := HLT.out; omega
              case rel => exact ⟨kk + 1, putL out x.f3, by have := HLT.out; omega, by omega, by go_num, HB8, HS8, ⟨by have := putL_len out x.f3; have := HL.out; omega⟩, HE2⟩
            · have b3 : decide (subN 2 l1 (rd_T38 l1 kk).f1 l1.length < 0) = false := decide_eq_false d3
              rw [if_neg (fun q => d3 q.2.2)] at hE
              have HE2 : Aside0 (dedL (wrR l1 b (kk + 1)) out = r) := ⟨by rw [← HE.out, hE]; rfl⟩
              clear hE hWW d1 d2 d3 HE hlt
              generalize subN 2 l1 (rd_T38 l1 kk).f1 l1.length = t at HC b3
              generalize rd_T38 l1 kk = x at *
              go_wp2_with (fail)
              refine HC.out.mono ?_
              rintro e w7 ⟨rfl, m7, rfl⟩
              clear HC
              go_wp2_with (fail)
              go_roundg (l1.length - (kk + 1))
              case measure => have := HLT.out; omega
              case rel => exact ⟨kk + 1, out, by have := HLT.out; omega, by omega, by go_num, ⟨pw_below_drewN HB.out m7⟩, ⟨Kd.S_drewN HS.out _⟩, ⟨by have := HL.out; omega⟩, HE2⟩
          · have b2 : ((rd_T38 l1 kk).f2 == (b : Int)) = false := beq_eq_false_iff_ne.2 d2
            rw [if_neg (fun q => d2 q.2.1)] at hE
            have HE2 : Aside0 (dedL (wrR l1 b (kk + 1)) out = r) := ⟨by rw [← HE.out, hE]; rfl⟩
            clear hE hWW d1 d2 HE hlt HC
            generalize rd_T38 l1 kk = x at *
            go_wp2_with (fail)
            go_roundg (l1.length - (kk + 1))
            case measure => have := HLT.out; omega
            case rel => exact ⟨kk + 1, out, by have := HLT.out; omega, by omega, by go_num, HB, HS, ⟨by have := HL.out; omega⟩, HE2⟩
        · have b1 : ((rd_T38 l1 kk).f0 == 1) = false := beq_eq_false_iff_ne.2 d1
          rw [if_neg (fun q => d1 q.1)] at hE
          have HE2 : Aside0 (dedL (wrR l1 b (kk + 1)) out = r) := ⟨by rw [← HE.out, hE]; rfl⟩
          clear hE hWW d1 HE hlt HC
          generalize rd_T38 l1 kk = x at *
          go_wp2_with (fail)
          go_roundg (l1.length - (kk + 1))
          case measure => have := HLT.out; omega
          case rel => exact ⟨kk + 1, out, by have := HLT.out; omega, by omega, by go_num, HB, HS, ⟨by have := HL.out; omega⟩, HE2⟩
      · have hltz : ¬ (kk : Int) < (l1.length : Int) := by omega
        have : kk = l1.length := by omega
        subst this
        have HE2 : Aside0 (out = r) := ⟨by rw [← HE.out]; unfold wrR; rw [List.drop_length]; rfl⟩
        go_wp2_with (fail)
        go_ret
        exact ⟨_, rfl, by rw [← HE2.out]; exact HS.out, HB.out⟩
  · cases h
end Go.Proofs.Ytghmkmpgfpkfmaa.X
