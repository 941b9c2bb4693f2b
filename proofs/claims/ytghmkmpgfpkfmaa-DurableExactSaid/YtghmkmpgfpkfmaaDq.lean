/- The contract of durable.Allows. -/
import Derived.Test.YtghmkmpgfpkfmaaD2
namespace Go.Proofs.Ytghmkmpgfpkfmaa.X
open Go.RowKit Go.Proofs.YtghmkmpgfpkfmaaW.PrintWords Go.Proofs.YtghmkmpgfpkfmaaW.PrintLast Go.Proofs.YtghmkmpgfpkfmaaW.PrintMore
attribute [local go_sem] max2_int min2_int max_two min_two max_three min_three max_four min_four
set_option linter.unusedVariables false
set_option linter.unusedSimpArgs false

set_option maxHeartbeats 1000000 in
theorem allows1_calls (x b : Pg) (B : Nat) (W : World) (hx : Pok W x) (hb : Pok W b) (hc : W.cell? ⟨B, 0, none⟩ = some b.v) :
    Calls Try.prog 45 #[x.v, .pointer (some ⟨B, 0, none⟩)] W fun e w' => e = .returned (.bool (eqB b.b x.b)) ∧ Below W.heap.size W w' := by
  have HE := Aside0.mk (equal_calls b x W hb hx)
  obtain ⟨xA, xc, xb⟩ := x
  obtain ⟨bA, bc, bb⟩ := b
  simp only [Pg.v] at hc HE ⊢
  clear hx hb
  go_enter Try.func45, Try.ntmps45
  go_wp2_with (fail)
  refine HE.out.mono ?_
  rintro e w' ⟨rfl, rfl⟩
  go_wp2
  go_ret
  exact ⟨rfl, Below.refl _ _⟩
/-- Whether each content of an image, from block i on, is possible. -/
def alF (st : StL) : List (List Int) → Int → Bool
  | [], _ => true
  | b :: im, i => (choicesL st i).any (fun c => eqB b c) && alF st im (i + 1)
def durable_Allows.f (l0 : List (List Int)) (l1 : List S38) (l2 : List (List Int)) : Option (Bool × Int) := if l0.length ≤ 1000000 ∧ l1.length ≤ 900000 then some (if (afterL l0 l1).1 ≠ 0 then (false, (afterL l0 l1).1) else if l2.length ≠ l0.length then (false, 0) else (alF (afterL l0 l1).2 l2 0, 0)) else none
set_option maxHeartbeats 4000000 in
theorem durable_Allows.calls (A0 : Option Addr) (c0 : Nat) (l0 : List (List Int)) (A1 : Option Addr) (c1 : Nat) (l1 : List S38) (A2 : Option Addr) (c2 : Nat) (l2 : List (List Int)) (r1 : Bool) (r2 : Int) (w : World) (hr0 : Kd.C (Kd.slice 5 (Kd.int .u8)) w A0 l0.length l0) (hc0 : l0.length ≤ c0) (hr1 : Kd.C k38 w A1 l1.length l1) (hc1 : l1.length ≤ c1) (hr2 : Kd.C (Kd.slice 5 (Kd.int .u8)) w A2 l2.length l2) (hc2 : l2.length ≤ c2) (h : durable_Allows.f l0 l1 l2 = some (r1, r2)) :
    Calls Try.prog 29 #[.slice A0 l0.length c0, .slice A1 l1.length c1, .slice A2 l2.length c2] w fun e w' => e = .returned (.tuple #[.bool r1, .int .i64 r2]) ∧ Below w.heap.size w w' := by
  unfold durable_Allows.f at h
  split at h
  · rename_i hn
    have HA := Aside0.mk (after_ev A0 c0 l0 A1 c1 l1 w hr0 hr1 hn.1 (by omega))
    injection h with h
    have HN := Aside0.mk hn
    have HR2 := Aside0.mk hr2
    clear hr0 hr1 hc0 hc1 hr2 hn
    have HH := Aside0.mk h
    clear h
    generalize afterL l0 l1 = aL at HA HH
    obtain ⟨er, sl⟩ := aL
    simp only at HA HH
    generalize hnn : l0.length = n at HA HN HH ⊢
    generalize hmm : l2.length = m at HH HR2 ⊢
    have HM := Aside0.mk hmm
    clear hmm
    go_enter Try.func29, Try.ntmps29
    go_wp2_with (fail)
    refine HA.out.mono ?_
    rintro e w1 ⟨hb, ⟨h1, rfl⟩ | ⟨h1, S, st, rfl, hs, hl, hG, hP⟩⟩
    · have hh := HH.out
      rw [if_pos h1] at hh
      simp only [Prod.mk.injEq] at hh
      obtain ⟨rfl, rfl⟩ := hh
      have d0 : (er != 0) = true := bne_iff_ne.mpr h1
      have HB := Aside0.mk hb
      clear HA HH h1 hb
      go_wp2_with (fail)
      go_ret2
      exact ⟨rfl, HB.out⟩
    · subst h1
      have hh := HH.out
      rw [if_neg (by decide)] at hh
      by_cases q0 : m = n
      · subst q0
        rw [if_neg (by simp)] at hh
        simp only [Prod.mk.injEq] at hh
        obtain ⟨hh, rfl⟩ := hh
        have HB := Aside0.mk hb
        have HB1 := Aside0.mk (Below.refl w1.heap.size w1)
        have HS := Aside0.mk hs
        have HP := Aside0.mk hP
        have HG := Aside0.mk hG
        have HL := Aside0.mk hl
        have HF := Aside0.mk (show alF sl (l2.drop 0) ((0 : Nat) : Int) = r1 from hh)
        have HC := Aside0.mk (Kd.C_below HR2.out hb)
        clear HA HH hb hs hG hP hl hh
        have eg : ∀ args w, (callFunc 45 args).run Try.prog w = .ok (.enter 45 args) w := entered Try.func45 (by kernel_rfl) rfl
        go_wp2_with (fail)
        go_loopg [28] m (fun gg s28 wr => ∃ (kk : Nat), kk ≤ m ∧ m - kk ≤ gg ∧ s28 = .int .i64 kk ∧ Aside0 (Below w1.heap.size w1 wr) ∧ Aside0 (alF sl (l2.drop kk) (kk : Int) = r1))
        case atStart => exact ⟨0, Nat.zero_le _, by omega, rfl, HB1, HF⟩
        case round =>
          clear HB1 HF
          obtain ⟨kk, hkk, hg, rfl, BW, HF⟩ := hrel
          by_cases hlt : kk < m
          · have hltz : (kk : Int) < (m : Int) := by omega
            obtain ⟨ad, A3, c3, e0, hx0, hl3, hi3⟩ := at_L1 (Kd.C_below HC.out BW.out) (kk : Int) (by omega) hltz
            cases e0
            simp only [Int.toNat_natCast] at hx0
            have hD : l2.drop kk = rd_L1 l2 kk :: l2.drop (kk + 1) := by have hk_ : kk < l2.length := (by rw [HM.out]; exact hlt); rw [rd_L1_nat l2 kk hk_]; exact List.drop_eq_getElem_cons hk_
            have hF := HF.out
            rw [hD, alF] at hF
            have hcb := choicesP_b HG.out (kk : Int) (by omega) hltz
            rw [HL.out] at hcb
            rw [← hcb, List.any_map] at hF
            generalize rd_L1 l2 kk = xb at hx0 hl3 hi3 hF
            have HPX : Aside0 (Pok wr ⟨A3, c3, xb⟩) := ⟨hl3, hi3⟩
            have HBX := Aside0.mk (below_alloc (Below.refl wr.heap.size wr) (.cells #[.slice A3 xb.length c3] 36))
            have HCX : Aside0 ((wr.alloc (.cells #[.slice A3 xb.length c3] 36)).cell? ⟨wr.heap.size, 0, none⟩ = some (Pg.v ⟨A3, c3, xb⟩)) := ⟨by have h_ := cell_of_row _ wr.heap.size 0 _ _ _ (heap_alloc_new wr (.cells #[.slice A3 xb.length c3] 36)); rw [h_]; rfl⟩
            have HBW1 := Aside0.mk (below_alloc BW.out (.cells #[.slice A3 xb.length c3] 36))
            have HP1 := Aside0.mk (show PokSt (wr.alloc (.cells #[.slice A3 xb.length c3] 36)) st from ⟨fun p hp => (HP.out.1 p hp).below (HB.out.trans (HBW1.out.mono HB.out.size)), fun p hp => (HP.out.2.1 p hp).below (HB.out.trans (HBW1.out.mono HB.out.size)), fun o ho => (HP.out.2.2 o ho).below (HB.out.trans (HBW1.out.mono HB.out.size))⟩)
            have HCC := Aside0.mk (choices_calls w S st kk (wr.alloc (.cells #[.slice A3 xb.length c3] 36)) (HS.out.below HBW1.out) HP1.out (by omega) (by rw [HG.out.1.2.1]; exact hltz) (by rw [HG.out.1.1, HG.out.1.2.1]) (by have := HG.out.1.2.2.1; have := HN.out.2; omega))
            have HPC := Aside0.mk (choicesP_pok HP1.out (kk : Int))
            have HLC : Aside0 ((choicesP st kk).length ≤ 9223372036854775807) := ⟨by
              have h3 : (choicesP st kk).length = (choicesL sl kk).length := by rw [← hcb, List.length_map]
              have h4 := choicesL_length sl (kk : Int)
              have h5 : sl.out.length = st.out.length := by rw [← HL.out]; simp [St.l]
              have := HG.out.1.2.2.1
              have := HN.out.2
              omega⟩
            have HF2 := Aside0.mk hF
            clear hF hD HF hcb hl3 hi3
            generalize choicesP st kk = ys at HCC HPC HLC HF2
            go_wp2_with (fail)
            refine HCC.out.mono ?_
            rintro e w2 ⟨v2, rfl, ho2, hb2⟩
            obtain ⟨A4, c4, e4⟩ := Kd.R_slice ho2
            subst e4
            have HB2 := Aside0.mk (HBW1.out.trans (hb2.mono HBW1.out.size))
            have HCT := Aside0.mk (containsP_calls (fun c => eqB xb c.b) 45 #[.pointer (some ⟨wr.heap.size, 0, none⟩)] eg A4 c4 ys w2 (Kd.R_reads' ho2).2.2 HLC.out
              (fun W' c hc hb => (allows1_calls c ⟨A3, c3, xb⟩ wr.heap.size W' ((HPC.out c hc).below (hb2.trans (hb.mono hb2.size))) (HPX.out.below (HBX.out.trans ((hb2.mono HBX.out.size).trans (hb.mono (Nat.le_trans HBX.out.size hb2.size))))) (pw_cell_below (hb2.trans (hb.mono hb2.size)) HCX.out)).mono (fun e w' (h : e = _ ∧ Below W'.heap.size W' w') => show e = _ ∧ Below w2.heap.size w2 w' from ⟨h.1, hb.trans (h.2.mono hb.size)⟩)))
            clear HCC ho2 hb2 HCX HPX HBX HP1 HBW1
            have HF3 := Aside0.mk (show (ys.any (fun c => eqB xb c.b) && alF sl (l2.drop (kk + 1)) ((kk : Int) + 1)) = r1 from HF2.out)
            clear HF2
            cases hq : ys.any (fun c => eqB xb c.b) with
            | true =>
              rw [hq] at HCT HF3
              clear hq
              go_wp2_with (fail)
              refine HCT.out.mono ?_
              rintro e w9 ⟨rfl, hb9⟩
              have HB9 := Aside0.mk (HB2.out.trans (hb9.mono HB2.out.size))
              clear HCT hb9 hx0 HB2
              go_wp2_with (fail)
              go_roundg (m - (kk + 1))
              case measure => omega
              case rel => have hmb := HN.out.1; exact ⟨kk + 1, by omega, by omega, (by first | go_num | (congr 1; unfold wrap64; omega) | (have e_ : wrap64 ((kk : Int) + 1) = ((kk + 1 : Nat) : Int) := (by unfold wrap64; omega); rw [e_])), HB9, ⟨by have := HF3.out; simpa using this⟩⟩
            | false =>
              rw [hq] at HCT HF3
              clear hq
              go_wp2_with (fail)
              refine HCT.out.mono ?_
              rintro e w9 ⟨rfl, hb9⟩
              have HB9 := Aside0.mk (HB2.out.trans (hb9.mono HB2.out.size))
              clear HCT hb9 hx0 HB2
              go_wp2_with (fail)
              go_ret2
              exact ⟨by rw [← HF3.out]; rfl, HB.out.trans (HB9.out.mono HB.out.size)⟩
          · have hltz : ¬ (kk : Int) < (m : Int) := by omega
            have : kk = m := by omega
            subst this
            have HE : Aside0 (true = r1) := ⟨by rw [← HF.out, List.drop_of_length_le (by rw [HM.out]; exact Nat.le_refl _)]; rfl⟩
            clear HF
            go_wp2_with (fail)
            go_ret2
            exact ⟨by have h_ := HE.out; subst h_; rfl, HB.out.trans (BW.out.mono HB.out.size)⟩
      · rw [if_pos q0] at hh
        simp only [Prod.mk.injEq] at hh
        obtain ⟨rfl, rfl⟩ := hh
        have d1 : ((m : Int) != (n : Int)) = true := bne_iff_ne.mpr (by omega)
        have HB := Aside0.mk hb
        clear HA HH hb hs hG hP hl q0
        go_wp2_with (fail)
        go_ret2
        exact ⟨rfl, HB.out⟩
  · cases h
end Go.Proofs.Ytghmkmpgfpkfmaa.X
