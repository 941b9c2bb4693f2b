/- The walk of DurableExact. -/
import Derived.Test.YtghmkmpgfpkfmaaPe
import Derived.Test.YtghmkmpgfpkfmaaX1
namespace Go.Proofs.Ytghmkmpgfpkfmaa.X
open Go.RowKit Go.Proofs.YtghmkmpgfpkfmaaW.PrintWords Go.Proofs.YtghmkmpgfpkfmaaW.PrintLast Go.Proofs.YtghmkmpgfpkfmaaW.PrintMore
attribute [local go_sem] max2_int min2_int max_two min_two max_three min_three max_four min_four
set_option linter.unusedVariables false
set_option linter.unusedSimpArgs false

set_option maxHeartbeats 8000000 in
set_option maxRecDepth 100000 in
theorem exact_calls (A0 : Option Addr) (c0 : Nat) (l0 : List (List Int)) (A1 : Option Addr) (c1 : Nat) (l1 : List S38) (w : World) (hr0 : Kd.C (Kd.slice 5 (Kd.int .u8)) w A0 l0.length l0) (hc0 : l0.length ≤ c0) (hr1 : Kd.C k38 w A1 l1.length l1) (hc1 : l1.length ≤ c1) :
    Calls Try.prog 11 #[.agg #[.slice A0 l0.length c0, .slice A1 l1.length c1]] w fun e w' => e = .returned (.bool true) ∧ Below w.heap.size w w' := by
  obtain ⟨b, hb, hs⟩ := few_ev l0 l1 4 16 (by decide) (by decide)
  obtain ⟨k1, hk1⟩ := Ev.rounds hb
  have HF := Aside0.mk (fun w1 (q0 : Kd.C (Kd.slice 5 (Kd.int .u8)) w1 A0 l0.length l0) (q1 : Kd.C k38 w1 A1 l1.length l1) => estoversref11_Few.calls k1 A0 c0 l0 A1 c1 l1 4 16 b w1 q0 hc0 q1 hc1 hk1)
  have HW := Aside0.mk (fun w1 => estoverslaw11_awake.calls 0 true w1 rfl)
  have HR0 := Aside0.mk hr0
  have HR1 := Aside0.mk hr1
  have HC0 := Aside0.mk hc0
  have HC1 := Aside0.mk hc1
  have HS := Aside0.mk hs
  have HB := Aside0.mk (Below.refl w.heap.size w)
  clear hb hs hk1 hr0 hr1 hc0 hc1
  go_enter Try.func11, Try.ntmps11
  have HK : Aside0 ((w.alloc (.cells #[.slice A0 l0.length c0, .slice A1 l1.length c1] 25)).heap[w.heap.size]? = some (.cells #[.slice A0 l0.length c0, .slice A1 l1.length c1] 25 (0, 0))) := ⟨heap_alloc_new w _⟩
  have HB1 := Aside0.mk (below_alloc HB.out (.cells #[.slice A0 l0.length c0, .slice A1 l1.length c1] 25))
  have hcz0 := cell_of_row _ w.heap.size 0 _ _ _ HK.out
  have hcz1 := cell_of_row _ w.heap.size 1 _ _ _ HK.out
  have hfz0 := frozen_of_row _ w.heap.size 0 _ _ HK.out
  have hfz1 := frozen_of_row _ w.heap.size 1 _ _ HK.out
  cases b with
  | false =>
    go_wp2_with (fail)
    refine (HF.out _ (Kd.C_alloc HR0.out _) (Kd.C_alloc HR1.out _)).mono ?_
    rintro e w2 ⟨rfl, hb2⟩
    have HB2 := Aside0.mk (below_step HB1.out hb2)
    go_wp2_with (fail)
    refine (HW.out _).mono ?_
    rintro e w3 ⟨rfl, hb3⟩
    have HB3 := Aside0.mk (below_step HB2.out hb3)
    go_wp2_with (fail)
    go_ret
    exact ⟨rfl, HB3.out⟩
  | true =>
    obtain ⟨n0, n1⟩ := HS.out rfl
    obtain ⟨k2, hk2⟩ := Ev.rounds (check_ev l0 l1 (by omega) (by omega))
    have HCK := Aside0.mk (fun w1 (q0 : Kd.C (Kd.slice 5 (Kd.int .u8)) w1 A0 l0.length l0) (q1 : Kd.C k38 w1 A1 l1.length l1) => estoversref11_Check.calls k2 A0 c0 l0 A1 c1 l1 _ w1 q0 HC0.out q1 HC1.out hk2)
    clear hk2
    have HN := Aside0.mk (And.intro n0 n1)
    clear n0 n1
    have HOK : Aside0 (checkE l0 l1 = 0 → checkE l0 l1 = 0) := ⟨fun h => h⟩
    generalize hck : checkE l0 l1 = ck at HCK HOK
    go_wp2_with (fail)
    refine (HF.out _ (Kd.C_alloc HR0.out _) (Kd.C_alloc HR1.out _)).mono ?_
    rintro e w2 ⟨rfl, hb2⟩
    have HB2 := Aside0.mk (below_step HB1.out hb2)
    have HK2 := Aside0.mk ((hb2.block _ (Array.getElem?_eq_some_iff.1 HK.out).1).trans HK.out)
    clear hcz0 hcz1 hfz0 hfz1
    have hcz0 := cell_of_row _ w.heap.size 0 _ _ _ HK2.out
    have hcz1 := cell_of_row _ w.heap.size 1 _ _ _ HK2.out
    have hfz0 := frozen_of_row _ w.heap.size 0 _ _ HK2.out
    have hfz1 := frozen_of_row _ w.heap.size 1 _ _ HK2.out
    clear hb2 HB1 HK HF
    by_cases cz : ck = 0
    · have dz : (ck != 0) = false := bne_eq_false_iff_eq.mpr cz
      go_wp2_with (fail)
      refine (HCK.out _ (Kd.C_below HR0.out HB2.out) (Kd.C_below HR1.out HB2.out)).mono ?_
      rintro e w3 ⟨rfl, hb3⟩
      have HB3 := Aside0.mk (below_step HB2.out hb3)
      have HK3 := Aside0.mk ((hb3.block _ (Array.getElem?_eq_some_iff.1 HK2.out).1).trans HK2.out)
      clear hcz0 hcz1 hfz0 hfz1
      have hcz0 := cell_of_row _ w.heap.size 0 _ _ _ HK3.out
      have hcz1 := cell_of_row _ w.heap.size 1 _ _ _ HK3.out
      have hfz0 := frozen_of_row _ w.heap.size 0 _ _ HK3.out
      have hfz1 := frozen_of_row _ w.heap.size 1 _ _ HK3.out
      clear hb3 HB2 HK2 HCK
      go_wp2_with (fail)
      have hok : checkE l0 l1 = 0 := hck.trans cz
      generalize hIA : imgA l0 l1 = ia
      obtain ⟨imgs, er⟩ := ia
      have HIM := Aside0.mk (durable_Images.calls A0 c0 l0 A1 c1 l1 imgs er w3 (Kd.C_below HR0.out HB3.out) HC0.out (Kd.C_below HR1.out HB3.out) HC1.out (by rw [images_val l0 l1 (by have := HN.out.1; omega) (by have := HN.out.2; omega), hIA]))
      have HOK2 := Aside0.mk hok
      have HIA := Aside0.mk hIA
      clear hok hIA HOK hck cz dz
      refine HIM.out.mono ?_
      rintro e w4 ⟨v4, rfl, ho4, hb4⟩
      have HB4 := Aside0.mk (below_step HB3.out hb4)
      have HK4 := Aside0.mk ((hb4.block _ (Array.getElem?_eq_some_iff.1 HK3.out).1).trans HK3.out)
      clear hcz0 hcz1 hfz0 hfz1
      have hcz0 := cell_of_row w4 w.heap.size 0 _ _ _ HK4.out
      have hcz1 := cell_of_row w4 w.heap.size 1 _ _ _ HK4.out
      have hfz0 := frozen_of_row w4 w.heap.size 0 _ _ HK4.out
      have hfz1 := frozen_of_row w4 w.heap.size 1 _ _ HK4.out
      obtain ⟨A4, c4, rfl, hc4, hC4⟩ := Kd.R_reads ho4
      have HI4 := Aside0.mk hC4
      have HI5 := Aside0.mk hc4
      have HBB := Aside0.mk (Below.refl w4.heap.size w4)
      have HNF : Aside0 (nF ((csR l0 l1).drop 0) 1 = nF (csR l0 l1) 1 ∧ (1 : Int) ≤ 1 ∧ (1 : Int) ≤ 1000) := ⟨rfl, by decide, by decide⟩
      clear hb4 HB3 HK3 HIM ho4 hc4 hC4
      go_wp2_with (fail)
      go_loopg [5, 6] l0.length (fun gg v5 v6 wr => ∃ (kk : Nat) (n : Int), kk ≤ l0.length ∧ l0.length - kk ≤ gg ∧ v6 = .int .i64 kk ∧ v5 = .int .i64 n ∧ Aside0 (Below w4.heap.size w4 wr) ∧ Aside0 (nF ((csR l0 l1).drop kk) n = nF (csR l0 l1) 1 ∧ 1 ≤ n ∧ n ≤ 1000))
      case atStart => exact ⟨0, 1, Nat.zero_le _, by omega, rfl, rfl, HBB, HNF⟩
      case round =>
        clear HBB HNF hcz0 hcz1 hfz0 hfz1
        obtain ⟨kk, n, hkk, hg, rfl, rfl, BW, HF⟩ := hrel
        have HKR := Aside0.mk ((BW.out.block _ (Array.getElem?_eq_some_iff.1 HK4.out).1).trans HK4.out)
        have hcz0 := cell_of_row wr w.heap.size 0 _ _ _ HKR.out
        have hcz1 := cell_of_row wr w.heap.size 1 _ _ _ HKR.out
        have hfz0 := frozen_of_row wr w.heap.size 0 _ _ HKR.out
        have hfz1 := frozen_of_row wr w.heap.size 1 _ _ HKR.out
        by_cases hlt : kk < l0.length
        · have hltz : (kk : Int) < (l0.length : Int) := by omega
          have HB6 := Aside0.mk (HB4.out.trans (BW.out.mono HB4.out.size))
          have HCC := Aside0.mk (durable_Choices.calls A0 c0 l0 A1 c1 l1 kk (chR l0 l1 kk) 0 wr (Kd.C_below HR0.out HB6.out) HC0.out (Kd.C_below HR1.out HB6.out) HC1.out (by
            rw [choices_val l0 l1 (by have := HN.out.1; omega) (by have := HN.out.2; omega)]
            unfold chA
            rw [if_pos HOK2.out, if_neg (by omega), Int.toNat_natCast]))
          have hcp := chR_pos l0 l1 kk
          have hcl := chR_len l0 l1 kk
          have hd : (csR l0 l1).drop kk = chR l0 l1 kk :: (csR l0 l1).drop (kk + 1) := by
            rw [List.drop_eq_getElem_cons (by rw [csR_len]; exact hlt)]
            congr 1
            simp only [csR, List.getElem_map, List.getElem_range]
          have hF := HF.out.1
          rw [hd, nF] at hF
          have HF2 := Aside0.mk (And.intro hF HF.out.2)
          have HLL := Aside0.mk (show 0 < (chR l0 l1 kk).length ∧ (chR l0 l1 kk).length ≤ 18 from ⟨hcp, by have := HN.out.2; omega⟩)
          have HLT := Aside0.mk hlt
          clear hF hd HF hcp hcl hlt HB6
          generalize chR l0 l1 kk = ch at HCC HF2 HLL
          go_wp2_with (fail)
          refine HCC.out.mono ?_
          rintro e w5 ⟨v5, rfl, ho5, hb5⟩
          obtain ⟨A5, c5, rfl, hc5, hC5⟩ := Kd.S_reads ho5
          have HB5 := Aside0.mk (below_step BW.out hb5)
          have dL : ((ch.length : Int) == 0) = false := beq_eq_false_iff_ne.2 (by have := HLL.out.1; omega)
          have hmb : 0 ≤ n * (ch.length : Int) ∧ n * (ch.length : Int) ≤ 18000 := by
            have h1 := HF2.out.2
            have h2 := HLL.out
            have h3 : n * (ch.length : Int) ≤ 1000 * 18 := Int.mul_le_mul (by omega) (by omega) (by omega) (by omega)
            have h4 : 0 ≤ n * (ch.length : Int) := Int.mul_nonneg (by omega) (by omega)
            omega
          have hwr : wrap64 (n * (ch.length : Int)) = n * (ch.length : Int) := by
            generalize n * (ch.length : Int) = q at hmb
            unfold wrap64; omega
          clear HCC ho5 hc5 hC5 hb5 hmb hcz0 hcz1 hfz0 hfz1 HKR BW
          by_cases q : n * (ch.length : Int) ≤ 1000
          · have HQ := Aside0.mk q
            have q1 := decide_eq_true q
            go_wp2_with (fail)
            go_roundg (l0.length - (kk + 1))
            case measure => have := HLT.out; omega
            case rel =>
              refine ⟨kk + 1, n * (ch.length : Int), by have := HLT.out; omega, by omega, (by have e_ : wrap64 ((kk : Int) + 1) = ((kk + 1 : Nat) : Int) := (by have := HN.out.1; have := HLT.out; unfold wrap64; omega); rw [e_]), rfl, HB5, ⟨?_, ?_, HQ.out⟩⟩
              · rw [← HF2.out.1, show min (n * (ch.length : Int)) 1000 = n * (ch.length : Int) by have := HQ.out; omega]
              · have h1 := HF2.out.2.1
                have h2 := HLL.out.1
                have h3 : n * 1 ≤ n * (ch.length : Int) := Int.mul_le_mul_of_nonneg_left (by omega) (by omega)
                omega
          · have HQ := Aside0.mk q
            have q1 := decide_eq_false q
            go_wp2_with (fail)
            go_roundg (l0.length - (kk + 1))
            case measure => have := HLT.out; omega
            case rel =>
              refine ⟨kk + 1, 1000, by have := HLT.out; omega, by omega, (by have e_ : wrap64 ((kk : Int) + 1) = ((kk + 1 : Nat) : Int) := (by have := HN.out.1; have := HLT.out; unfold wrap64; omega); rw [e_]), rfl, HB5, ⟨?_, by decide, by decide⟩⟩
              rw [← HF2.out.1, show min (n * (ch.length : Int)) 1000 = 1000 by have := HQ.out; omega]
        · have hltz : ¬ (kk : Int) < (l0.length : Int) := by omega
          have hnn : kk = l0.length := by omega
          have HF2 : Aside0 (n = nF (csR l0 l1) 1) := ⟨by
            rw [← HF.out.1, List.drop_of_length_le (by rw [csR_len]; omega)]; rfl⟩
          clear HF hlt hnn
          have HB6 := Aside0.mk (HB4.out.trans (BW.out.mono HB4.out.size))
          have hia := HIA.out
          unfold imgA at hia
          rw [if_pos HOK2.out] at hia
          by_cases lim : limL (csR l0 l1) 1 = true
          · rw [if_pos lim] at hia
            simp only [Prod.mk.injEq] at hia
            obtain ⟨rfl, rfl⟩ := hia
            have hbig : 64 < n := by rw [HF2.out]; exact nF_lim _ _ (fun c hc => by unfold csR at hc; obtain ⟨b, _, rfl⟩ := List.mem_map.1 hc; exact chR_pos l0 l1 b) (by decide) lim
            have dn := decide_eq_true hbig
            clear hbig lim HF2
            go_wp2_with (fail)
            refine (HW.out _).mono ?_
            rintro e w5 ⟨rfl, hb5⟩
            have HB7 := Aside0.mk (below_step HB6.out hb5)
            go_wp2_with (fail)
            go_ret
            exact ⟨rfl, HB7.out⟩
          · have hlim : limL (csR l0 l1) 1 = false := by simpa using lim
            rw [if_neg lim] at hia
            simp only [Prod.mk.injEq] at hia
            obtain ⟨hP, rfl⟩ := hia
            have hnl : n = (imgs.length : Int) := by rw [HF2.out, ← hP]; have := nF_fit (csR l0 l1) 1 hlim (by decide); rw [Nat.one_mul] at this; exact this
            have hsm := prodL_len (csR l0 l1) 1 hlim (by decide)
            rw [Nat.one_mul, hP] at hsm
            have HSM := Aside0.mk hsm
            have HAL := Aside0.mk (fun (i : Nat) (hi : i < imgs.length) => show durable_Allows.f l0 l1 (rd_L4 imgs i) = some (true, 0) ∧ (rd_L4 imgs i).length = l0.length by
              rw [rdL4 imgs i hi]
              have hm : imgs[i] ∈ prodL (csR l0 l1) := by rw [hP]; exact List.getElem_mem _
              exact ⟨allows_all HOK2.out (by have := HN.out.1; omega) (by have := HN.out.2; omega) _ hm, by rw [prodL_mem _ _ hm, csR_len]⟩)
            have HNE := Aside0.mk (fun (i j : Nat) (hij : j < i) (hi : i < imgs.length) => show sameL (rd_L4 imgs i) (rd_L4 imgs j) = false by rw [rdL4 imgs i hi, rdL4 imgs j (by omega)]; subst hP; exact imgs_ne l0 l1 i j hij hi)
            have HHL := Aside0.mk (hit_latest l0 l1)
            have HHS := Aside0.mk (hit_sure l0 l1)
            rw [hP] at HHL HHS
            have HLA := Aside0.mk (durable_Latest.calls A0 c0 l0 A1 c1 l1 (allN l0 l1 l1.length) 0 wr (Kd.C_below HR0.out HB6.out) HC0.out (Kd.C_below HR1.out HB6.out) HC1.out (by rw [latest_val l0 l1 (by have := HN.out.1; omega) (by have := HN.out.2; omega), if_pos HOK2.out]))
            have HSU := Aside0.mk (fun w1 (q0 : Kd.C (Kd.slice 5 (Kd.int .u8)) w1 A0 l0.length l0) (q1 : Kd.C k38 w1 A1 l1.length l1) => durable_Durable.calls A0 c0 l0 A1 c1 l1 (allN l0 l1 (flE l1 l1.length)) 0 w1 q0 HC0.out q1 HC1.out (by rw [durable_val l0 l1 (by have := HN.out.1; omega) (by have := HN.out.2; omega), if_pos HOK2.out]))
            have HLL := Aside0.mk (And.intro (allN_len l0 l1 l1.length) (allN_len l0 l1 (flE l1 l1.length)))
            have dn : decide (64 < n) = false := decide_eq_false (by rw [hnl]; omega)
            have HNL := Aside0.mk hnl
            clear hnl hsm hP lim hlim HF2 HIA
            generalize allN l0 l1 l1.length = la at HLA HHL HLL
            generalize allN l0 l1 (flE l1 l1.length) = su at HSU HHS HLL
            have HI6 := Aside0.mk (Kd.C_below HI4.out BW.out)
            go_wp2_with (fail)
            refine HLA.out.mono ?_
            rintro e w5 ⟨v5, rfl, ho5, hb5⟩
            have HB7 := Aside0.mk (below_step HB6.out hb5)
            have HK5 := Aside0.mk ((hb5.block _ (Array.getElem?_eq_some_iff.1 HKR.out).1).trans HKR.out)
            have HI7 := Aside0.mk (Kd.C_below HI6.out hb5)
            obtain ⟨A5, c5, rfl, hc5, hC5⟩ := Kd.S_reads ho5
            have HL5 := Aside0.mk hC5
            have HM5 := Aside0.mk hc5
            clear hcz0 hcz1 hfz0 hfz1 HKR HLA ho5 hb5 hc5 hC5 HI6 HB6
            have hcz0 := cell_of_row w5 w.heap.size 0 _ _ _ HK5.out
            have hcz1 := cell_of_row w5 w.heap.size 1 _ _ _ HK5.out
            have hfz0 := frozen_of_row w5 w.heap.size 0 _ _ HK5.out
            have hfz1 := frozen_of_row w5 w.heap.size 1 _ _ HK5.out
            go_wp2_with (fail)
            refine (HSU.out _ (Kd.C_below HR0.out HB7.out) (Kd.C_below HR1.out HB7.out)).mono ?_
            rintro e w6 ⟨v6, rfl, ho6, hb6⟩
            have HB8 := Aside0.mk (below_step HB7.out hb6)
            have HK6 := Aside0.mk ((hb6.block _ (Array.getElem?_eq_some_iff.1 HK5.out).1).trans HK5.out)
            have HI8 := Aside0.mk (Kd.C_below HI7.out hb6)
            have HL6 := Aside0.mk (Kd.C_below HL5.out hb6)
            obtain ⟨A6, c6, rfl, hc6, hC6⟩ := Kd.S_reads ho6
            have HS6 := Aside0.mk hC6
            have HM6 := Aside0.mk hc6
            clear hcz0 hcz1 hfz0 hfz1 HK5 HSU ho6 hb6 hc6 hC6 HI7 HL5 HB7 BW
            go_wp2_with (fail)
            have HFK : Aside0 ((w6.alloc (.cells #[.bool false, .bool false] 46)).heap[w6.heap.size]? = some (.cells #[.bool false, .bool false] 46 (0, 0))) := ⟨heap_alloc_new w6 _⟩
            have HBF := Aside0.mk (below_alloc (Below.refl w6.heap.size w6) (.cells #[.bool false, .bool false] 46))
            have HF0 : Aside0 (false = (imgs.take 0).any (fun im => sameL im la) ∧ false = (imgs.take 0).any (fun im => sameL im su)) := ⟨rfl, rfl⟩
            go_loopg [14] imgs.length (fun gg v14 wr => ∃ (kk : Nat) (f0 f1 : Bool), kk ≤ imgs.length ∧ imgs.length - kk ≤ gg ∧ v14 = .int .i64 kk ∧ Aside0 (Below w6.heap.size w6 wr) ∧ Aside0 (wr.heap[w6.heap.size]? = some (.cells #[.bool f0, .bool f1] 46 (0, 0))) ∧ Aside0 (f0 = (imgs.take kk).any (fun im => sameL im la) ∧ f1 = (imgs.take kk).any (fun im => sameL im su)))
            case atStart => exact ⟨0, false, false, Nat.zero_le _, by omega, rfl, HBF, HFK, HF0⟩
            case round =>
              clear HBF HFK HF0
              obtain ⟨kk, f0, f1, hkk, hg, rfl, BX, HFX, HFF⟩ := hrel
              have HKX := Aside0.mk ((BX.out.block _ (Array.getElem?_eq_some_iff.1 HK6.out).1).trans HK6.out)
              have hcz0 := cell_of_row _ w.heap.size 0 _ _ _ HKX.out
              have hcz1 := cell_of_row _ w.heap.size 1 _ _ _ HKX.out
              have hfz0 := frozen_of_row _ w.heap.size 0 _ _ HKX.out
              have hfz1 := frozen_of_row _ w.heap.size 1 _ _ HKX.out
              have hca := cell_of_row _ w6.heap.size 0 _ _ _ HFX.out
              have hcb := cell_of_row _ w6.heap.size 1 _ _ _ HFX.out
              have hfa := frozen_of_row _ w6.heap.size 0 _ _ HFX.out
              have hfb := frozen_of_row _ w6.heap.size 1 _ _ HFX.out
              by_cases hlt : kk < imgs.length
              · have hltz : (kk : Int) < (imgs.length : Int) := by omega
                have HLT := Aside0.mk hlt
                have HB9 := Aside0.mk (HB8.out.trans (BX.out.mono HB8.out.size))
                have HIX := Aside0.mk (Kd.C_below HI8.out BX.out)
                obtain ⟨ad, A7, c7, e0, hx0, hl7, hC7⟩ := at_L4 HIX.out (kk : Int) (by omega) hltz
                subst e0
                simp only [Int.toNat_natCast] at hx0
                have HAW := Aside0.mk (fun W (hW : Below wr.heap.size wr W) => durable_Allows.calls A0 c0 l0 A1 c1 l1 A7 c7 (rd_L4 imgs kk) true 0 W (Kd.C_below (Kd.C_below HR0.out HB9.out) hW) HC0.out (Kd.C_below (Kd.C_below HR1.out HB9.out) hW) HC1.out (Kd.C_below hC7 hW) hl7 (HAL.out kk hlt).1)
                have HIKL := Aside0.mk (HAL.out kk hlt).2
                have HTK := Aside0.mk (show imgs.take (kk + 1) = imgs.take kk ++ [rd_L4 imgs kk] by rw [rdL4 imgs kk hlt, List.take_succ_eq_append_getElem hlt])
                have HNK := Aside0.mk (fun (j : Nat) (hj : j < kk) => HNE.out kk j hj hlt)
                clear hl7 hC7
                generalize hik : rd_L4 imgs kk = ik at hx0 HAW HIKL HTK HNK
                have HIK := Aside0.mk hik
                clear hik hlt
                go_upto_region 20 with (fail)
                go_cut [15, 16] (fun v15 v16 wc => v15 = .bool true ∧ v16 = .int .i64 0 ∧ Aside0 (Below w6.heap.size w6 wc) ∧ Aside0 (wc.heap[w6.heap.size]? = some (.cells #[.bool f0, .bool f1] 46 (0, 0))))
                case first =>
                  go_wp2_with (fail)
                  go_region_law (refine goes_ Try.func29 (by kernel_rfl) rfl #[.slice A0 l0.length c0, .slice A1 l1.length c1, .slice A7 ik.length c7] (by rfl) rfl rfl (by (try simp only [List.map_toArray, List.map_cons, List.map_nil]); first | done | rfl) ?_; refine (HAW.out _ (by repeat (first | exact Below.refl _ _ | apply below_drew1 | apply below_alloc))).mono ?_; rintro e w8 ⟨rfl, hb8⟩; refine ⟨_, rfl, ?_⟩)
                  all_goals
                    have HB10 := Aside0.mk (below_step (by repeat (first | exact BX.out | apply below_drew1)) hb8)
                    have HFX8 := Aside0.mk ((hb8.block _ (Array.getElem?_eq_some_iff.1 HFX.out).1).trans HFX.out)
                    clear hcz0 hcz1 hfz0 hfz1 hca hcb hfa hfb hx0 HAW hb8 HKX HFX BX HB9 HIX
                    go_wp2_with (fail)
                    go_meet
                    case rel => exact ⟨rfl, rfl, HB10, HFX8⟩
                case rest =>
                  clear hcz0 hcz1 hfz0 hfz1 hca hcb hfa hfb hx0 HAW HKX HFX BX HB9 HIX
                  obtain ⟨rfl, rfl, HB10, HFX8⟩ := hcut
                  have HBZ := Aside0.mk (Below.refl wc.heap.size wc)
                  go_wp2_with (fail)
                  go_loopg [17] kk (fun gg v17 wq => ∃ (jj : Nat), jj ≤ kk ∧ kk - jj ≤ gg ∧ v17 = .int .i64 jj ∧ Aside0 (Below wc.heap.size wc wq))
                  case atStart => exact ⟨0, Nat.zero_le _, by omega, rfl, HBZ⟩
                  case round =>
                    clear HBZ
                    obtain ⟨jj, hjj, hgj, rfl, BY⟩ := hrel
                    have HB11 := Aside0.mk (HB10.out.trans (BY.out.mono HB10.out.size))
                    have HIY := Aside0.mk (Kd.C_below HI8.out HB11.out)
                    obtain ⟨ad1, A8, c8, e1, hx1, hl8, hC8⟩ := at_L4 HIY.out (kk : Int) (by omega) (by have := HLT.out; omega)
                    obtain rfl : ad = ad1 := by injection e1
                    rw [HIK.out] at hx1 hl8 hC8
                    simp only [Int.toNat_natCast] at hx1
                    by_cases hlj : jj < kk
                    · have hljz : (jj : Int) < (kk : Int) := by omega
                      have hjl : (jj : Int) < (imgs.length : Int) := by have := HLT.out; omega
                      have hkl : (kk : Int) < (imgs.length : Int) := by have := HLT.out; omega
                      obtain ⟨ad2, A9, c9, e2, hx2, hl9, hC9⟩ := at_L4 HIY.out (jj : Int) (by omega) hjl
                      obtain rfl : ad = ad2 := by injection e2
                      simp only [Int.toNat_natCast] at hx2
                      obtain ⟨k4, hk4⟩ := Ev.rounds (same2_ev ik (rd_L4 imgs jj) (by rw [HIKL.out]; have := HN.out.1; omega))
                      rw [HNK.out jj hlj] at hk4
                      have HSA := Aside0.mk (fun W (q0 : Kd.C (Kd.slice 5 (Kd.int .u8)) W A8 ik.length ik) (q1 : Kd.C (Kd.slice 5 (Kd.int .u8)) W A9 (rd_L4 imgs jj).length (rd_L4 imgs jj)) => estoversref11_Same.calls k4 A8 c8 ik A9 c9 (rd_L4 imgs jj) false W q0 hl8 q1 hl9 hk4)
                      have HC8 := Aside0.mk hC8
                      have HC9 := Aside0.mk hC9
                      have HLJ := Aside0.mk hlj
                      clear hk4 hl8 hC8 hl9 hC9 hlj e1 e2
                      generalize rd_L4 imgs jj = ij at hx2 HSA HC9
                      go_wp2_with (fail)
                      repeat (go_quiet (first | (go_at_call 18; (with_reducible refine (HSA.out _ ?side1 ?side3).mono ?_); (case side1 => repeat (first | exact HC8.out | (with_reducible refine Kd.C_drewN ?_ _) | (with_reducible refine Kd.C_drew ?_))); (case side3 => repeat (first | exact HC9.out | (with_reducible refine Kd.C_drewN ?_ _) | (with_reducible refine Kd.C_drew ?_))); rintro e w' ⟨rfl, ⟨nd, rfl⟩⟩; (try first | exact ⟨rfl, _, World.drewN_drewN _ _ _⟩ | exact ⟨rfl, _, Eq.trans (World.drewN_drewN _ _ _) (congrArg (World.drewN _) (Nat.add_assoc _ _ _))⟩))); try go_wp2_with (first | (go_at_call 18; (with_reducible refine (HSA.out _ ?side1 ?side3).mono ?_); (case side1 => repeat (first | exact HC8.out | (with_reducible refine Kd.C_drewN ?_ _) | (with_reducible refine Kd.C_drew ?_))); (case side3 => repeat (first | exact HC9.out | (with_reducible refine Kd.C_drewN ?_ _) | (with_reducible refine Kd.C_drew ?_))); rintro e w' ⟨rfl, ⟨nd, rfl⟩⟩; (try first | exact ⟨rfl, _, World.drewN_drewN _ _ _⟩ | exact ⟨rfl, _, Eq.trans (World.drewN_drewN _ _ _) (congrArg (World.drewN _) (Nat.add_assoc _ _ _))⟩))))
                      go_roundg (kk - (jj + 1))
                      case measure => have := HLJ.out; omega
                      case rel => exact ⟨jj + 1, by have := HLJ.out; omega, by omega, (by have e_ : wrap64 ((jj : Int) + 1) = ((jj + 1 : Nat) : Int) := (by have := HSM.out; have := HLT.out; have := HLJ.out; unfold wrap64; omega); rw [e_]), ⟨by repeat (first | exact BY.out | apply pw_below_drewN | apply below_drew1)⟩⟩
                    · have hljz : ¬ (jj : Int) < (kk : Int) := by omega
                      have hjk : jj = kk := by omega
                      have hkl : (kk : Int) < (imgs.length : Int) := by have := HLT.out; omega
                      have HFY := Aside0.mk ((BY.out.block _ (Array.getElem?_eq_some_iff.1 HFX8.out).1).trans HFX8.out)
                      subst hjk
                      obtain ⟨k5, hk5⟩ := Ev.rounds (same2_ev ik la (by rw [HIKL.out]; have := HN.out.1; omega))
                      obtain ⟨k6, hk6⟩ := Ev.rounds (same2_ev ik su (by rw [HIKL.out]; have := HN.out.1; omega))
                      have HS1 := Aside0.mk (fun W A8 c8 (q0 : Kd.C (Kd.slice 5 (Kd.int .u8)) W A8 ik.length ik) (ql : ik.length ≤ c8) (q1 : Kd.C (Kd.slice 5 (Kd.int .u8)) W A5 la.length la) => estoversref11_Same.calls k5 A8 c8 ik A5 c5 la _ W q0 ql q1 HM5.out hk5)
                      have HS2 := Aside0.mk (fun W A8 c8 (q0 : Kd.C (Kd.slice 5 (Kd.int .u8)) W A8 ik.length ik) (ql : ik.length ≤ c8) (q1 : Kd.C (Kd.slice 5 (Kd.int .u8)) W A6 su.length su) => estoversref11_Same.calls k6 A8 c8 ik A6 c6 su _ W q0 ql q1 HM6.out hk6)
                      have HC8 := Aside0.mk hC8
                      have HL8 := Aside0.mk hl8
                      have HTF := Aside0.mk (show (f0 || sameL ik la) = (imgs.take (jj + 1)).any (fun im => sameL im la) ∧ (f1 || sameL ik su) = (imgs.take (jj + 1)).any (fun im => sameL im su) by
                        rw [HTK.out, List.any_append, List.any_append, ← HFF.out.1, ← HFF.out.2]
                        simp)
                      clear hk5 hk6 hC8 hl8 e1
                      generalize hs1 : sameL ik la = s1 at HS1 HTF
                      generalize hs2 : sameL ik su = s2 at HS2 HTF
                      clear hs1 hs2 HFF
                      go_upto_region 28 with (fail)
                      go_cut [145] (fun v145 wd => Aside0 (Below w6.heap.size w6 wd) ∧ Aside0 (wd.heap[w6.heap.size]? = some (.cells #[.bool (f0 || s1), .bool f1] 46 (0, 0))))
                      case first =>
                        have hca := cell_of_row _ w6.heap.size 0 _ _ _ HFY.out
                        have hcb := cell_of_row _ w6.heap.size 1 _ _ _ HFY.out
                        have hfa := frozen_of_row _ w6.heap.size 0 _ _ HFY.out
                        have hfb := frozen_of_row _ w6.heap.size 1 _ _ HFY.out
                        cases f0 with
                        | true =>
                          go_wp2_with (fail)
                          go_meet
                          case rel => exact ⟨⟨below_set HB11.out (Nat.le_refl _)⟩, ⟨heap_setCell_same _ w6.heap.size 0 _ _ (.bool true) HFY.out⟩⟩
                        | false =>
                          go_wp2_with (fail)
                          refine (HS1.out _ A8 c8 HC8.out HL8.out (Kd.C_below HL6.out HB11.out)).mono ?_
                          rintro e w9 ⟨rfl, m9, rfl⟩
                          clear HS1
                          go_wp2_with (fail)
                          go_meet
                          case rel => exact ⟨⟨below_set (pw_below_drewN HB11.out m9) (Nat.le_refl _)⟩, ⟨heap_setCell_same _ w6.heap.size 0 _ _ (.bool s1) HFY.out⟩⟩
                      case rest =>
                        obtain ⟨HB12, HFZ⟩ := hcut
                        clear hx1 HIY HC8 HL8 HFY HB11 HB10 HFX8 BY
                        have HIZ := Aside0.mk (Kd.C_below HI8.out HB12.out)
                        obtain ⟨ad2, A9, c9, e2, hx2, hl9, hC9⟩ := at_L4 HIZ.out (jj : Int) (by omega) hkl
                        obtain rfl : ad = ad2 := by injection e2
                        rw [HIK.out] at hx2 hl9 hC9
                        simp only [Int.toNat_natCast] at hx2
                        have HC9 := Aside0.mk hC9
                        have HL9 := Aside0.mk hl9
                        clear hC9 hl9 e2
                        generalize (f0 || s1) = g0 at HFZ HTF
                        have hca := cell_of_row _ w6.heap.size 0 _ _ _ HFZ.out
                        have hcb := cell_of_row _ w6.heap.size 1 _ _ _ HFZ.out
                        have hfa := frozen_of_row _ w6.heap.size 0 _ _ HFZ.out
                        have hfb := frozen_of_row _ w6.heap.size 1 _ _ HFZ.out
                        cases f1 with
                        | true =>
                          go_wp2_with (fail)
                          go_roundg (imgs.length - (jj + 1))
                          case measure => have := HLT.out; omega
                          case rel => exact ⟨jj + 1, g0, true, by have := HLT.out; omega, by omega, (by have e_ : wrap64 ((jj : Int) + 1) = ((jj + 1 : Nat) : Int) := (by have := HSM.out; have := HLT.out; unfold wrap64; omega); rw [e_]), ⟨below_set HB12.out (Nat.le_refl _)⟩, ⟨heap_setCell_same _ w6.heap.size 1 _ _ (.bool true) HFZ.out⟩, HTF⟩
                        | false =>
                          go_wp2_with (fail)
                          refine (HS2.out _ A9 c9 HC9.out HL9.out (Kd.C_below HS6.out HB12.out)).mono ?_
                          rintro e w9 ⟨rfl, m9, rfl⟩
                          clear HS2
                          go_wp2_with (fail)
                          go_roundg (imgs.length - (jj + 1))
                          case measure => have := HLT.out; omega
                          case rel => exact ⟨jj + 1, g0, s2, by have := HLT.out; omega, by omega, (by have e_ : wrap64 ((jj : Int) + 1) = ((jj + 1 : Nat) : Int) := (by have := HSM.out; have := HLT.out; unfold wrap64; omega); rw [e_]), ⟨below_set (pw_below_drewN HB12.out m9) (Nat.le_refl _)⟩, ⟨heap_setCell_same _ w6.heap.size 1 _ _ (.bool s2) HFZ.out⟩, HTF⟩
              · have hltz : ¬ (kk : Int) < (imgs.length : Int) := by omega
                have hkk2 : kk = imgs.length := by omega
                have hff := HFF.out
                rw [hkk2, List.take_length] at hff
                have t0 : f0 = true := by rw [hff.1]; obtain ⟨im, i1, i2⟩ := HHL.out; exact List.any_eq_true.2 ⟨im, i1, i2⟩
                have t1 : f1 = true := by rw [hff.2]; obtain ⟨im, i1, i2⟩ := HHS.out; exact List.any_eq_true.2 ⟨im, i1, i2⟩
                have dnl : ((imgs.length : Int) == n) = true := beq_iff_eq.2 HNL.out.symm
                subst t0 t1
                have HB9 := Aside0.mk (HB8.out.trans (BX.out.mono HB8.out.size))
                clear hff hkk2 hlt
                go_wp2_with (fail)
                refine (HW.out _).mono ?_
                rintro e w9 ⟨rfl, hb9⟩
                have HB10 := Aside0.mk (below_step HB9.out hb9)
                go_wp2_with (fail)
                go_ret
                exact ⟨rfl, HB10.out⟩
    · have dz : (ck != 0) = true := bne_iff_ne.mpr cz
      go_wp2_with (fail)
      refine (HCK.out _ (Kd.C_below HR0.out HB2.out) (Kd.C_below HR1.out HB2.out)).mono ?_
      rintro e w3 ⟨rfl, hb3⟩
      have HB3 := Aside0.mk (below_step HB2.out hb3)
      go_wp2_with (fail)
      refine (HW.out _).mono ?_
      rintro e w4 ⟨rfl, hb4⟩
      have HB4 := Aside0.mk (below_step HB3.out hb4)
      go_wp2_with (fail)
      go_ret
      exact ⟨rfl, HB4.out⟩
end Go.Proofs.Ytghmkmpgfpkfmaa.X
