/- The walk of DurableKeeps. -/
import Derived.Test.YtghmkmpgfpkfmaaDf
import Derived.Test.YtghmkmpgfpkfmaaPy
import Derived.Test.YtghmkmpgfpkfmaaX1
namespace Go.Proofs.Ytghmkmpgfpkfmaa.X
open Go.RowKit Go.Proofs.YtghmkmpgfpkfmaaW.PrintWords Go.Proofs.YtghmkmpgfpkfmaaW.PrintLast Go.Proofs.YtghmkmpgfpkfmaaW.PrintMore
attribute [local go_sem] max2_int min2_int max_two min_two max_three min_three max_four min_four
set_option linter.unusedVariables false
set_option linter.unusedSimpArgs false

theorem frz_keep {w w1 : World} (hb : Below w.heap.size w w1) {g j : Nat} {v : Value} (hc : w.cell? ⟨g, j, none⟩ = some v) (hf : w.frozen? ⟨g, j, none⟩ = false) : w1.frozen? ⟨g, j, none⟩ = false := frozen_below hb (World.block_lt_of_cell? _ _ hc) hf
theorem Lf.below {w w1 : World} {E : Nat} {u : Value} (h : Lf w E u) (hb : Below w.heap.size w w1) : Lf w1 E u := by
  obtain ⟨A, n, c, e, hn, hr⟩ := h
  refine ⟨A, n, c, e, hn, fun j hj => ?_⟩
  obtain ⟨g, x, e1, e2, e3, e4⟩ := hr j hj
  exact ⟨g, x, e1, pw_cell_below hb e2, e3, frz_keep hb e2 e4⟩
theorem Md.below {w w1 : World} {E : Nat} {u : Value} (h : Md w E u) (hb : Below w.heap.size w w1) : Md w1 E u := by
  obtain ⟨A, n, c, e, hn, hr⟩ := h
  refine ⟨A, n, c, e, hn, fun j hj => ?_⟩
  obtain ⟨g, x, e1, e2, e3⟩ := hr j hj
  exact ⟨g, x, e1, pw_cell_below hb e2, e3.below hb⟩
theorem Tp.ofR {w : World} {base E : Nat} {ok : Nat → Prop} {v : Value} {vs : List Rw} (h : kR.R 22 w base ok v vs) (hn : vs.length ≤ 1000000) (hm : ∀ r ∈ vs, Md w E r.v) : Tp w E v := by
  obtain ⟨A, c, rfl⟩ := Kd.R_slice h
  refine ⟨A, vs.length, c, rfl, hn, fun j hj => ?_⟩
  obtain ⟨g, cap, e, hb, _⟩ := Kd.R_form h (by omega)
  injection e with e1 _ _
  subst e1
  obtain ⟨cs, _, hM, hc, hf⟩ := Kd.R_elem h zR (j : Int) (by omega) (by omega)
  have e2 : cs = [(vs.getD (j : Int).toNat zR).v] := hM
  have hc0 := hc 0 (vs.getD (j : Int).toNat zR).v (by rw [e2]; rfl)
  have hz : kR.sz = 1 := rfl
  rw [hz, Nat.mul_one, Nat.add_zero, Int.toNat_natCast] at hc0
  refine ⟨g, _, rfl, hc0, hm _ ?_⟩
  rw [List.getD_eq_getElem?_getD, List.getElem?_eq_getElem hj]
  exact List.getElem_mem _
theorem allN_32 {l0 : List (List Int)} {l1 : List S38} (ok : Ok l0 l1) (n : Nat) (hn : n ≤ l1.length) : ∀ x ∈ allN l0 l1 n, x.length = 32 := by
  intro x hx
  unfold allN at hx
  obtain ⟨b, hb, rfl⟩ := List.mem_map.1 hx
  exact uptoN_len ok b n hn (List.mem_range.1 hb)
theorem lat_ok (l0 : List (List Int)) (l1 : List S38) (h0 : l0.length ≤ 4) (h1 : l1.length ≤ 12) : ∃ r e, durable_Latest.f l0 l1 = some (r, e) ∧ r.length ≤ 1000 ∧ ∀ x ∈ r, x.length ≤ 1000 := by
  have hv := latest_val l0 l1 (by omega) (by omega)
  by_cases c : checkE l0 l1 = 0
  · rw [if_pos c] at hv
    exact ⟨_, _, hv, by rw [allN_len]; omega, fun x hx => by rw [allN_32 (ok_of c) _ (Nat.le_refl _) x hx]; decide⟩
  · rw [if_neg c] at hv
    exact ⟨_, _, hv, Nat.zero_le _, fun x hx => nomatch hx⟩
theorem dur_ok (l0 : List (List Int)) (l1 : List S38) (h0 : l0.length ≤ 4) (h1 : l1.length ≤ 12) : ∃ r e, durable_Durable.f l0 l1 = some (r, e) ∧ r.length ≤ 1000 ∧ ∀ x ∈ r, x.length ≤ 1000 := by
  have hv := durable_val l0 l1 (by omega) (by omega)
  by_cases c : checkE l0 l1 = 0
  · rw [if_pos c] at hv
    exact ⟨_, _, hv, by rw [allN_len]; omega, fun x hx => by rw [allN_32 (ok_of c) _ (flE_le l1 l1.length) x hx]; decide⟩
  · rw [if_neg c] at hv
    exact ⟨_, _, hv, Nat.zero_le _, fun x hx => nomatch hx⟩
theorem cho_ok (l0 : List (List Int)) (l1 : List S38) (h0 : l0.length ≤ 4) (h1 : l1.length ≤ 12) : ∃ r e, durable_Choices.f l0 l1 0 = some (r, e) ∧ r.length ≤ 1000 ∧ ∀ x ∈ r, x.length ≤ 1000 := by
  have hv := choices_val l0 l1 (by omega) (by omega) 0
  unfold chA at hv
  by_cases c : checkE l0 l1 = 0
  · rw [if_pos c] at hv
    by_cases d : (0 : Int) < 0 ∨ (l0.length : Int) ≤ 0
    · rw [if_pos d] at hv
      exact ⟨_, _, hv, Nat.zero_le _, fun x hx => nomatch hx⟩
    · rw [if_neg d] at hv
      refine ⟨_, _, hv, by have := chR_len l0 l1 (0 : Int).toNat; omega, fun x hx => ?_⟩
      rw [chR_32 (ok_of c) (0 : Int).toNat (by show 0 < l0.length; omega) x hx]; decide
  · rw [if_neg c] at hv
    exact ⟨_, _, hv, Nat.zero_le _, fun x hx => nomatch hx⟩
theorem prodL_in {α : Type} : ∀ (cs : List (List α)) (t : List α), t ∈ prodL cs → ∀ y ∈ t, ∃ c ∈ cs, y ∈ c
  | [], t, h, y, hy => by rw [List.mem_singleton.1 h] at hy; cases hy
  | c :: cs, t, h, y, hy => by
    rw [prodL] at h
    obtain ⟨x, hx, h⟩ := List.mem_flatMap.1 h
    obtain ⟨u, hu, rfl⟩ := List.mem_map.1 h
    rcases List.mem_cons.1 hy with rfl | hy
    · exact ⟨c, List.mem_cons_self, hx⟩
    · obtain ⟨d, hd, q⟩ := prodL_in cs u hu y hy
      exact ⟨d, List.mem_cons_of_mem _ hd, q⟩
theorem img_ok (l0 : List (List Int)) (l1 : List S38) (h0 : l0.length ≤ 4) (h1 : l1.length ≤ 12) : ∃ r e, durable_Images.f l0 l1 = some (r, e) ∧ r.length ≤ 64 ∧ ∀ x ∈ r, x.length ≤ 1000 ∧ ∀ y ∈ x, y.length ≤ 1000 := by
  have hv := images_val l0 l1 (by omega) (by omega)
  obtain ⟨q1, q2⟩ := imgA_len l0 l1
  refine ⟨_, _, hv, q1, fun x hx => ⟨by rw [q2 x hx]; omega, fun y hy => ?_⟩⟩
  have hx' : x ∈ (imgA l0 l1).1 := hx
  clear hx
  unfold imgA at hx'
  by_cases c : checkE l0 l1 = 0
  · rw [if_pos c] at hx'
    by_cases d : limL (csR l0 l1) 1 = true
    · rw [if_pos d] at hx'; cases hx'
    · rw [if_neg d] at hx'
      obtain ⟨cc, hc, hyc⟩ := prodL_in _ x hx' y hy
      unfold csR at hc
      obtain ⟨b, hb, rfl⟩ := List.mem_map.1 hc
      rw [chR_32 (ok_of c) b (List.mem_range.1 hb) y hyc]; decide
  · rw [if_neg c] at hx'; cases hx'
theorem Row.at {Q : Value → Prop} {w : World} {g n c j : Nat} {v : Value} (h : Row Q w (.slice (some ⟨g, 0, none⟩) n c)) (hc : w.cell? ⟨g, j, none⟩ = some v) (hj : j < n) : Q v := by
  obtain ⟨g', v', e1, e2, e3⟩ := h.cells hj
  injection e1 with e1
  injection e1 with e1 _ _
  subst e1
  rw [hc] at e2
  injection e2 with e2
  subst e2
  exact e3
theorem wr_next (kk : Nat) (h : kk ≤ 1000000) : Value.int .i64 (wrap64 ((kk : Int) + 1)) = Value.int .i64 ((kk + 1 : Nat) : Int) := by
  have e_ : wrap64 ((kk : Int) + 1) = ((kk + 1 : Nat) : Int) := (by unfold wrap64; omega)
  rw [e_]

theorem size_set (w : World) (p : Addr) (u : Value) : (w.setCell p u).heap.size = w.heap.size := by simp [World.setCell]
theorem few2_l1 (l0 : List (List Int)) (l1 : List S38) (hl : l1.length ≤ 1000000) : ∀ (d i : Nat), i + d = l1.length → ∃ b, Ev (fun k => estoversref11_Few.l1 k i l0 l1) b ∧ (b = true → ∀ j : Nat, i ≤ j → j < l1.length → (rd_T38 l1 j).f3.length ≤ 100)
  | 0, i, h => ⟨true, Ev.step (fun k => by rw [estoversref11_Few.l1]) (Ev.neg (by omega) (Ev.now _)), fun _ j a b => by omega⟩
  | d + 1, i, h => by
    by_cases c : (((rd_T38 l1 i).f3).length : Int) > 100
    · exact ⟨false, Ev.step (fun k => by rw [estoversref11_Few.l1]) (Ev.pos (by omega) (Ev.pos (by omega) (Ev.pos c (Ev.now _)))), fun h => by cases h⟩
    · obtain ⟨b, hb, hq⟩ := few2_l1 l0 l1 hl d (i + 1) (by omega)
      refine ⟨b, Ev.step (fun k => by rw [estoversref11_Few.l1]) (Ev.pos (by omega) (Ev.pos (by omega) (Ev.neg c ?_))), fun h j h1 h2 => ?_⟩
      · rw [pl_wrap i (by omega)]; exact hb
      · by_cases e : j = i
        · subst e; omega
        · exact hq h j (by omega) h2
theorem few2_l0 (l0 : List (List Int)) (l1 : List S38) (h0 : l0.length ≤ 1000000) (hl : l1.length ≤ 1000000) : ∀ (d i : Nat), i + d = l0.length → ∃ b, Ev (fun k => estoversref11_Few.l0 k i l0 l1) b ∧ (b = true → (∀ j : Nat, i ≤ j → j < l0.length → (rd_L1 l0 j).length ≤ 100) ∧ ∀ j : Nat, j < l1.length → (rd_T38 l1 j).f3.length ≤ 100)
  | 0, i, h => by
    obtain ⟨b, hb, hq⟩ : ∃ b, Ev (fun k => estoversref11_Few.l1 k 0 l0 l1) b ∧ (b = true → ∀ j : Nat, 0 ≤ j → j < l1.length → (rd_T38 l1 j).f3.length ≤ 100) := few2_l1 l0 l1 hl l1.length 0 (by omega)
    refine ⟨b, Ev.step (fun k => by rw [estoversref11_Few.l0]) ?_, fun h => ⟨fun j a b => by omega, fun j hj => hq h j (by omega) hj⟩⟩
    exact Ev.neg (by omega) hb
  | d + 1, i, h => by
    by_cases c : ((rd_L1 l0 i).length : Int) > 100
    · exact ⟨false, Ev.step (fun k => by rw [estoversref11_Few.l0]) (Ev.pos (by omega) (Ev.pos (by omega) (Ev.pos c (Ev.now _)))), fun h => by cases h⟩
    · obtain ⟨b, hb, hq⟩ := few2_l0 l0 l1 h0 hl d (i + 1) (by omega)
      refine ⟨b, Ev.step (fun k => by rw [estoversref11_Few.l0]) (Ev.pos (by omega) (Ev.pos (by omega) (Ev.neg c ?_))), fun h => ⟨fun j h1 h2 => ?_, (hq h).2⟩⟩
      · rw [pl_wrap i (by omega)]; exact hb
      · by_cases e : j = i
        · subst e; omega
        · exact (hq h).1 j (by omega) h2
theorem few2_ev (l0 : List (List Int)) (l1 : List S38) (n m : Nat) (hn : n ≤ 1000) (hm : m ≤ 1000) : ∃ b, Ev (fun k => estoversref11_Few.f k l0 l1 n m) b ∧ (b = true → l0.length ≤ n ∧ l1.length ≤ m ∧ (∀ j : Nat, j < l0.length → (rd_L1 l0 j).length ≤ 100) ∧ ∀ j : Nat, j < l1.length → (rd_T38 l1 j).f3.length ≤ 100) := by
  unfold estoversref11_Few.f
  by_cases c : (l0.length : Int) > n
  · exact ⟨false, Ev.pos c (Ev.step (fun k => by rw [estoversref11_Few.j0]) (Ev.pos rfl (Ev.now _))), fun h => by cases h⟩
  · by_cases d : (l1.length : Int) > m
    · exact ⟨false, Ev.neg c (Ev.step (fun k => by rw [estoversref11_Few.j0]) (Ev.pos (decide_eq_true d) (Ev.now _))), fun h => by cases h⟩
    · obtain ⟨b, hb, hq⟩ : ∃ b, Ev (fun k => estoversref11_Few.l0 k 0 l0 l1) b ∧ (b = true → (∀ j : Nat, 0 ≤ j → j < l0.length → (rd_L1 l0 j).length ≤ 100) ∧ ∀ j : Nat, j < l1.length → (rd_T38 l1 j).f3.length ≤ 100) := few2_l0 l0 l1 (by omega) (by omega) l0.length 0 (by omega)
      refine ⟨b, Ev.neg c (Ev.step (fun k => by rw [estoversref11_Few.j0]) ?_), fun h => ⟨by omega, by omega, fun j hj => (hq h).1 j (by omega) hj, (hq h).2⟩⟩
      exact Ev.neg (show ¬ decide ((l1.length : Int) > m) = true by simpa using d) hb

set_option maxHeartbeats 8000000 in
set_option maxRecDepth 100000 in
theorem keeps_calls (A0 : Option Addr) (c0 : Nat) (l0 : List (List Int)) (A1 : Option Addr) (c1 : Nat) (l1 : List S38) (w : World) (hr0 : Kd.C (Kd.slice 5 (Kd.int .u8)) w A0 l0.length l0) (hc0 : l0.length ≤ c0) (hr1 : Kd.C k38 w A1 l1.length l1) (hc1 : l1.length ≤ c1) :
    Calls Try.prog 9 #[.agg #[.slice A0 l0.length c0, .slice A1 l1.length c1]] w fun e w' => e = .returned (.bool true) ∧ Below w.heap.size w w' := by
  obtain ⟨b, hb, hs⟩ := few2_ev l0 l1 4 12 (by decide) (by decide)
  obtain ⟨k1, hk1⟩ := Ev.rounds hb
  have HF := Aside0.mk (fun w1 (q0 : Kd.C (Kd.slice 5 (Kd.int .u8)) w1 A0 l0.length l0) (q1 : Kd.C k38 w1 A1 l1.length l1) => estoversref11_Few.calls k1 A0 c0 l0 A1 c1 l1 4 12 b w1 q0 hc0 q1 hc1 hk1)
  have HW := Aside0.mk (fun w1 => estoverslaw11_awake.calls 0 true w1 rfl)
  have HR0 := Aside0.mk hr0
  have HR1 := Aside0.mk hr1
  have HC0 := Aside0.mk hc0
  have HC1 := Aside0.mk hc1
  have HS := Aside0.mk hs
  have HB := Aside0.mk (Below.refl w.heap.size w)
  clear hb hs hk1 hr0 hr1 hc0 hc1
  go_enter Try.func9, Try.ntmps9
  have HK : Aside0 ((w.alloc (.cells #[.slice A0 l0.length c0, .slice A1 l1.length c1] 25)).heap[w.heap.size]? = some (.cells #[.slice A0 l0.length c0, .slice A1 l1.length c1] 25 (0, 0))) := ⟨heap_alloc_new w _⟩
  have HB1 := Aside0.mk (below_alloc HB.out (.cells #[.slice A0 l0.length c0, .slice A1 l1.length c1] 25))
  have hcz0 := cell_of_row _ w.heap.size 0 _ _ _ HK.out
  have hcz1 := cell_of_row _ w.heap.size 1 _ _ _ HK.out
  have hfz0 := frozen_of_row _ w.heap.size 0 _ _ HK.out
  have hfz1 := frozen_of_row _ w.heap.size 1 _ _ HK.out
  cases b with
  | false =>
    go_wp2_with (fail)
    refine (HF.out _ (Kd.C_alloc HR0.out _) (Kd.C_alloc HR1.out _)).mono ?_
    rintro e w2 ⟨rfl, hb2⟩
    have HB2 := Aside0.mk (below_step HB1.out hb2)
    go_wp2_with (fail)
    refine (HW.out _).mono ?_
    rintro e w3 ⟨rfl, hb3⟩
    have HB3 := Aside0.mk (below_step HB2.out hb3)
    go_wp2_with (fail)
    go_ret
    exact ⟨rfl, HB3.out⟩
  | true =>
    have HN := Aside0.mk (HS.out rfl)
    go_wp2_with (fail)
    refine (HF.out _ (Kd.C_alloc HR0.out _) (Kd.C_alloc HR1.out _)).mono ?_
    rintro e w2 ⟨rfl, hb2⟩
    have HB2 := Aside0.mk (below_step HB1.out hb2)
    have HK2 := Aside0.mk ((hb2.block _ (Array.getElem?_eq_some_iff.1 HK.out).1).trans HK.out)
    clear hcz0 hcz1 hfz0 hfz1 hb2 HB1 HK HF HS
    have hcz0 := cell_of_row _ w.heap.size 0 _ _ _ HK2.out
    have hcz1 := cell_of_row _ w.heap.size 1 _ _ _ HK2.out
    have hfz0 := frozen_of_row _ w.heap.size 0 _ _ HK2.out
    have hfz1 := frozen_of_row _ w.heap.size 1 _ _ HK2.out
    have HBB := Aside0.mk (Below.refl w2.heap.size w2)
    have HS0 : Aside0 (Kd.S (Kd.slice 5 (Kd.int .u8)) 36 w2 w2.heap.size (fun _ => True) (.slice none 0 0) (l0.take 0)) := ⟨Kd.S_nil _ _ _ _ _⟩
    go_wp2_with (fail)
    go_loopg [3, 4] l0.length (fun gg v3 v4 wr => ∃ (kk : Nat), kk ≤ l0.length ∧ l0.length - kk ≤ gg ∧ v4 = .int .i64 kk ∧ Aside0 (Below w2.heap.size w2 wr) ∧ Aside0 (Kd.S (Kd.slice 5 (Kd.int .u8)) 36 wr w2.heap.size (fun _ => True) v3 (l0.take kk)))
    case atStart => exact ⟨0, Nat.zero_le _, by omega, rfl, HBB, HS0⟩
    case round =>
      clear HBB HS0 hcz0 hcz1 hfz0 hfz1
      obtain ⟨kk, hkk, hg, rfl, BW, HO⟩ := hrel
      have HKR := Aside0.mk ((BW.out.block _ (Array.getElem?_eq_some_iff.1 HK2.out).1).trans HK2.out)
      have hcz0 := cell_of_row _ w.heap.size 0 _ _ _ HKR.out
      have hcz1 := cell_of_row _ w.heap.size 1 _ _ _ HKR.out
      have hfz0 := frozen_of_row _ w.heap.size 0 _ _ HKR.out
      have hfz1 := frozen_of_row _ w.heap.size 1 _ _ HKR.out
      by_cases hlt : kk < l0.length
      · have hltz : (kk : Int) < (l0.length : Int) := by omega
        have HB6 := Aside0.mk (HB2.out.trans (BW.out.mono HB2.out.size))
        obtain ⟨ad, A7, c7, e0, hx0, hl7, hC7⟩ := at_L1 (Kd.C_below HR0.out HB6.out) (kk : Int) (by omega) hltz
        subst e0
        simp only [Int.toNat_natCast] at hx0
        have HLT := Aside0.mk hlt
        have HTK := Aside0.mk (show l0.take (kk + 1) = l0.take kk ++ [rd_L1 l0 kk] by rw [rdL1 l0 kk hlt, List.take_succ_eq_append_getElem hlt])
        have HLX := Aside0.mk ((HN.out.2.2.1 kk hlt : (rd_L1 l0 kk).length ≤ 100))
        have HTL := Aside0.mk (show (l0.take kk).length ≤ 4 by rw [List.length_take]; have := HN.out.1; omega)
        have HL7 := Aside0.mk hl7
        have HC7 := Aside0.mk hC7
        clear hl7 hC7 hlt
        generalize rd_L1 l0 kk = x at hx0 HTK HLX HL7 HC7
        generalize l0.take kk = ys at HO HTK HTL
        go_wp2_with (first | ((with_reducible refine gate_dst (N := 33) rfl ?_); refine Kd.R_lit (Kd.int .u8) _ 5 ?hg (N := 33) ?hd (xs := ([] : List Int)) (inner := []) (ok := fun _ => True) (okp := fun _ => True) ?hr ?hp (fun _ hk => hk) trivial (Below.refl _ _) (Nat.le_refl _) (by simp) ?_; (case hd => rfl); (case hg => rfl); (case hr => first | (go_simp; done) | (go_simp; rfl)); (case hp => exact (Reps.none _ _)); intro v212 w3 ho4 hb hg_ hnew_; have n0_ := Aside0.mk (Kd.R_lower ho4 (below_size BW.out)); have n1_ := Aside0.mk (below_step BW.out hb); have n2_ := Aside0.mk (Kd.S_elder' HO.out (Kd.R_base ho4) hb); have n3_ := Aside0.mk (Kd.C_below HC7.out hb); have hy0 := pw_cell_below hb hx0; have hcy0 := pw_cell_below hb hcz0; have hcy1 := pw_cell_below hb hcz1; clear hb ho4 hg_ hnew_ HO BW HC7 hx0 hcz0 hcz1 hfz0 hfz1) | ((with_reducible refine gate_builtin (b := .append) (xs := #[.tmp 33, .tmp 38]) rfl ?_); at_builtin; refine Kd.R_append_rows (Kd.int .u8) (w0 := w2) w2.heap.size rfl (.tmp 33) (.tmp 38) 36 5 (.int .u8 0) 1 rfl Try.underlying36 info5 rfl (by decide) (by omega) v212 [] x _ _ _ (fun _ => True) (fun _ => False) rfl rfl ?aO ?aR (fun _ _ h => h) (fun _ h => h.elim) ?aF ?aB ?aS ?aL ?_; (case aR => exact n3_.out); (case aB => exact n1_.out); (case aF => exact (fun _ _ => trivial)); (case aO => exact n0_.out); (case aS => exact (below_size n1_.out)); (case aL => have := HLX.out; simp; omega); intro v215 w5 ho hb hg hat; have m0_ := Aside0.mk hb; have m1_ := Aside0.mk (show (Kd.int .u8).R 5 w5 w2.heap.size (fun _ => True) v215 x from ho); have m2_ := Aside0.mk (Kd.S_after n2_.out hg hat); obtain ⟨Ar, cr, er⟩ := Kd.R_slice m1_.out; subst er; clear n0_ n1_ n2_ n3_ ho hb hg hat) | ((with_reducible refine gate_builtin (b := .append) (xs := #[.tmp 32, .tmp 40]) rfl ?_); at_builtin; refine Kd.S_append (Kd.slice 5 (Kd.int .u8)) (w0 := w2) w2.heap.size rfl (.tmp 32) (.tmp 40) 22 36 (.slice none 0 0) 24 rfl Try.underlying22 info36 rfl (by decide) (by omega) u3 ys x [.slice Ar x.length cr] (fun _ => True) (fun k_ => some k_ = (.slice Ar x.length cr : Value).ownBlock) rfl rfl ?aP (fun k_ hk_ => ((Kd.R_mono (ok' := fun k_ => ((fun _ => True)) k_ ∧ some k_ ≠ (u3 : Value).ownBlock) (Kd.R_apart' (m1_.out) (Kd.S_typed m2_.out) (by decide)) (fun k_ hk => ⟨trivial, hk.2⟩))).1 k_ hk_.symm) ?aF ?aO ?aB ?aS ?aL ?_; (case aP => exact Kd.M_row (Kd.R_mono (Kd.R_tight rfl (Kd.R_mono (ok' := fun k_ => ((fun _ => True)) k_ ∧ some k_ ≠ (u3 : Value).ownBlock) (Kd.R_apart' (m1_.out) (Kd.S_typed m2_.out) (by decide)) (fun k_ hk => ⟨trivial, hk.2⟩))) (fun _ h_ => h_))); (case aB => exact m0_.out); (case aF => exact (fun _ _ => trivial)); (case aO => exact (Kd.S_mono m2_.out (fun k_ hk => ⟨trivial, fun e_ => hk.2 e_⟩))); (case aS => exact (below_size m0_.out)); (case aL => have := HTL.out; omega); intro v338 w8 ho hb hg hat; rw [← HTK.out] at ho; have p0_ := Aside0.mk hb; have p1_ := Aside0.mk ho; clear ho hb hg hat m0_ m1_ m2_))
        go_roundg (l0.length - (kk + 1))
        case measure => have := HLT.out; omega
        case rel => exact ⟨kk + 1, by have := HLT.out; omega, by omega, (by have e_ : wrap64 ((kk : Int) + 1) = ((kk + 1 : Nat) : Int) := (by have := HN.out.1; have := HLT.out; unfold wrap64; omega); rw [e_]), p0_, p1_⟩
      · have hltz : ¬ (kk : Int) < (l0.length : Int) := by omega
        have hkk2 : kk = l0.length := by omega
        have HO2 := Aside0.mk (show Kd.S (Kd.slice 5 (Kd.int .u8)) 36 wr w2.heap.size (fun _ => True) u3 l0 by have h_ := HO.out; rw [hkk2, List.take_length] at h_; exact h_)
        have HB3 := Aside0.mk (HB2.out.trans (BW.out.mono HB2.out.size))
        obtain ⟨A3, c3, e3, hc3, hC3⟩ := Kd.S_reads HO2.out
        subst e3
        have HV0 := Aside0.mk hC3
        have HV1 := Aside0.mk hc3
        clear hkk2 hlt hC3 hc3 HO HO2
        have HBB := Aside0.mk (Below.refl wr.heap.size wr)
        have HS0 : Aside0 (Kd.S k38 38 wr wr.heap.size (fun _ => True) (.slice none 0 0) (l1.take 0)) := ⟨Kd.S_nil _ _ _ _ _⟩
        obtain ⟨w3, hw3⟩ : ∃ w3, w3 = wr := ⟨_, rfl⟩
        subst hw3
        go_wp2_with (fail)
        go_loopg [5, 6] l1.length (fun gg v5 v6 wx => ∃ (kk : Nat), kk ≤ l1.length ∧ l1.length - kk ≤ gg ∧ v6 = .int .i64 kk ∧ Aside0 (Below w3.heap.size w3 wx) ∧ Aside0 (Kd.S k38 38 wx w3.heap.size (fun _ => True) v5 (l1.take kk)))
        case atStart => exact ⟨0, Nat.zero_le _, by omega, rfl, HBB, HS0⟩
        case round =>
          clear HBB HS0 hcz0 hcz1 hfz0 hfz1
          obtain ⟨kk, hkk, hg, rfl, BX, HO⟩ := hrel
          have HKX := Aside0.mk ((BX.out.block _ (Array.getElem?_eq_some_iff.1 HKR.out).1).trans HKR.out)
          have hcz0 := cell_of_row _ w.heap.size 0 _ _ _ HKX.out
          have hcz1 := cell_of_row _ w.heap.size 1 _ _ _ HKX.out
          have hfz0 := frozen_of_row _ w.heap.size 0 _ _ HKX.out
          have hfz1 := frozen_of_row _ w.heap.size 1 _ _ HKX.out
          by_cases hlt : kk < l1.length
          · have hltz : (kk : Int) < (l1.length : Int) := by omega
            have HB6 := Aside0.mk (HB3.out.trans (BX.out.mono HB3.out.size))
            obtain ⟨ad, A7, c7, e0, hx0, hx1, hx2, hx3, hl7, hC7⟩ := at_T38 (Kd.C_below HR1.out HB6.out) (kk : Int) (by omega) hltz
            subst e0
            simp only [Int.toNat_natCast] at hx0 hx1 hx2 hx3
            have HLT := Aside0.mk hlt
            have HTK := Aside0.mk (show l1.take (kk + 1) = l1.take kk ++ [rd_T38 l1 kk] by rw [rd38 l1 kk hlt, List.take_succ_eq_append_getElem hlt])
            have HLX := Aside0.mk ((HN.out.2.2.2 kk hlt : (rd_T38 l1 kk).f3.length ≤ 100))
            have HTL := Aside0.mk (show (l1.take kk).length ≤ 12 by rw [List.length_take]; have := HN.out.2.1; omega)
            have HC7 := Aside0.mk hC7
            clear hl7 hC7 hlt
            generalize rd_T38 l1 kk = x at hx0 hx1 hx2 hx3 HTK HLX HC7
            generalize l1.take kk = ys at HO HTK HTL
            obtain ⟨xk, xi, xb, xd⟩ := x
            simp only at hx0 hx1 hx2 hx3 HLX HC7
            obtain ⟨W, hW⟩ : ∃ W, W = wr.alloc (.cells #[.int .i64 xk, .int .i64 xi, .int .i64 xb, .slice A7 xd.length c7] 38) := ⟨_, rfl⟩
            have HGW : Aside0 (W.heap[wr.heap.size]? = some (.cells #[.int .i64 xk, .int .i64 xi, .int .i64 xb, .slice A7 xd.length c7] 38 (0, 0))) := ⟨by rw [hW]; exact heap_alloc_new wr _⟩
            have HBW := Aside0.mk (show Below w3.heap.size w3 W by rw [hW]; exact below_alloc BX.out _)
            have HOW := Aside0.mk (show Kd.S k38 38 W w3.heap.size (fun k => True ∧ k ≠ wr.heap.size) u5 ys by rw [hW]; exact Kd.S_alloc (Kd.S_elderB HO.out wr.heap.size (Nat.le_refl _)) _)
            have HCW := Aside0.mk (show Kd.C (Kd.int .u8) W A7 xd.length xd by rw [hW]; exact Kd.C_alloc HC7.out _)
            have HZW := Aside0.mk (show wr.heap.size < W.heap.size by rw [hW, size_a]; exact Nat.lt_succ_self _)
            have hga := cell_of_row W wr.heap.size 3 _ _ _ HGW.out
            have HW2 := Aside0.mk hW
            clear hW
            go_wp2_with (first | ((with_reducible refine gate_dst (N := 54) rfl ?_); rw [← HW2.out]; refine Kd.R_lit (Kd.int .u8) _ 5 ?hg (N := 54) ?hd (xs := ([] : List Int)) (inner := []) (ok := fun _ => True) (okp := fun _ => True) ?hr ?hp (fun _ hk => hk) trivial (Below.refl _ _) (Nat.le_refl _) (by simp) ?_; (case hd => rfl); (case hg => rfl); (case hr => first | (go_simp; done) | (go_simp; rfl)); (case hp => exact (Reps.none _ _)); intro v212 w4 ho4 hb hg_ hnew_; have n0_ := Aside0.mk (Kd.R_lower ho4 (below_size HBW.out)); have n1_ := Aside0.mk (below_step HBW.out hb); have n2_ := Aside0.mk (Kd.S_elder' HOW.out (Kd.R_base ho4) hb); have n3_ := Aside0.mk (Kd.C_below HCW.out hb); have n4_ := Aside0.mk ((hb.block _ HZW.out).trans HGW.out); have n5_ := Aside0.mk (Kd.R_base ho4); have n6_ := Aside0.mk (Nat.lt_of_lt_of_le HZW.out hb.size); have hg3 := cell_of_row _ wr.heap.size 3 _ _ _ n4_.out; clear hb ho4 hg_ hnew_ HOW HBW HCW HGW hga hx0 hx1 hx2 hx3 hcz0 hcz1 hfz0 hfz1) | ((with_reducible refine gate_builtin (b := .append) (xs := #[.tmp 54, .tmp 56]) rfl ?_); at_builtin; refine Kd.R_append_rows (Kd.int .u8) (w0 := w3) w3.heap.size rfl (.tmp 54) (.tmp 56) 36 5 (.int .u8 0) 1 rfl Try.underlying36 info5 rfl (by decide) (by omega) v212 [] xd _ _ _ (fun _ => True) (fun _ => False) rfl rfl ?aO ?aR (fun _ _ h => h) (fun _ h => h.elim) ?aF ?aB ?aS ?aL ?_; (case aR => exact n3_.out); (case aB => exact n1_.out); (case aF => exact (fun _ _ => trivial)); (case aO => exact n0_.out); (case aS => exact (below_size n1_.out)); (case aL => have := HLX.out; simp; omega); intro v215 w5 ho hb hg hat; have m0_ := Aside0.mk hb; have m1_ := Aside0.mk (show (Kd.int .u8).R 5 w5 w3.heap.size (fun _ => True) v215 xd from ho); have m2_ := Aside0.mk (Kd.S_after n2_.out hg hat); have m3_ := Aside0.mk ((hg.block _ n6_.out (fun e => absurd (n5_.out _ e.symm) (by have := HZW.out; omega))).trans n4_.out); obtain ⟨Ar, cr, er⟩ := Kd.R_slice m1_.out; subst er; have hh3 := cell_of_row _ wr.heap.size 3 _ _ _ m3_.out; have hf3 := frozen_of_row _ wr.heap.size 3 _ _ m3_.out; have hh0 := cell_of_row _ wr.heap.size 0 _ _ _ m3_.out; have hh1 := cell_of_row _ wr.heap.size 1 _ _ _ m3_.out; have hh2 := cell_of_row _ wr.heap.size 2 _ _ _ m3_.out; clear n0_ n1_ n2_ n3_ n4_ n5_ n6_ ho hb hg hat hg3) | ((with_reducible refine gate_builtin (b := .append) (xs := #[.tmp 59, .tmp 61]) rfl ?_); at_builtin; have q1_ := Aside0.mk (Kd.R_far (p := ⟨wr.heap.size, 3, none⟩) (Kd.R_types m1_.out m3_.out (by decide)) (fun k hk => hk.2) (.slice Ar xd.length cr)); have q2_ := Aside0.mk (Kd.S_far (p := ⟨wr.heap.size, 3, none⟩) m2_.out (fun k hk => hk.1.2) (.slice Ar xd.length cr)); have q3_ := Aside0.mk (Below.setCell (p := ⟨wr.heap.size, 3, none⟩) m0_.out BX.out.size (.slice Ar xd.length cr)); refine Kd.S_append k38 (w0 := w3) w3.heap.size rfl (.tmp 59) (.tmp 61) 23 38 (.agg #[(.int .i64 0), (.int .i64 0), (.int .i64 0), (.slice none 0 0)]) 48 rfl Try.underlying23 info38 rfl (by decide) (by omega) u5 ys ⟨xk, xi, xb, xd⟩ [.int .i64 xk, .int .i64 xi, .int .i64 xb, .slice Ar xd.length cr] (fun _ => True) (fun k_ => some k_ = (.slice Ar xd.length cr : Value).ownBlock) rfl (congrArg (fun n => Value.slice (some ⟨n, 0, none⟩) 1 1) (size_set w5 _ _).symm) ?aP (fun k_ hk_ => ⟨trivial, ((Kd.R_apart' (q1_.out) (Kd.S_typed q2_.out) (by decide))).1 k_ hk_.symm |>.2⟩) ?aF ?aO ?aB ?aS ?aL ?_; (case aP => exact k38_mkM _ _ _ ⟨xk, xi, xb, xd⟩ (Kd.R_mono (Kd.R_tight rfl q1_.out) (fun _ h_ => h_))); (case aB => exact q3_.out); (case aF => exact (fun _ _ => trivial)); (case aO => exact (Kd.S_mono q2_.out (fun k_ hk => ⟨trivial, fun e_ => hk.2 e_⟩))); (case aS => exact (below_size q3_.out)); (case aL => have := HTL.out; omega); intro v338 w8 ho hb hg hat; rw [← HTK.out] at ho; have p0_ := Aside0.mk hb; have p1_ := Aside0.mk ho; clear ho hb hg hat m0_ m1_ m2_ m3_ q1_ q2_ q3_))
            go_roundg (l1.length - (kk + 1))
            case measure => have := HLT.out; omega
            case rel => exact ⟨kk + 1, by have := HLT.out; omega, by omega, (by have e_ : wrap64 ((kk : Int) + 1) = ((kk + 1 : Nat) : Int) := (by have := HN.out.2.1; have := HLT.out; unfold wrap64; omega); rw [e_]), p0_, p1_⟩
          · have hltz : ¬ (kk : Int) < (l1.length : Int) := by omega
            have hkk2 : kk = l1.length := by omega
            have HO2 := Aside0.mk (show Kd.S k38 38 wr w3.heap.size (fun _ => True) u5 l1 by have h_ := HO.out; rw [hkk2, List.take_length] at h_; exact h_)
            have HB4 := Aside0.mk (HB3.out.trans (BX.out.mono HB3.out.size))
            obtain ⟨A5, c5, e5, hc5, hC5⟩ := Kd.S_reads HO2.out
            subst e5
            have HE0 := Aside0.mk hC5
            have HE1 := Aside0.mk hc5
            have HV2 := Aside0.mk (Kd.C_below HV0.out BX.out)
            clear hkk2 hlt hC5 hc5 HO HO2
            obtain ⟨w4, hw4⟩ : ∃ w4, w4 = wr := ⟨_, rfl⟩
            subst hw4
            obtain ⟨ra, ea, f1, l1a, x1a⟩ := lat_ok l0 l1 HN.out.1 HN.out.2.1
            obtain ⟨rb, eb, f2, l2a, x2a⟩ := dur_ok l0 l1 HN.out.1 HN.out.2.1
            obtain ⟨rc, ec, f3, l3a, x3a⟩ := cho_ok l0 l1 HN.out.1 HN.out.2.1
            obtain ⟨rd, ed, f4, l4a, x4a⟩ := img_ok l0 l1 HN.out.1 HN.out.2.1
            have HQ1 := Aside0.mk (And.intro l1a x1a)
            have HQ2 := Aside0.mk (And.intro l2a x2a)
            have HQ3 := Aside0.mk (And.intro l3a x3a)
            have HQ4 := Aside0.mk (And.intro l4a x4a)
            have HP1 := Aside0.mk (fun W q0 q1 => durable_Latest.calls A3 c3 l0 A5 c5 l1 ra ea W q0 HV1.out q1 HE1.out f1)
            have HP2 := Aside0.mk (fun W q0 q1 => durable_Durable.calls A3 c3 l0 A5 c5 l1 rb eb W q0 HV1.out q1 HE1.out f2)
            have HP3 := Aside0.mk (fun W q0 q1 => durable_Choices.calls A3 c3 l0 A5 c5 l1 0 rc ec W q0 HV1.out q1 HE1.out f3)
            have HP4 := Aside0.mk (fun W q0 q1 => durable_Images.calls A3 c3 l0 A5 c5 l1 rd ed W q0 HV1.out q1 HE1.out f4)
            clear f1 f2 f3 f4 l1a l2a l3a l4a x1a x2a x3a x4a
            go_wp2_with (fail)
            refine (HP1.out _ HV2.out HE0.out).mono ?_
            rintro e w5 ⟨v5, rfl, ho5, hb5⟩
            clear hcz0 hcz1 hfz0 hfz1
            have HB5 := Aside0.mk hb5
            have HA5 := Aside0.mk ho5
            clear HP1 ho5 hb5
            go_wp2_with (fail)
            refine (HP2.out _ (Kd.C_below HV2.out HB5.out) (Kd.C_below HE0.out HB5.out)).mono ?_
            rintro e w6 ⟨v6, rfl, ho6, hb6⟩
            have HB6 := Aside0.mk (below_step HB5.out hb6)
            have HA6 := Aside0.mk (Kd.S_below HA5.out hb6)
            have HC6 := Aside0.mk (Kd.S_lower ho6 HB5.out.size)
            clear HP2 ho6 hb6 HA5
            go_wp2_with (fail)
            refine (HP3.out _ (Kd.C_below HV2.out HB6.out) (Kd.C_below HE0.out HB6.out)).mono ?_
            rintro e w7 ⟨v7, rfl, ho7, hb7⟩
            have HB7 := Aside0.mk (below_step HB6.out hb7)
            have HA7 := Aside0.mk (Kd.S_below HA6.out hb7)
            have HC7 := Aside0.mk (Kd.S_below HC6.out hb7)
            have HD7 := Aside0.mk (Kd.S_lower ho7 HB6.out.size)
            clear HP3 ho7 hb7 HA6 HC6
            go_wp2_with (fail)
            refine (HP4.out _ (Kd.C_below HV2.out HB7.out) (Kd.C_below HE0.out HB7.out)).mono ?_
            rintro e w8 ⟨v8, rfl, ho8, hb8⟩
            have HB8 := Aside0.mk (below_step HB7.out hb8)
            have HA8 := Aside0.mk (Md.of (Kd.S_R (Kd.S_below HA7.out hb8)) (Nat.le_refl _) (by have := HQ1.out.1; omega) (fun x hx => by have := HQ1.out.2 x hx; omega))
            have HC8 := Aside0.mk (Md.of (Kd.S_R (Kd.S_below HC7.out hb8)) (Nat.le_refl _) (by have := HQ2.out.1; omega) (fun x hx => by have := HQ2.out.2 x hx; omega))
            have HD8 := Aside0.mk (Md.of (Kd.S_R (Kd.S_below HD7.out hb8)) (Nat.le_refl _) (by have := HQ3.out.1; omega) (fun x hx => by have := HQ3.out.2 x hx; omega))
            obtain ⟨A8, c8, e8⟩ := Kd.R_slice ho8
            subst e8
            obtain ⟨vs, hvl, hvC, hvM⟩ := openR (E := w4.heap.size) (Kd.R_lower ho8 HB7.out.size) (Nat.le_refl _) (by have := HQ4.out.1; omega) (fun x hx => ⟨by have := (HQ4.out.2 x hx).1; omega, fun y hy => by have := (HQ4.out.2 x hx).2 y hy; omega⟩)
            obtain ⟨Aa, na, ca, ea'⟩ := HA8.out.sl
            obtain ⟨Ab, nb, cb, eb'⟩ := HC8.out.sl
            obtain ⟨Ac, nc, cc, ec'⟩ := HD8.out.sl
            subst ea' eb' ec'
            have HVL := Aside0.mk (show rd.length ≤ 64 from HQ4.out.1)
            have HVN := Aside0.mk hvl
            have HVM := Aside0.mk hvM
            have HL3 := Aside0.mk (lit3_R w8 w8.heap.size (Nat.le_refl _) ⟨Aa, na, ca⟩ ⟨Ab, nb, cb⟩ ⟨Ac, nc, cc⟩)
            have HVC := Aside0.mk (Kd.C_alloc hvC (.cells #[.slice Aa na ca, .slice Ab nb cb, .slice Ac nc cc] 22))
            have HB9 := Aside0.mk (below_alloc (Below.refl w8.heap.size w8) (.cells #[.slice Aa na ca, .slice Ab nb cb, .slice Ac nc cc] 22))
            clear HP4 ho8 hb8 HA7 HC7 HD7 hvC hvM hvl HQ1 HQ2 HQ3 HQ4
            generalize rd.length = nd at HVL HVN HVC
            go_wp2_with (((with_reducible refine gate_builtin (b := .append) (xs := #[.tmp 90, .tmp 91]) rfl ?_); at_builtin; refine Kd.R_append_rows kR (w0 := w8) w8.heap.size rfl (.tmp 90) (.tmp 91) 29 22 (.slice none 0 0) 24 rfl Try.underlying29 info22 rfl (by decide) (by omega) (.slice (some ⟨w8.heap.size, 0, none⟩) 3 3) [⟨Aa, na, ca⟩, ⟨Ab, nb, cb⟩, ⟨Ac, nc, cc⟩] vs _ _ _ (fun _ => True) (fun _ => False) rfl rfl ?aO ?aR (fun _ _ h => h) (fun _ h => h.elim) ?aF ?aB ?aS ?aL ?_; (case aR => exact HVC.out); (case aB => exact HB9.out); (case aF => exact (fun _ _ => trivial)); (case aO => exact HL3.out); (case aS => exact (below_size HB9.out)); (case aL => have := HVL.out; simp; omega); intro v10 w10 ho hb hg hat; have p0_ := Aside0.mk hb; have p1_ := Aside0.mk ho; clear ho hb hg hat))
            have HTP := Aside0.mk (Tp.ofR (E := w4.heap.size) p1_.out (by have := HVL.out; have := HVN.out; simp; omega) (fun r hr => by
              refine Md.below ?_ p0_.out
              rcases List.mem_append.1 hr with hr | hr
              · simp only [List.mem_cons, List.not_mem_nil, or_false] at hr
                rcases hr with rfl | rfl | rfl
                · exact HA8.out
                · exact HC8.out
                · exact HD8.out
              · exact HVM.out r hr))
            have HB10 := Aside0.mk (HB8.out.trans (p0_.out.mono HB8.out.size))
            obtain ⟨At, nt, ct, et⟩ := HTP.out.sl
            subst et
            clear p0_ p1_ HA8 HC8 HD8 HVM HVN HVL HVC HL3 HB9 HB8 HB7 HB6 HB5
            go_wp2_with (fail)
            go_loopg [17] nt (fun gg v17 wx => ∃ (kk : Nat), kk ≤ nt ∧ nt - kk ≤ gg ∧ v17 = .int .i64 kk ∧ Aside0 (Below w4.heap.size w4 wx) ∧ Aside0 (Tp wx w4.heap.size (.slice At nt ct)))
            case atStart => exact ⟨0, Nat.zero_le _, by omega, rfl, HB10, HTP⟩
            case round =>
              clear HB10 HTP
              obtain ⟨kk, hkk, hg, rfl, BY, HT⟩ := hrel
              by_cases hlt : kk < nt
              · have hltz : (kk : Int) < (nt : Int) := by omega
                have HLT := Aside0.mk hlt
                have HNT := Aside0.mk HT.out.len
                obtain ⟨g1, v1, eA, hx1, hM1⟩ := HT.out.cells hlt
                obtain ⟨B1, n1, d1, e1⟩ := hM1.sl
                subst e1 eA
                have HX1 := Aside0.mk hx1
                have HN1 := Aside0.mk hM1.len
                clear hM1 hlt
                go_wp2_with (fail)
                go_loopg [18] n1 (fun gg v18 wy => ∃ (jj : Nat), jj ≤ n1 ∧ n1 - jj ≤ gg ∧ v18 = .int .i64 jj ∧ Aside0 (Below w4.heap.size w4 wy) ∧ Aside0 (Tp wy w4.heap.size (.slice (some ⟨g1, 0, none⟩) nt ct)) ∧ Aside0 (wy.cell? ⟨g1, kk, none⟩ = some (.slice B1 n1 d1)))
                case atStart => exact ⟨0, Nat.zero_le _, by omega, rfl, BY, HT, HX1⟩
                case round =>
                  clear BY HT HX1 hx1
                  obtain ⟨jj, hjj, hgj, rfl, BY, HT, HX1⟩ := hrel
                  have hx1 := HX1.out
                  have hltz : (kk : Int) < (nt : Int) := by have := HLT.out; omega
                  have hM1 := HT.out.at HX1.out HLT.out
                  by_cases hlj : jj < n1
                  · have hljz : (jj : Int) < (n1 : Int) := by omega
                    have HLJ := Aside0.mk hlj
                    obtain ⟨g2, v2, eB, hx2, hM2⟩ := hM1.cells hlj
                    obtain ⟨B2, n2, d2, e2⟩ := hM2.sl
                    subst e2 eB
                    have HX2 := Aside0.mk hx2
                    have HN2 := Aside0.mk hM2.len
                    clear hM1 hM2 hlj
                    go_wp2_with (fail)
                    go_loopg [19] n2 (fun gg v19 wz => ∃ (ii : Nat), ii ≤ n2 ∧ n2 - ii ≤ gg ∧ v19 = .int .i64 ii ∧ Aside0 (Below w4.heap.size w4 wz) ∧ Aside0 (Tp wz w4.heap.size (.slice (some ⟨g1, 0, none⟩) nt ct)) ∧ Aside0 (wz.cell? ⟨g1, kk, none⟩ = some (.slice (some ⟨g2, 0, none⟩) n1 d1)) ∧ Aside0 (wz.cell? ⟨g2, jj, none⟩ = some (.slice B2 n2 d2)))
                    case atStart => exact ⟨0, Nat.zero_le _, by omega, rfl, BY, HT, HX1, HX2⟩
                    case round =>
                      clear BY HT HX1 HX2 hx1 hx2
                      obtain ⟨ii, hii, hgi, rfl, BY, HT, HX1, HX2⟩ := hrel
                      have hx1 := HX1.out
                      have hx2 := HX2.out
                      have hltz : (kk : Int) < (nt : Int) := by have := HLT.out; omega
                      have hljz : (jj : Int) < (n1 : Int) := by have := HLJ.out; omega
                      have hM2 := (HT.out.at HX1.out HLT.out).at HX2.out HLJ.out
                      by_cases hli : ii < n2
                      · have hliz : (ii : Int) < (n2 : Int) := by omega
                        have HLI := Aside0.mk hli
                        obtain ⟨g3, x, eC, hx3, hE3, hf3⟩ := hM2.cells hli
                        subst eC
                        have HX3 := Aside0.mk hx3
                        have HE3 := Aside0.mk hE3
                        clear hM2 hli hE3
                        go_wp2_with (fail)
                        go_roundg (n2 - (ii + 1))
                        case measure => have := HLI.out; omega
                        case rel => exact ⟨ii + 1, by have := HLI.out; omega, by omega, wr_next ii (by have := HLI.out; have := HN2.out; omega), ⟨BY.out.setCell HE3.out _⟩, ⟨HT.out.set HX3.out _⟩, ⟨cell_keep HX1.out HX3.out _⟩, ⟨cell_keep HX2.out HX3.out _⟩⟩
                      · have hliz : ¬ (ii : Int) < (n2 : Int) := by omega
                        clear hM2
                        go_wp2_with (fail)
                        go_roundg (n1 - (jj + 1))
                        case measure => have := HLJ.out; omega
                        case rel => exact ⟨jj + 1, by have := HLJ.out; omega, by omega, wr_next jj (by have := HLJ.out; have := HN1.out; omega), BY, HT, HX1⟩
                  · have hljz : ¬ (jj : Int) < (n1 : Int) := by omega
                    clear hM1
                    go_wp2_with (fail)
                    go_roundg (nt - (kk + 1))
                    case measure => have := HLT.out; omega
                    case rel => exact ⟨kk + 1, by have := HLT.out; omega, by omega, wr_next kk (by have := HLT.out; have := HNT.out; omega), BY, HT⟩
              · have hltz : ¬ (kk : Int) < (nt : Int) := by omega
                have HKG := Aside0.mk ((BY.out.block _ (Array.getElem?_eq_some_iff.1 HKX.out).1).trans HKX.out)
                have hcz0 := cell_of_row _ w.heap.size 0 _ _ _ HKG.out
                have hcz1 := cell_of_row _ w.heap.size 1 _ _ _ HKG.out
                have hfz0 := frozen_of_row _ w.heap.size 0 _ _ HKG.out
                have hfz1 := frozen_of_row _ w.heap.size 1 _ _ HKG.out
                have HBG := Aside0.mk (HB4.out.trans (BY.out.mono HB4.out.size))
                obtain ⟨k7, hk7⟩ := Ev.rounds (same_ev l0 (by have := HN.out.1; omega))
                have HSM := Aside0.mk (fun W q0 q1 => estoversref11_Same.calls k7 A3 c3 l0 A0 c0 l0 true W q0 HV1.out q1 HC0.out hk7)
                clear hk7 hlt HT
                go_wp2_with (fail)
                refine (HSM.out _ (Kd.C_below HV2.out BY.out) (Kd.C_below HR0.out HBG.out)).mono ?_
                rintro e w9 ⟨rfl, m9, rfl⟩
                have HBQ := Aside0.mk (pw_below_drewN BY.out m9)
                clear hcz0 hcz1 hfz0 hfz1 HSM
                go_wp2_with (fail)
                go_loopg [20] l1.length (fun gg v20 wz => ∃ (ii : Nat), ii ≤ l1.length ∧ l1.length - ii ≤ gg ∧ v20 = .int .i64 ii ∧ Aside0 (Below w4.heap.size w4 wz))
                case atStart => exact ⟨0, Nat.zero_le _, by omega, rfl, HBQ⟩
                case round =>
                  clear HBQ
                  obtain ⟨ii, hii, hgi, rfl, BZ⟩ := hrel
                  have HBZ := Aside0.mk (HB4.out.trans (BZ.out.mono HB4.out.size))
                  have HKZ := Aside0.mk ((BZ.out.block _ (Array.getElem?_eq_some_iff.1 HKX.out).1).trans HKX.out)
                  have hcz0 := cell_of_row _ w.heap.size 0 _ _ _ HKZ.out
                  have hcz1 := cell_of_row _ w.heap.size 1 _ _ _ HKZ.out
                  have hfz0 := frozen_of_row _ w.heap.size 0 _ _ HKZ.out
                  have hfz1 := frozen_of_row _ w.heap.size 1 _ _ HKZ.out
                  by_cases hli : ii < l1.length
                  · have hliz : (ii : Int) < (l1.length : Int) := by omega
                    have HLI := Aside0.mk hli
                    obtain ⟨ad5, B5, b5, eA, hy0, hy1, hy2, hy3, _, hC5⟩ := at_T38 (Kd.C_below HE0.out BZ.out) (ii : Int) (by omega) hliz
                    obtain ⟨ad6, B6, b6, eB, hu0, hu1, hu2, hu3, _, hC6⟩ := at_T38 (Kd.C_below HR1.out HBZ.out) (ii : Int) (by omega) hliz
                    subst eA eB
                    simp only [Int.toNat_natCast] at hy0 hy1 hy2 hy3 hu0 hu1 hu2 hu3
                    have hcv5 := Kd.C_string (P := Try.prog) (A := B5) (c := b5) Try.underlying36 Try.underlying5 Try.underlying9 hC5
                    have hcv5a := fun n_ => Kd.C_string (P := Try.prog) (A := B5) (c := b5) Try.underlying36 Try.underlying5 Try.underlying9 (Kd.C_drewN hC5 n_)
                    have hcv5b := fun m_ n_ => Kd.C_string (P := Try.prog) (A := B5) (c := b5) Try.underlying36 Try.underlying5 Try.underlying9 (Kd.C_drewN (Kd.C_drewN hC5 m_) n_)
                    have hcv6 := Kd.C_string (P := Try.prog) (A := B6) (c := b6) Try.underlying36 Try.underlying5 Try.underlying9 hC6
                    have hcv6a := fun n_ => Kd.C_string (P := Try.prog) (A := B6) (c := b6) Try.underlying36 Try.underlying5 Try.underlying9 (Kd.C_drewN hC6 n_)
                    have hcv6b := fun m_ n_ => Kd.C_string (P := Try.prog) (A := B6) (c := b6) Try.underlying36 Try.underlying5 Try.underlying9 (Kd.C_drewN (Kd.C_drewN hC6 m_) n_)
                    clear hC5 hC6 hli
                    generalize rd_T38 l1 ii = x at *
                    go_wp2_with (fail)
                    repeat (go_quiet (fail); try go_wp2_with (fail))
                    go_roundg (l1.length - (ii + 1))
                    case measure => have := HLI.out; omega
                    case rel => exact ⟨ii + 1, by have := HLI.out; omega, by omega, wr_next ii (by have := HLI.out; have := HN.out.2.1; omega), ⟨by repeat (first | exact BZ.out | apply pw_below_drewN | apply below_drew1)⟩⟩
                  · have hliz : ¬ (ii : Int) < (l1.length : Int) := by omega
                    clear hli
                    go_wp2_with (fail)
                    refine (HW.out _).mono ?_
                    rintro e w11 ⟨rfl, hb11⟩
                    have HB11 := Aside0.mk (below_step HBZ.out hb11)
                    go_wp2_with (fail)
                    go_ret
                    exact ⟨rfl, HB11.out⟩
end Go.Proofs.Ytghmkmpgfpkfmaa.X
