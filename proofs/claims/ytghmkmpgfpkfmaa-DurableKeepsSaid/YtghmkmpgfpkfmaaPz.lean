/- Plain laws of chapter 11, without the loops of the reference: contents, images, longer histories, Ordered. -/
import Derived.Test.YtghmkmpgfpkfmaaPn
import Derived.Test.YtghmkmpgfpkfmaaX16
namespace Go.Proofs.Ytghmkmpgfpkfmaa.X
open Go.RowKit Go.Proofs.YtghmkmpgfpkfmaaW.PrintWords Go.Proofs.YtghmkmpgfpkfmaaW.PrintLast Go.Proofs.YtghmkmpgfpkfmaaW.PrintMore
set_option linter.unusedVariables false
set_option linter.unusedSimpArgs false
def putL (xs : List (List Int)) (b : List Int) : List (List Int) := if xs.any (fun c => eqB b c) = true then xs else xs ++ [b]
theorem dedL_put (b : List Int) (l out : List (List Int)) : dedL (b :: l) out = dedL l (putL out b) := by
  rw [dedL]; unfold putL; split <;> rfl
theorem putL_len (xs : List (List Int)) (b : List Int) : (putL xs b).length ≤ xs.length + 1 := by
  unfold putL; split
  · omega
  · rw [List.length_append]; exact Nat.le_refl _
theorem chk_all (N : Nat) (l : List S38) : ∀ (d i : Nat), chkE N l d i = 0 → ∀ j, i ≤ j → j < i + d → evE N l j = 0
  | 0, i, _, j, _, _ => by omega
  | d + 1, i, h, j, h1, h2 => by
    rw [chkE] at h
    by_cases c : evE N l i = 0
    · rw [if_neg (fun q => q c)] at h
      by_cases e : j = i
      · subst e; exact c
      · exact chk_all N l d (i + 1) h j (by omega) (by omega)
    · rw [if_pos c] at h; exact absurd h c
structure Ok (l0 : List (List Int)) (l : List S38) : Prop where
  ev : ∀ i : Nat, i < l.length → evE l0.length l i = 0
  bl : ∀ b ∈ l0, b.length = 32
  iv : ∃ ids, IV l0 l l.length ids (afterL l0 l).2
theorem ok_of {l0 : List (List Int)} {l : List S38} (h : checkE l0 l = 0) : Ok l0 l := by
  obtain ⟨_, hv⟩ := after_iv l0 l
  refine ⟨fun i hi => ?_, fun b hb => ?_, hv h⟩
  · unfold checkE at h
    by_cases c : l0.any badL = true
    · rw [if_pos c] at h; cases h
    · rw [if_neg c] at h
      exact chk_all l0.length l l.length 0 h i (by omega) (by omega)
  · unfold checkE at h
    by_cases c : l0.any badL = true
    · rw [if_pos c] at h; cases h
    · have : badL b = false := by
        cases e : badL b with
        | false => rfl
        | true => exact absurd (List.any_eq_true.2 ⟨b, hb, e⟩) c
      unfold badL at this
      have : (b.length : Int) = 32 := by simpa using this
      omega
theorem Ok.write {l0 : List (List Int)} {l : List S38} (h : Ok l0 l) {i : Nat} (hi : i < l.length) (k : (rd_T38 l i).f0 = 1) : (rd_T38 l i).f3.length = 32 ∧ 0 ≤ (rd_T38 l i).f2 ∧ (rd_T38 l i).f2 < l0.length := by
  obtain ⟨ids, iv⟩ := h.iv
  exact iv.dat i hi k
theorem Ok.done {l0 : List (List Int)} {l : List S38} (h : Ok l0 l) {i : Nat} (hi : i < l.length) (k : (rd_T38 l i).f0 = 2) : 0 ≤ subN 1 l (rd_T38 l i).f1 i ∧ subN 2 l (rd_T38 l i).f1 i < 0 := by
  have e := h.ev i hi
  unfold evE at e
  rw [if_neg (by rw [k]; decide), if_pos k] at e
  split at e
  · cases e
  · split at e
    · cases e
    · omega
theorem Ok.wr {l0 : List (List Int)} {l : List S38} (h : Ok l0 l) {i : Nat} (hi : i < l.length) (k : (rd_T38 l i).f0 = 2) : (wrN l i).f3.length = 32 ∧ ∃ j : Nat, subN 1 l (rd_T38 l i).f1 i = j ∧ j < i ∧ (rd_T38 l j).f0 = 1 ∧ (rd_T38 l j).f1 = (rd_T38 l i).f1 := by
  obtain ⟨j, a, b, c, d, e⟩ := subN_at 1 l _ i (h.done hi k).1
  unfold wrN
  rw [a]
  exact ⟨(h.write c d).1, j, rfl, b, d, e⟩
theorem lastN_len {l0 : List (List Int)} {l : List S38} (h : Ok l0 l) (b : Int) : ∀ n, n ≤ l.length → ∀ x, lastN l b n = some x → x.length = 32
  | 0, _, x, e => by cases e
  | n + 1, hn, x, e => by
    rw [lastN] at e
    split at e
    · rename_i q
      injection e with e
      rw [← e]; exact (h.wr (by omega) q.1).1
    · exact lastN_len h b n (by omega) x e
theorem uptoN_len {l0 : List (List Int)} {l : List S38} (h : Ok l0 l) (b n : Nat) (hn : n ≤ l.length) (hb : b < l0.length) : (uptoN l0 l n b).length = 32 := by
  unfold uptoN
  cases e : lastN l b n with
  | none => rw [Option.getD_none, rdL1 l0 b hb]; exact h.bl _ (List.getElem_mem _)
  | some x => exact lastN_len h b n hn x e
theorem pl_wrapm (i : Nat) (h : i ≤ 1000000) : wrap64 (((i + 1 : Nat) : Int) - 1) = (i : Int) := by unfold wrap64; omega
theorem flE_le (l : List S38) : ∀ n, flE l n ≤ n
  | 0 => Nat.le_refl _
  | n + 1 => by have := flE_le l n; rw [flE]; split <;> omega
def allN (l0 : List (List Int)) (l : List S38) (n : Nat) : List (List Int) := (List.range l0.length).map (fun b => uptoN l0 l n b)
/-- The possible contents of block b, by the reference. -/
def wrR (l : List S38) (b : Int) (i : Nat) : List (List Int) := ((l.drop i).filter (fun x => x.f0 == 1 && x.f2 == b && decide (subN 2 l x.f1 l.length < 0))).map (fun x => x.f3)
def chR (l0 : List (List Int)) (l : List S38) (b : Nat) : List (List Int) := dedL ([uptoN l0 l (flE l l.length) b, uptoN l0 l l.length b] ++ wrR l b 0) []
theorem wrR_next (l : List S38) (b : Int) (i : Nat) (hi : i < l.length) : wrR l b i = (if (rd_T38 l i).f0 = 1 ∧ (rd_T38 l i).f2 = b ∧ subN 2 l (rd_T38 l i).f1 l.length < 0 then [(rd_T38 l i).f3] else []) ++ wrR l b (i + 1) := by
  unfold wrR
  rw [List.drop_eq_getElem_cons hi, ← rd38 l i hi]
  by_cases c : (rd_T38 l i).f0 = 1 ∧ (rd_T38 l i).f2 = b ∧ subN 2 l (rd_T38 l i).f1 l.length < 0
  · rw [if_pos c, List.filter_cons_of_pos (by simp [c.1, c.2.1, c.2.2])]; rfl
  · rw [if_neg c, List.filter_cons_of_neg (by intro q; simp only [Bool.and_eq_true, beq_iff_eq, decide_eq_true_eq] at q; exact c ⟨q.1.1, q.1.2, q.2⟩)]; rfl
theorem latest_all {l0 : List (List Int)} {l : List S38} (h : Ok l0 l) : latestL (afterL l0 l).2 = allN l0 l l.length := by
  obtain ⟨ids, iv⟩ := h.iv
  refine List.ext_getElem? (fun i => ?_)
  unfold latestL allN
  by_cases c : i < l0.length
  · rw [List.getElem?_zipWith, iv.firm i c]
    obtain ⟨x, e, q⟩ := iv.cache i c
    rw [e, List.getElem?_map, List.getElem?_range c]
    rcases q with ⟨rfl, q⟩ | ⟨q1, q2⟩
    · simp [q]
    · show some (if x = [] then _ else x) = some (uptoN l0 l l.length i)
      rw [if_neg q1, q2]
  · rw [List.getElem?_eq_none (by rw [List.length_zipWith, iv.wf.1, iv.wf.2.1]; omega), List.getElem?_eq_none (by rw [List.length_map, List.length_range]; omega)]
theorem firm_all {l0 : List (List Int)} {l : List S38} (h : Ok l0 l) : (afterL l0 l).2.firm = allN l0 l (flE l l.length) := by
  obtain ⟨ids, iv⟩ := h.iv
  refine List.ext_getElem? (fun i => ?_)
  unfold allN
  by_cases c : i < l0.length
  · rw [iv.firm i c, List.getElem?_map, List.getElem?_range c]; rfl
  · rw [List.getElem?_eq_none (by rw [iv.wf.1]; omega), List.getElem?_eq_none (by rw [List.length_map, List.length_range]; omega)]
theorem rd_allN (l0 : List (List Int)) (l : List S38) (n b : Nat) (hb : b < l0.length) : rd_L1 (allN l0 l n) b = uptoN l0 l n b := by
  have hl : (allN l0 l n).length = l0.length := by unfold allN; rw [List.length_map, List.length_range]
  rw [rdL1 _ b (by rw [hl]; exact hb)]
  unfold allN
  rw [List.getElem_map, List.getElem_range]
theorem choices_same {l0 : List (List Int)} {l : List S38} (h : Ok l0 l) (b : Nat) (hb : b < l0.length) : choicesL (afterL l0 l).2 b = chR l0 l b := by
  unfold choicesL chR
  rw [latest_all h, firm_all h, rd_allN l0 l _ b hb, rd_allN l0 l _ b hb]
  obtain ⟨ids, iv⟩ := h.iv
  have e : writesL (afterL l0 l).2.out b = wrR l b 0 := by
    rw [iv.out]
    unfold writesL outsN wrR
    rw [List.take_length, List.drop_zero, List.filter_map, List.map_map, List.filter_filter]
    congr 1
    refine List.filter_congr (fun x _ => ?_)
    unfold outP ofW
    simp only [Function.comp_apply]
    cases (x.f0 == 1) <;> cases (x.f2 == (b : Int)) <;> simp
  rw [e]
theorem same_l0 (xs : List (List Int)) (hx : xs.length ≤ 1000000) : ∀ (d i : Nat), i + d = xs.length → Ev (fun k => estoversref11_Same.l0 k xs xs i) true
  | 0, i, e => by
    refine Ev.step (fun k => by rw [estoversref11_Same.l0]) ?_
    exact Ev.neg (by omega) (Ev.now _)
  | d + 1, i, e => by
    refine Ev.step (fun k => by rw [estoversref11_Same.l0]) ?_
    refine Ev.pos (by omega) (Ev.pos (by omega) (Ev.pos (by omega) (Ev.pos rfl ?_)))
    rw [pl_wrap i (by omega)]
    exact same_l0 xs hx d (i + 1) (by omega)
theorem same_ev (xs : List (List Int)) (hx : xs.length ≤ 1000000) : Ev (fun k => estoversref11_Same.f k xs xs) true := by
  unfold estoversref11_Same.f
  refine Ev.pos rfl (same_l0 xs hx xs.length 0 (by omega))
theorem chR_len (l0 : List (List Int)) (l : List S38) (b : Nat) : (chR l0 l b).length ≤ l.length + 2 := by
  unfold chR
  have := dedL_len ([uptoN l0 l (flE l l.length) b, uptoN l0 l l.length b] ++ wrR l b 0) []
  have h2 : (wrR l b 0).length ≤ l.length := by unfold wrR; rw [List.length_map, List.drop_zero]; exact List.length_filter_le _ _
  simp only [List.length_append, List.length_cons, List.length_nil] at this
  omega
theorem allN_len (l0 : List (List Int)) (l : List S38) (n : Nat) : (allN l0 l n).length = l0.length := by unfold allN; rw [List.length_map, List.length_range]
def chA (l0 : List (List Int)) (l : List S38) (b : Int) : List (List Int) × Int := if checkE l0 l = 0 then (if b < 0 ∨ (l0.length : Int) ≤ b then ([], 2) else (chR l0 l b.toNat, 0)) else ([], checkE l0 l)
theorem latest_val (l0 : List (List Int)) (l : List S38) (h0 : l0.length ≤ 1000000) (hl : l.length ≤ 1000000) : durable_Latest.f l0 l = some (if checkE l0 l = 0 then (allN l0 l l.length, 0) else ([], checkE l0 l)) := by
  unfold durable_Latest.f
  rw [if_pos ⟨h0, hl⟩, (after_iv l0 l).1]
  by_cases c : checkE l0 l = 0
  · rw [if_neg (show ¬ checkE l0 l ≠ 0 from fun q => q c), if_pos c, latest_all (ok_of c)]
  · rw [if_pos (show checkE l0 l ≠ 0 from c), if_neg c]
theorem durable_val (l0 : List (List Int)) (l : List S38) (h0 : l0.length ≤ 1000000) (hl : l.length ≤ 1000000) : durable_Durable.f l0 l = some (if checkE l0 l = 0 then (allN l0 l (flE l l.length), 0) else ([], checkE l0 l)) := by
  unfold durable_Durable.f
  rw [if_pos ⟨h0, hl⟩, (after_iv l0 l).1]
  by_cases c : checkE l0 l = 0
  · rw [if_neg (show ¬ checkE l0 l ≠ 0 from fun q => q c), if_pos c, firm_all (ok_of c)]
  · rw [if_pos (show checkE l0 l ≠ 0 from c), if_neg c]
theorem choices_val (l0 : List (List Int)) (l : List S38) (h0 : l0.length ≤ 1000000) (hl : l.length ≤ 900000) (b : Int) : durable_Choices.f l0 l b = some (chA l0 l b) := by
  unfold durable_Choices.f chA
  rw [if_pos ⟨h0, hl⟩, (after_iv l0 l).1]
  by_cases c : checkE l0 l = 0
  · rw [if_neg (show ¬ checkE l0 l ≠ 0 from fun q => q c), if_pos c]
    by_cases d : b < 0 ∨ (l0.length : Int) ≤ b
    · rw [if_pos d, if_pos d]
    · rw [if_neg d, if_neg d]
      obtain ⟨n, rfl⟩ : ∃ n : Nat, b = n := ⟨b.toNat, by omega⟩
      rw [choices_same (ok_of c) n (by omega), Int.toNat_natCast]
  · rw [if_pos (show checkE l0 l ≠ 0 from c), if_neg c]
theorem rd_app (l m : List S38) (i : Nat) (h : i < l.length) : rd_T38 (l ++ m) i = rd_T38 l i := by
  rw [rd38 _ i (by rw [List.length_append]; omega), rd38 l i h, List.getElem_append_left h]
theorem rd_last (l : List S38) (x : S38) : rd_T38 (l ++ [x]) l.length = x := by
  rw [rd38 _ _ (by rw [List.length_append]; exact Nat.lt_succ_self _)]; simp
theorem sub_app (kd : Int) (l m : List S38) (id : Int) : ∀ n, n ≤ l.length → subN kd (l ++ m) id n = subN kd l id n
  | 0, _ => rfl
  | n + 1, h => by
    rw [subN, subN, sub_app kd l m id n (by omega), rd_app l m n (by omega)]
    have e : (n < (l ++ m).length ∧ (rd_T38 l n).f0 = kd ∧ (rd_T38 l n).f1 = id) ↔ (n < l.length ∧ (rd_T38 l n).f0 = kd ∧ (rd_T38 l n).f1 = id) := by
      rw [List.length_append]; exact ⟨fun q => ⟨by omega, q.2⟩, fun q => ⟨by omega, q.2⟩⟩
    simp only [e]
theorem evE_app (N : Nat) (l m : List S38) (i : Nat) (h : i < l.length) : evE N (l ++ m) i = evE N l i := by
  unfold evE
  rw [rd_app l m i h, sub_app 1 l m _ i (by omega), sub_app 2 l m _ i (by omega)]
theorem chk_zero (N : Nat) (l : List S38) : ∀ d i, (∀ j, i ≤ j → j < i + d → evE N l j = 0) → chkE N l d i = 0
  | 0, _, _ => rfl
  | d + 1, i, h => by
    rw [chkE, if_neg (fun q => q (h i (by omega) (by omega)))]
    exact chk_zero N l d (i + 1) (fun j a b => h j (by omega) (by omega))
theorem check_of {l0 : List (List Int)} {l : List S38} (hb : ∀ b ∈ l0, b.length = 32) (h : ∀ i, i < l.length → evE l0.length l i = 0) : checkE l0 l = 0 := by
  unfold checkE
  have e : ¬ l0.any badL = true := by
    rw [List.any_eq_true]
    rintro ⟨b, b1, b2⟩
    unfold badL at b2
    rw [hb b b1] at b2
    cases b2
  rw [if_neg e]
  exact chk_zero _ l l.length 0 (fun j _ b => h j (by omega))
theorem check_more {l0 : List (List Int)} {l : List S38} (h : checkE l0 l = 0) (x : S38) (hx : evE l0.length (l ++ [x]) l.length = 0) : checkE l0 (l ++ [x]) = 0 := by
  have ok := ok_of h
  refine check_of ok.bl (fun i hi => ?_)
  rw [List.length_append, List.length_singleton] at hi
  by_cases c : i < l.length
  · rw [evE_app _ l [x] i c]; exact ok.ev i c
  · obtain rfl : i = l.length := by omega
    exact hx
theorem check_less {l0 : List (List Int)} {l : List S38} (h : checkE l0 l = 0) (n : Nat) : checkE l0 (l.take n) = 0 := by
  have ok := ok_of h
  refine check_of ok.bl (fun i hi => ?_)
  rw [List.length_take] at hi
  have := evE_app l0.length (l.take n) (l.drop n) i (by rw [List.length_take]; omega)
  rw [List.take_append_drop] at this
  rw [← this]; exact ok.ev i (by omega)
theorem sub_nx (kd : Int) (l : List S38) (id : Int) (n : Nat) (hn : n < l.length) : decide (0 ≤ subN kd l id (n + 1)) = (decide (0 ≤ subN kd l id n) || decide ((rd_T38 l n).f0 = kd ∧ (rd_T38 l n).f1 = id)) := by
  rw [subN]
  by_cases c : 0 ≤ subN kd l id n
  · rw [if_pos c, decide_eq_true c, Bool.true_or]
  · rw [if_neg c, decide_eq_false c, Bool.false_or]
    by_cases d : (rd_T38 l n).f0 = kd ∧ (rd_T38 l n).f1 = id
    · rw [if_pos ⟨hn, d⟩, decide_eq_true d, decide_eq_true (by omega)]
    · rw [if_neg (fun q => d q.2), decide_eq_false d]; rfl
def anyD (l : List S38) (id : Int) : Nat → Nat → Bool
  | 0, _ => false
  | d + 1, i => decide ((rd_T38 l i).f0 = 2 ∧ (rd_T38 l i).f1 = id) || anyD l id d (i + 1)
theorem anyD_iff (l : List S38) (id : Int) : ∀ d i, anyD l id d i = true ↔ ∃ j : Nat, i ≤ j ∧ j < i + d ∧ (rd_T38 l j).f0 = 2 ∧ (rd_T38 l j).f1 = id
  | 0, i => ⟨fun h => (by cases h), fun ⟨j, a, b, _⟩ => (by omega)⟩
  | d + 1, i => by
    rw [anyD, Bool.or_eq_true, anyD_iff l id d (i + 1), decide_eq_true_eq]
    constructor
    · rintro (q | ⟨j, a, b, q⟩)
      · exact ⟨i, by omega, by omega, q⟩
      · exact ⟨j, by omega, by omega, q⟩
    · rintro ⟨j, a, b, q⟩
      by_cases c : j = i
      · subst c; exact .inl q
      · exact .inr ⟨j, by omega, by omega, q⟩
/-- A flush among the first n events, after the completion of a. -/
def flA (l : List S38) (a : Int) : Nat → Bool
  | 0 => false
  | n + 1 => flA l a n || decide ((rd_T38 l n).f0 = 3 ∧ 0 ≤ subN 2 l a n)
theorem flA_iff (l : List S38) (a : Int) : ∀ n, flA l a n = true ↔ ∃ i : Nat, i < n ∧ (rd_T38 l i).f0 = 3 ∧ 0 ≤ subN 2 l a i
  | 0 => ⟨fun h => (by cases h), fun ⟨i, h, _⟩ => (by omega)⟩
  | n + 1 => by
    rw [flA, Bool.or_eq_true, flA_iff l a n, decide_eq_true_eq]
    constructor
    · rintro (⟨i, h, q⟩ | q)
      · exact ⟨i, by omega, q⟩
      · exact ⟨n, by omega, q⟩
    · rintro ⟨i, h, q⟩
      by_cases c : i < n
      · exact .inl ⟨i, c, q⟩
      · obtain rfl : i = n := by omega
        exact .inr q
def odN (l : List S38) (a b : Int) (n : Nat) : Od := (l.take n).foldl (odS a b) ⟨false, false, false, false, false⟩
theorem od_inv (l : List S38) (a b : Int) (own : ∀ i : Nat, i < l.length → (rd_T38 l i).f0 = 1 → subN 1 l (rd_T38 l i).f1 l.length = i) : ∀ n, n ≤ l.length →
    odN l a b n = ⟨decide (0 ≤ subN 1 l a n), decide (0 ≤ subN 1 l b n), decide (0 ≤ subN 2 l a n), flA l a n, if 0 ≤ subN 1 l b n then flA l a (subN 1 l b n).toNat else false⟩
  | 0, _ => by rfl
  | n + 1, hn => by
    have ih := od_inv l a b own n (by omega)
    have e : odN l a b (n + 1) = odS a b (odN l a b n) (rd_T38 l n) := by
      unfold odN
      rw [take_next l n (by omega), List.foldl_append]; rfl
    rw [e, ih]
    unfold odS
    rw [sub_nx 1 l a n (by omega), sub_nx 1 l b n (by omega), sub_nx 2 l a n (by omega), flA]
    by_cases k1 : (rd_T38 l n).f0 = 1
    · have n2 : (rd_T38 l n).f0 ≠ 2 := by rw [k1]; decide
      have n3 : (rd_T38 l n).f0 ≠ 3 := by rw [k1]; decide
      rw [if_pos k1]
      have d2 : decide ((rd_T38 l n).f0 = 2 ∧ (rd_T38 l n).f1 = a) = false := decide_eq_false (fun q => n2 q.1)
      have d3 : decide ((rd_T38 l n).f0 = 3 ∧ 0 ≤ subN 2 l a n) = false := decide_eq_false (fun q => n3 q.1)
      rw [d2, d3, Bool.or_false, Bool.or_false]
      have b1 : ∀ id, decide ((rd_T38 l n).f0 = 1 ∧ (rd_T38 l n).f1 = id) = ((rd_T38 l n).f1 == id) := by
        intro id
        by_cases q : (rd_T38 l n).f1 = id
        · rw [decide_eq_true ⟨k1, q⟩, beq_iff_eq.2 q]
        · rw [decide_eq_false (fun r => q r.2), beq_eq_false_iff_ne.2 q]
      rw [b1, b1]
      congr 1
      by_cases c : (rd_T38 l n).f1 = b
      · rw [if_pos (beq_iff_eq.2 c)]
        have hs : ¬ 0 ≤ subN 1 l b n := by
          intro q
          have h1 := own n (by omega) k1
          rw [c] at h1
          have h2 := subN_mono 1 l b n (l.length - n) q
          rw [show n + (l.length - n) = l.length by omega, h1] at h2
          have := (subN_lt 1 l b n).1
          omega
        have hn1 : subN 1 l b (n + 1) = n := by rw [subN, if_neg hs, if_pos ⟨by omega, k1, c⟩]
        show flA l a n = _
        rw [hn1, if_pos (by omega)]; rfl
      · rw [if_neg (show ¬ ((rd_T38 l n).f1 == b) = true from fun q => c (beq_iff_eq.1 q)), sub_other c]
    · have d1 : ∀ id, decide ((rd_T38 l n).f0 = 1 ∧ (rd_T38 l n).f1 = id) = false := fun id => decide_eq_false (fun q => k1 q.1)
      rw [if_neg k1, d1, d1, Bool.or_false, Bool.or_false, sub_same k1]
      by_cases k2 : (rd_T38 l n).f0 = 2 ∧ (rd_T38 l n).f1 = a
      · have n3 : (rd_T38 l n).f0 ≠ 3 := by rw [k2.1]; decide
        rw [if_pos k2, decide_eq_true k2, Bool.or_true, decide_eq_false (show ¬ ((rd_T38 l n).f0 = 3 ∧ 0 ≤ subN 2 l a n) from fun q => n3 q.1), Bool.or_false]
      · rw [if_neg k2, decide_eq_false k2, Bool.or_false]
        by_cases k3 : (rd_T38 l n).f0 = 3
        · rw [if_pos k3]
          have hd : decide ((rd_T38 l n).f0 = 3 ∧ 0 ≤ subN 2 l a n) = decide (0 ≤ subN 2 l a n) := by
            by_cases q : 0 ≤ subN 2 l a n
            · rw [decide_eq_true q, decide_eq_true ⟨k3, q⟩]
            · rw [decide_eq_false q, decide_eq_false (fun r => q r.2)]
          rw [hd]
        · rw [if_neg k3, decide_eq_false (show ¬ ((rd_T38 l n).f0 = 3 ∧ 0 ≤ subN 2 l a n) from fun q => k3 q.1), Bool.or_false]
theorem odF_of (l : List S38) (a b : Int) (own : ∀ i : Nat, i < l.length → (rd_T38 l i).f0 = 1 → subN 1 l (rd_T38 l i).f1 l.length = i) :
    odF l a b = ⟨decide (0 ≤ subN 1 l a l.length), decide (0 ≤ subN 1 l b l.length), decide (0 ≤ subN 2 l a l.length), flA l a l.length, if 0 ≤ subN 1 l b l.length then flA l a (subN 1 l b l.length).toNat else false⟩ := by
  rw [← od_inv l a b own l.length (by omega)]
  unfold odF odN; rw [List.take_length]
/-- A flush among the d events from i on. -/
def hasF (l : List S38) : Nat → Nat → Bool
  | 0, _ => false
  | d + 1, i => decide ((rd_T38 l i).f0 = 3) || hasF l d (i + 1)
theorem hasF_iff (l : List S38) : ∀ d i, hasF l d i = true ↔ ∃ j : Nat, i ≤ j ∧ j < i + d ∧ (rd_T38 l j).f0 = 3
  | 0, i => ⟨fun h => (by cases h), fun ⟨j, a, b, _⟩ => (by omega)⟩
  | d + 1, i => by
    rw [hasF, Bool.or_eq_true, hasF_iff l d (i + 1), decide_eq_true_eq]
    constructor
    · rintro (q | ⟨j, a, b, q⟩)
      · exact ⟨i, by omega, by omega, q⟩
      · exact ⟨j, by omega, by omega, q⟩
    · rintro ⟨j, a, b, q⟩
      by_cases c : j = i
      · subst c; exact .inl q
      · exact .inr ⟨j, by omega, by omega, q⟩
theorem flA_hasF (l : List S38) (a : Int) (c t : Nat) (ht : t ≤ l.length) (h : subN 2 l a l.length = c) : flA l a t = hasF l (t - c) c := by
  have key : flA l a t = true ↔ hasF l (t - c) c = true := by
    rw [flA_iff, hasF_iff]
    obtain ⟨i0, e0, e1, e2, e3, e4⟩ := subN_at 2 l a l.length (by omega)
    constructor
    · rintro ⟨i, q1, q2, q3⟩
      have h2 := subN_mono 2 l a i (l.length - i) q3
      rw [show i + (l.length - i) = l.length by omega, h] at h2
      have := (subN_lt 2 l a i).1
      exact ⟨i, by omega, by omega, q2⟩
    · rintro ⟨j, q1, q2, q3⟩
      obtain rfl : i0 = c := by omega
      have : j ≠ i0 := fun r => by rw [r, e3] at q3; exact absurd q3 (by decide)
      exact ⟨j, by omega, q3, (subN_of 2 l a j i0 (by omega) e2 e3 e4).1⟩
  cases e : hasF l (t - c) c with
  | true => exact key.2 e
  | false =>
    cases f : flA l a t with
    | false => rfl
    | true => rw [key.1 f] at e; cases e
/-- The answer of the reference to a valid history. -/
def ordR (l : List S38) (a b : Int) : Bool × Int :=
  if 0 ≤ subN 1 l a l.length ∧ 0 ≤ subN 1 l b l.length then (if 0 ≤ subN 2 l a l.length then hasF l ((subN 1 l b l.length).toNat - (subN 2 l a l.length).toNat) (subN 2 l a l.length).toNat else false, 0) else (false, 6)
theorem ordF_val (l0 : List (List Int)) (l : List S38) (h0 : l0.length ≤ 1000000) (hl : l.length ≤ 1000000) (a b : Int) : durable_Ordered.f l0 l a b = some (if checkE l0 l = 0 then ordR l a b else (false, checkE l0 l)) := by
  unfold durable_Ordered.f
  obtain ⟨e, hv⟩ := after_iv l0 l
  rw [if_pos ⟨h0, hl⟩, e]
  by_cases c : checkE l0 l = 0
  · rw [if_neg (show ¬ checkE l0 l ≠ 0 from fun q => q c), if_pos c]
    obtain ⟨ids, iv⟩ := hv c
    rw [odF_of l a b iv.own]
    unfold ordR
    by_cases q : 0 ≤ subN 1 l a l.length ∧ 0 ≤ subN 1 l b l.length
    · rw [if_pos q, if_pos ⟨decide_eq_true q.1, decide_eq_true q.2⟩]
      congr 2
      show (if 0 ≤ subN 1 l b l.length then flA l a (subN 1 l b l.length).toNat else false) = _
      rw [if_pos q.2]
      have h1 := subN_lt 1 l b l.length
      have h2 := subN_lt 2 l a l.length
      by_cases d : 0 ≤ subN 2 l a l.length
      · rw [if_pos d]
        exact flA_hasF l a (subN 2 l a l.length).toNat (subN 1 l b l.length).toNat (by omega) (by omega)
      · rw [if_neg d]
        cases f : flA l a (subN 1 l b l.length).toNat with
        | false => rfl
        | true =>
          obtain ⟨i, q1, q2, q3⟩ := (flA_iff l a _).1 f
          have := subN_mono 2 l a i (l.length - i) q3
          rw [show i + (l.length - i) = l.length by omega] at this
          omega
    · rw [if_neg q, if_neg (by simpa using q)]
  · rw [if_pos (show checkE l0 l ≠ 0 from c), if_neg c]
end Go.Proofs.Ytghmkmpgfpkfmaa.X
