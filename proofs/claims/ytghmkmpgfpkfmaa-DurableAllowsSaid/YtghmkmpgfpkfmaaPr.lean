/- Plain laws of chapter 11: the contents of blocks by the reference. -/
import Derived.Test.YtghmkmpgfpkfmaaPm
import Derived.Test.YtghmkmpgfpkfmaaX29
import Derived.Test.YtghmkmpgfpkfmaaX31
import Derived.Test.YtghmkmpgfpkfmaaX34
import Derived.Test.YtghmkmpgfpkfmaaX43
import Derived.Test.YtghmkmpgfpkfmaaX16
namespace Go.Proofs.Ytghmkmpgfpkfmaa.X
open Go.RowKit Go.Proofs.YtghmkmpgfpkfmaaW.PrintWords Go.Proofs.YtghmkmpgfpkfmaaW.PrintLast Go.Proofs.YtghmkmpgfpkfmaaW.PrintMore
set_option linter.unusedVariables false
set_option linter.unusedSimpArgs false

theorem chk_all (N : Nat) (l : List S38) : ∀ (d i : Nat), chkE N l d i = 0 → ∀ j, i ≤ j → j < i + d → evE N l j = 0
  | 0, i, _, j, _, _ => by omega
  | d + 1, i, h, j, h1, h2 => by
    rw [chkE] at h
    by_cases c : evE N l i = 0
    · rw [if_neg (fun q => q c)] at h
      by_cases e : j = i
      · subst e; exact c
      · exact chk_all N l d (i + 1) h j (by omega) (by omega)
    · rw [if_pos c] at h; exact absurd h c
structure Ok (l0 : List (List Int)) (l : List S38) : Prop where
  ev : ∀ i : Nat, i < l.length → evE l0.length l i = 0
  bl : ∀ b ∈ l0, b.length = 32
  iv : ∃ ids, IV l0 l l.length ids (afterL l0 l).2
theorem ok_of {l0 : List (List Int)} {l : List S38} (h : checkE l0 l = 0) : Ok l0 l := by
  obtain ⟨_, hv⟩ := after_iv l0 l
  refine ⟨fun i hi => ?_, fun b hb => ?_, hv h⟩
  · unfold checkE at h
    by_cases c : l0.any badL = true
    · rw [if_pos c] at h; cases h
    · rw [if_neg c] at h
      exact chk_all l0.length l l.length 0 h i (by omega) (by omega)
  · unfold checkE at h
    by_cases c : l0.any badL = true
    · rw [if_pos c] at h; cases h
    · have : badL b = false := by
        cases e : badL b with
        | false => rfl
        | true => exact absurd (List.any_eq_true.2 ⟨b, hb, e⟩) c
      unfold badL at this
      have : (b.length : Int) = 32 := by simpa using this
      omega
theorem Ok.write {l0 : List (List Int)} {l : List S38} (h : Ok l0 l) {i : Nat} (hi : i < l.length) (k : (rd_T38 l i).f0 = 1) : (rd_T38 l i).f3.length = 32 ∧ 0 ≤ (rd_T38 l i).f2 ∧ (rd_T38 l i).f2 < l0.length := by
  obtain ⟨ids, iv⟩ := h.iv
  exact iv.dat i hi k
theorem Ok.done {l0 : List (List Int)} {l : List S38} (h : Ok l0 l) {i : Nat} (hi : i < l.length) (k : (rd_T38 l i).f0 = 2) : 0 ≤ subN 1 l (rd_T38 l i).f1 i ∧ subN 2 l (rd_T38 l i).f1 i < 0 := by
  have e := h.ev i hi
  unfold evE at e
  rw [if_neg (by rw [k]; decide), if_pos k] at e
  split at e
  · cases e
  · split at e
    · cases e
    · omega
theorem Ok.wr {l0 : List (List Int)} {l : List S38} (h : Ok l0 l) {i : Nat} (hi : i < l.length) (k : (rd_T38 l i).f0 = 2) : (wrN l i).f3.length = 32 ∧ ∃ j : Nat, subN 1 l (rd_T38 l i).f1 i = j ∧ j < i ∧ (rd_T38 l j).f0 = 1 ∧ (rd_T38 l j).f1 = (rd_T38 l i).f1 := by
  obtain ⟨j, a, b, c, d, e⟩ := subN_at 1 l _ i (h.done hi k).1
  unfold wrN
  rw [a]
  exact ⟨(h.write c d).1, j, rfl, b, d, e⟩
theorem lastN_len {l0 : List (List Int)} {l : List S38} (h : Ok l0 l) (b : Int) : ∀ n, n ≤ l.length → ∀ x, lastN l b n = some x → x.length = 32
  | 0, _, x, e => by cases e
  | n + 1, hn, x, e => by
    rw [lastN] at e
    split at e
    · rename_i q
      injection e with e
      rw [← e]; exact (h.wr (by omega) q.1).1
    · exact lastN_len h b n (by omega) x e
theorem uptoN_len {l0 : List (List Int)} {l : List S38} (h : Ok l0 l) (b n : Nat) (hn : n ≤ l.length) (hb : b < l0.length) : (uptoN l0 l n b).length = 32 := by
  unfold uptoN
  cases e : lastN l b n with
  | none => rw [Option.getD_none, rdL1 l0 b hb]; exact h.bl _ (List.getElem_mem _)
  | some x => exact lastN_len h b n hn x e
theorem pl_wrapm (i : Nat) (h : i ≤ 1000000) : wrap64 (((i + 1 : Nat) : Int) - 1) = (i : Int) := by unfold wrap64; omega
theorem own_ev (l : List Int) (h : l.length ≤ 1000000) : estoversref11_own.f l = some l := by
  unfold estoversref11_own.f
  rw [Option.bind_some, if_pos (by simp; omega)]; rfl
theorem fl_l0 (l : List S38) (hl : l.length ≤ 1000000) : ∀ n : Nat, n ≤ l.length → Ev (fun k => estoversref11_flushed.l0 k l (wrap64 ((n : Int) - 1))) (flE l n)
  | 0, h => by
    refine Ev.step (fun k => by rw [estoversref11_flushed.l0]) ?_
    exact Ev.neg (by unfold wrap64; omega) (Ev.now _)
  | n + 1, h => by
    rw [pl_wrapm n (by omega)]
    refine Ev.step (fun k => by rw [estoversref11_flushed.l0]) ?_
    refine Ev.pos (by omega) (Ev.pos (by omega) (Ev.pos (by omega) ?_))
    rw [flE]
    by_cases c : (rd_T38 l n).f0 = 3
    · rw [if_pos c]
      refine Ev.pos c ?_
      rw [pl_wrap n (by omega)]; exact Ev.now _
    · rw [if_neg c]
      exact Ev.neg c (fl_l0 l hl n (by omega))
theorem fl_ev (l : List S38) (hl : l.length ≤ 1000000) : Ev (fun k => estoversref11_flushed.f k l) (flE l l.length) := fl_l0 l hl l.length (by omega)
theorem flE_le (l : List S38) : ∀ n, flE l n ≤ n
  | 0 => Nat.le_refl _
  | n + 1 => by have := flE_le l n; rw [flE]; split <;> omega
theorem last_l0 {l0 : List (List Int)} {l : List S38} (h : Ok l0 l) (hl : l.length ≤ 1000000) (b : Int) : ∀ n : Nat, n ≤ l.length → Ev (fun k => estoversref11_last.l0 k l b (wrap64 ((n : Int) - 1))) (match lastN l b n with | some x => (x, true) | none => ([], false))
  | 0, _ => by
    refine Ev.step (fun k => by rw [estoversref11_last.l0]) ?_
    exact Ev.neg (by unfold wrap64; omega) (Ev.now _)
  | n + 1, hn => by
    rw [pl_wrapm n (by omega)]
    refine Ev.step (fun k => by rw [estoversref11_last.l0]) ?_
    refine Ev.pos (by omega) (Ev.pos (by omega) (Ev.pos (by omega) ?_))
    rw [lastN]
    by_cases c : (rd_T38 l n).f0 = 2
    · obtain ⟨_, j, e1, e2, e3, e4⟩ := h.wr (by omega) c
      refine Ev.pos c (Ev.bind (sub_ev l (rd_T38 l n).f1 n (by omega) hl) (Ev.pos (by omega) (Ev.pos (by omega) ?_)))
      by_cases d : (wrN l n).f2 = b
      · rw [if_pos ⟨c, d⟩]
        exact Ev.pos d (Ev.now _)
      · rw [if_neg (fun q => d q.2)]
        exact Ev.neg d (last_l0 h hl b n (by omega))
    · rw [if_neg (fun q => c q.1)]
      exact Ev.neg c (last_l0 h hl b n (by omega))
theorem upto_ev {l0 : List (List Int)} {l : List S38} (h : Ok l0 l) (hl : l.length ≤ 1000000) (n b : Nat) (hn : n ≤ l.length) (hb : b < l0.length) : Ev (fun k => estoversref11_upto.f k l0 l n b) (uptoN l0 l n b) := by
  unfold estoversref11_upto.f
  refine Ev.bind (last_l0 h hl b n hn) ?_
  have hu := uptoN_len h b n hn hb
  unfold uptoN at hu ⊢
  cases e : lastN l b n with
  | some x =>
    rw [e] at hu
    exact Ev.pos rfl (Ev.had (own_ev x (by rw [Option.getD_some] at hu; omega)) (Ev.now _))
  | none =>
    rw [e] at hu
    exact Ev.neg (by decide) (Ev.pos (by omega) (Ev.pos (by omega) (Ev.had (own_ev _ (by rw [Option.getD_none] at hu; omega)) (Ev.now _))))
def allN (l0 : List (List Int)) (l : List S38) (n : Nat) : List (List Int) := (List.range l0.length).map (fun b => uptoN l0 l n b)
theorem all_l0 {l0 : List (List Int)} {l : List S38} (h : Ok l0 l) (h0 : l0.length ≤ 1000000) (hl : l.length ≤ 1000000) (n : Nat) (hn : n ≤ l.length) : ∀ (d i : Nat), i + d = l0.length → Ev (fun k => estoversref11_all.l0 k l0 l n ((List.range i).map (fun b => uptoN l0 l n b)) i) (allN l0 l n)
  | 0, i, e => by
    refine Ev.step (fun k => by rw [estoversref11_all.l0]) ?_
    obtain rfl : i = l0.length := by omega
    exact Ev.neg (by omega) (Ev.now _)
  | d + 1, i, e => by
    refine Ev.step (fun k => by rw [estoversref11_all.l0]) ?_
    refine Ev.pos (by omega) (Ev.bind (upto_ev h hl n i hn (by omega)) (Ev.pos (by rw [List.length_map, List.length_range]; omega) ?_))
    rw [pl_wrap i (by omega)]
    have := all_l0 h h0 hl n hn d (i + 1) (by omega)
    rw [List.range_succ, List.map_append] at this
    exact this
theorem all_ev {l0 : List (List Int)} {l : List S38} (h : Ok l0 l) (h0 : l0.length ≤ 1000000) (hl : l.length ≤ 1000000) (n : Nat) (hn : n ≤ l.length) : Ev (fun k => estoversref11_all.f k l0 l n) (allN l0 l n) := all_l0 h h0 hl n hn l0.length 0 (by omega)
theorem has_l0 (xs : List (List Int)) (b : List Int) (hx : xs.length ≤ 1000000) : ∀ (d i : Nat), i + d = xs.length → Ev (fun k => estoversref11_has.l0 k xs b i) ((xs.drop i).any (fun c => eqB b c))
  | 0, i, e => by
    refine Ev.step (fun k => by rw [estoversref11_has.l0]) ?_
    rw [List.drop_of_length_le (by omega)]
    exact Ev.neg (by omega) (Ev.now _)
  | d + 1, i, e => by
    refine Ev.step (fun k => by rw [estoversref11_has.l0]) ?_
    refine Ev.pos (by omega) (Ev.pos (by omega) ?_)
    rw [List.drop_eq_getElem_cons (by omega), List.any_cons, rdL1 xs i (by omega)]
    by_cases c : (strOfNums xs[i]).toList = (strOfNums b).toList
    · have : eqB b xs[i] = true := by unfold eqB; exact beq_iff_eq.2 c.symm
      rw [this, Bool.true_or]
      exact Ev.pos c (Ev.now _)
    · have : eqB b xs[i] = false := by unfold eqB; exact beq_eq_false_iff_ne.2 (fun q => c q.symm)
      rw [this, Bool.false_or]
      refine Ev.neg c ?_
      rw [pl_wrap i (by omega)]
      exact has_l0 xs b hx d (i + 1) (by omega)
theorem has_ev (xs : List (List Int)) (b : List Int) (hx : xs.length ≤ 1000000) : Ev (fun k => estoversref11_has.f k xs b) (xs.any (fun c => eqB b c)) := has_l0 xs b hx xs.length 0 (by omega)
/-- The possible contents of block b, by the reference. -/
def wrR (l : List S38) (b : Int) (i : Nat) : List (List Int) := ((l.drop i).filter (fun x => x.f0 == 1 && x.f2 == b && decide (subN 2 l x.f1 l.length < 0))).map (fun x => x.f3)
def chR (l0 : List (List Int)) (l : List S38) (b : Nat) : List (List Int) := dedL ([uptoN l0 l (flE l l.length) b, uptoN l0 l l.length b] ++ wrR l b 0) []
theorem wrR_next (l : List S38) (b : Int) (i : Nat) (hi : i < l.length) : wrR l b i = (if (rd_T38 l i).f0 = 1 ∧ (rd_T38 l i).f2 = b ∧ subN 2 l (rd_T38 l i).f1 l.length < 0 then [(rd_T38 l i).f3] else []) ++ wrR l b (i + 1) := by
  unfold wrR
  rw [List.drop_eq_getElem_cons hi, ← rd38 l i hi]
  by_cases c : (rd_T38 l i).f0 = 1 ∧ (rd_T38 l i).f2 = b ∧ subN 2 l (rd_T38 l i).f1 l.length < 0
  · rw [if_pos c, List.filter_cons_of_pos (by simp [c.1, c.2.1, c.2.2])]; rfl
  · rw [if_neg c, List.filter_cons_of_neg (by intro q; simp only [Bool.and_eq_true, beq_iff_eq, decide_eq_true_eq] at q; exact c ⟨q.1.1, q.1.2, q.2⟩)]; rfl
theorem latest_all {l0 : List (List Int)} {l : List S38} (h : Ok l0 l) : latestL (afterL l0 l).2 = allN l0 l l.length := by
  obtain ⟨ids, iv⟩ := h.iv
  refine List.ext_getElem? (fun i => ?_)
  unfold latestL allN
  by_cases c : i < l0.length
  · rw [List.getElem?_zipWith, iv.firm i c]
    obtain ⟨x, e, q⟩ := iv.cache i c
    rw [e, List.getElem?_map, List.getElem?_range c]
    rcases q with ⟨rfl, q⟩ | ⟨q1, q2⟩
    · simp [q]
    · show some (if x = [] then _ else x) = some (uptoN l0 l l.length i)
      rw [if_neg q1, q2]
  · rw [List.getElem?_eq_none (by rw [List.length_zipWith, iv.wf.1, iv.wf.2.1]; omega), List.getElem?_eq_none (by rw [List.length_map, List.length_range]; omega)]
theorem firm_all {l0 : List (List Int)} {l : List S38} (h : Ok l0 l) : (afterL l0 l).2.firm = allN l0 l (flE l l.length) := by
  obtain ⟨ids, iv⟩ := h.iv
  refine List.ext_getElem? (fun i => ?_)
  unfold allN
  by_cases c : i < l0.length
  · rw [iv.firm i c, List.getElem?_map, List.getElem?_range c]; rfl
  · rw [List.getElem?_eq_none (by rw [iv.wf.1]; omega), List.getElem?_eq_none (by rw [List.length_map, List.length_range]; omega)]
theorem rd_allN (l0 : List (List Int)) (l : List S38) (n b : Nat) (hb : b < l0.length) : rd_L1 (allN l0 l n) b = uptoN l0 l n b := by
  have hl : (allN l0 l n).length = l0.length := by unfold allN; rw [List.length_map, List.length_range]
  rw [rdL1 _ b (by rw [hl]; exact hb)]
  unfold allN
  rw [List.getElem_map, List.getElem_range]
theorem choices_same {l0 : List (List Int)} {l : List S38} (h : Ok l0 l) (b : Nat) (hb : b < l0.length) : choicesL (afterL l0 l).2 b = chR l0 l b := by
  unfold choicesL chR
  rw [latest_all h, firm_all h, rd_allN l0 l _ b hb, rd_allN l0 l _ b hb]
  obtain ⟨ids, iv⟩ := h.iv
  have e : writesL (afterL l0 l).2.out b = wrR l b 0 := by
    rw [iv.out]
    unfold writesL outsN wrR
    rw [List.take_length, List.drop_zero, List.filter_map, List.map_map, List.filter_filter]
    congr 1
    refine List.filter_congr (fun x _ => ?_)
    unfold outP ofW
    simp only [Function.comp_apply]
    cases (x.f0 == 1) <;> cases (x.f2 == (b : Int)) <;> simp
  rw [e]
theorem same_l0 (xs : List (List Int)) (hx : xs.length ≤ 1000000) : ∀ (d i : Nat), i + d = xs.length → Ev (fun k => estoversref11_Same.l0 k xs xs i) true
  | 0, i, e => by
    refine Ev.step (fun k => by rw [estoversref11_Same.l0]) ?_
    exact Ev.neg (by omega) (Ev.now _)
  | d + 1, i, e => by
    refine Ev.step (fun k => by rw [estoversref11_Same.l0]) ?_
    refine Ev.pos (by omega) (Ev.pos (by omega) (Ev.pos (by omega) (Ev.pos rfl ?_)))
    rw [pl_wrap i (by omega)]
    exact same_l0 xs hx d (i + 1) (by omega)
theorem same_ev (xs : List (List Int)) (hx : xs.length ≤ 1000000) : Ev (fun k => estoversref11_Same.f k xs xs) true := by
  unfold estoversref11_Same.f
  refine Ev.pos rfl (same_l0 xs hx xs.length 0 (by omega))
end Go.Proofs.Ytghmkmpgfpkfmaa.X
