/- The longest run; the count of a kind; the reference's blocks. -/
import Derived.Test.YtollapjmibkpfaaPb
import Derived.Test.YtollapjmibkpfaaGc
import Derived.Test.YtollapjmibkpfaaX9
import Derived.Test.YtollapjmibkpfaaX29
import Derived.Test.YtollapjmibkpfaaX31
import Derived.Test.YtollapjmibkpfaaX32
namespace Go.Proofs.Ytollapjmibkpfaa.X
open Go.RowKit Go.Proofs.YtollapjmibkpfaaW.PrintWords Go.Proofs.YtollapjmibkpfaaW.PrintLast Go.Proofs.YtollapjmibkpfaaW.PrintMore
set_option linter.unusedVariables false
set_option linter.unusedSimpArgs false

/-- A run of free cells of positive length. -/
def Runs (l : List Int) (s b : Int) : Prop := 0 < b ∧ 0 ≤ s ∧ ∀ j : Int, s ≤ j → j < s + b → rd l j = 0
/-- The first longest run of those that Q admits. -/
def Best (l : List Int) (Q : Int → Int → Prop) (s b : Int) : Prop :=
  ((b = 0 ∧ s = 0) ∨ (Runs l s b ∧ Q s b)) ∧ ∀ s' b' : Int, Runs l s' b' → Q s' b' → b' < b ∨ (b' = b ∧ s ≤ s')
theorem Best.uniq {l : List Int} {Q : Int → Int → Prop} {s b s' b' : Int} (h : Best l Q s b) (h' : Best l Q s' b') : s = s' ∧ b = b' := by
  obtain ⟨h1, h2⟩ := h; obtain ⟨h1', h2'⟩ := h'
  rcases h1 with ⟨e1, e2⟩ | ⟨r, q⟩
  · rcases h1' with ⟨e1', e2'⟩ | ⟨r', q'⟩
    · omega
    · have := h2 _ _ r' q'; have := r'.1; omega
  · rcases h1' with ⟨e1', e2'⟩ | ⟨r', q'⟩
    · have := h2' _ _ r q; have := r.1; omega
    · have := h2 _ _ r' q'; have := h2' _ _ r q; omega
theorem Best.le {l : List Int} {Q : Int → Int → Prop} {s b : Int} (h : Best l Q s b) : 0 ≤ b := by
  rcases h.1 with ⟨e, _⟩ | ⟨r, _⟩
  · omega
  · have := r.1; omega
theorem run_l0 (l : List Int) (hl : l.length ≤ 4096) : ∀ (d k i : Nat) (s b r : Int), l.length - i = d → i ≤ l.length → d < k →
    Best l (fun s b => s + b ≤ i) s b → 0 ≤ r → r ≤ i → (∀ j : Int, i - r ≤ j → j < i → rd l j = 0) → (r < i → rd l (i - r - 1) ≠ 0) → r ≤ b →
    ∃ p : Int × Int, compaction_Run.l0 k s b r l (l.length : Int) i = some p ∧ Best l (fun s b => s + b ≤ l.length) p.1 p.2
  | d, 0, i, _, _, _, _, _, h, _, _, _, _, _, _ => absurd h (by omega)
  | 0, k + 1, i, s, b, r, h0, h1, _, hB, _, _, _, _, _ => by
    simp only [compaction_Run.l0]
    rw [if_neg (by omega)]
    have : i = l.length := by omega
    subst this
    exact ⟨(s, b), rfl, hB⟩
  | d + 1, k + 1, i, s, b, r, h0, h1, h2, hB, r0, r1, hf, hn, hrb => by
    simp only [compaction_Run.l0]
    rw [if_pos (by omega), if_pos (by omega), if_pos (by omega), wrap_nat i (by omega), wrap_id (r + 1) (by omega) (by omega)]
    have hb0 := hB.le
    by_cases c0 : rd l i = 0
    · rw [if_pos c0]
      have hf' : ∀ j : Int, ((i + 1 : Nat) : Int) - (r + 1) ≤ j → j < ((i + 1 : Nat) : Int) → rd l j = 0 := by
        intro j g0 g1
        by_cases e : j = i
        · rw [e]; exact c0
        · exact hf j (by omega) (by omega)
      have hn' : r + 1 < ((i + 1 : Nat) : Int) → rd l (((i + 1 : Nat) : Int) - (r + 1) - 1) ≠ 0 := by
        intro g
        rw [show ((i + 1 : Nat) : Int) - (r + 1) - 1 = i - r - 1 from by omega]
        exact hn (by omega)
      have hs : ∀ s' b' : Int, Runs l s' b' → s' + b' ≤ ((i + 1 : Nat) : Int) → ¬ s' + b' ≤ i → b' ≤ r + 1 ∧ s' = i + 1 - b' := by
        intro s' b' hr hq hq'
        refine ⟨?_, by omega⟩
        apply Classical.byContradiction
        intro g
        refine hn ?_ (hr.2.2 (i - r - 1) (by omega) (by omega))
        have := hr.2.1; omega
      by_cases c1 : r + 1 > b
      · rw [if_pos c1, wrap_id ((i : Int) - (r + 1)) (by omega) (by omega), wrap_id _ (by omega) (by omega)]
        have e : (i : Int) - (r + 1) + 1 = i - r := by omega
        rw [e]
        refine run_l0 l hl d k (i + 1) (i - r) (r + 1) (r + 1) (by omega) (by omega) (by omega) ⟨.inr ⟨⟨by omega, by omega, fun j g0 g1 => hf' j (by omega) (by omega)⟩, by omega⟩, ?_⟩ (by omega) (by omega) hf' hn' (by omega)
        intro s' b' hr hq
        by_cases q : s' + b' ≤ i
        · have := hB.2 s' b' hr q; omega
        · have := hs s' b' hr hq q; omega
      · rw [if_neg c1]
        refine run_l0 l hl d k (i + 1) s b (r + 1) (by omega) (by omega) (by omega) ⟨?_, ?_⟩ (by omega) (by omega) hf' hn' (by omega)
        · rcases hB.1 with h | ⟨h, h'⟩
          · exact .inl h
          · exact .inr ⟨h, by omega⟩
        · intro s' b' hr hq
          by_cases q : s' + b' ≤ i
          · exact hB.2 s' b' hr q
          · have := hs s' b' hr hq q
            rcases hB.1 with h | ⟨h, h'⟩
            · omega
            · omega
    · rw [if_neg c0, if_neg (by omega)]
      refine run_l0 l hl d k (i + 1) s b 0 (by omega) (by omega) (by omega) ⟨?_, ?_⟩ (by omega) (by omega) (fun j g0 g1 => absurd g1 (by omega)) (fun _ => by rw [show ((i + 1 : Nat) : Int) - 0 - 1 = i from by omega]; exact c0) hb0
      · rcases hB.1 with h | ⟨h, h'⟩
        · exact .inl h
        · exact .inr ⟨h, by omega⟩
      · intro s' b' hr hq
        by_cases q : s' + b' ≤ i
        · exact hB.2 s' b' hr q
        · exact absurd (hr.2.2 i (by have := hr.1; omega) (by omega)) c0
/-- n free cells from i on, and no more. -/
def Len (l : List Int) (i n : Int) : Prop := 0 ≤ n ∧ i + n ≤ l.length ∧ (∀ j : Int, i ≤ j → j < i + n → rd l j = 0) ∧ (i + n < l.length → rd l (i + n) ≠ 0)
theorem len_l0 (l : List Int) (hl : l.length ≤ 4096) (i : Int) (hi : 0 ≤ i) : ∀ (d k : Nat) (n : Int), (l.length : Int) - i - n = d → d < k → 0 ≤ n → (∀ j : Int, i ≤ j → j < i + n → rd l j = 0) →
    ∃ m, estoversref40_run.l0 k l i n = some m ∧ Len l i m
  | d, 0, n, _, h, _, _ => absurd h (by omega)
  | 0, k + 1, n, h0, h1, h2, h3 => by
    simp only [estoversref40_run.l0]
    rw [wrap_id (i + n) (by omega) (by omega), if_neg (by omega)]
    exact ⟨n, rfl, h2, by omega, h3, fun h => absurd h (by omega)⟩
  | d + 1, k + 1, n, h0, h1, h2, h3 => by
    simp only [estoversref40_run.l0]
    rw [wrap_id (i + n) (by omega) (by omega), wrap_id (n + 1) (by omega) (by omega), if_pos (by omega), if_pos (by omega)]
    by_cases c : rd l (i + n) = 0
    · rw [if_pos c]
      refine len_l0 l hl i hi d k (n + 1) (by omega) (by omega) (by omega) ?_
      intro j g0 g1
      by_cases e : j = i + n
      · rw [e]; exact c
      · exact h3 j g0 (by omega)
    · rw [if_neg c]
      exact ⟨n, rfl, h2, by omega, h3, fun _ => c⟩
theorem len_ev (l : List Int) (hl : l.length ≤ 4096) (i : Int) (hi : 0 ≤ i) (hi' : i ≤ l.length) : ∃ m, Ev (fun k => estoversref40_run.f k l i) m ∧ Len l i m := by
  obtain ⟨m, hm, hL⟩ := len_l0 l hl i hi ((l.length : Int) - i).toNat (((l.length : Int) - i).toNat + 1) 0 (by omega) (by omega) (by omega) (fun j g0 g1 => absurd g1 (by omega))
  exact ⟨m, Ev.of (fun k => estoversref40_run.mono l i k) hm, hL⟩
theorem refRun_l0 (l : List Int) (hl : l.length ≤ 4096) : ∀ (d i : Nat) (s b : Int), l.length - i = d → i ≤ l.length →
    Best l (fun s b => s < i ∧ s + b ≤ l.length) s b →
    ∃ p : Int × Int, Ev (fun k => estoversref40_Run.l0 k l s b i) p ∧ Best l (fun s b => s + b ≤ l.length) p.1 p.2
  | 0, i, s, b, h0, h1, hB => by
    refine ⟨(s, b), Ev.step (fun k => by rw [estoversref40_Run.l0]) (Ev.neg (by omega) (Ev.now _)), ?_⟩
    refine ⟨?_, fun s' b' hr hq => hB.2 s' b' hr ⟨by have := hr.1; omega, hq⟩⟩
    rcases hB.1 with h | ⟨h, h'⟩
    · exact .inl h
    · exact .inr ⟨h, h'.2⟩
  | d + 1, i, s, b, h0, h1, hB => by
    obtain ⟨m, hm, hL⟩ := len_ev l hl i (by omega) (by omega)
    have hb0 := hB.le
    have hs : ∀ s' b' : Int, Runs l s' b' → (s' < ((i + 1 : Nat) : Int) ∧ s' + b' ≤ l.length) → ¬ s' < i → b' ≤ m ∧ s' = i := by
      intro s' b' hr hq hq'
      refine ⟨?_, by omega⟩
      apply Classical.byContradiction
      intro g
      exact hL.2.2.2 (by omega) (hr.2.2 (i + m) (by have := hL.1; omega) (by omega))
    by_cases c : m > b
    · have ⟨p, hp, hP⟩ := refRun_l0 l hl d (i + 1) i m (by omega) (by omega) ⟨.inr ⟨⟨by omega, by omega, hL.2.2.1⟩, by omega, hL.2.1⟩, by
        intro s' b' hr hq
        by_cases q : s' < i
        · have := hB.2 s' b' hr ⟨q, hq.2⟩; omega
        · have := hs s' b' hr hq q; omega⟩
      refine ⟨p, Ev.step (fun k => by rw [estoversref40_Run.l0]) (Ev.pos (by omega) (Ev.bind hm (Ev.pos c ?_))), hP⟩
      rw [wrap_nat i (by omega)]; exact hp
    · have ⟨p, hp, hP⟩ := refRun_l0 l hl d (i + 1) s b (by omega) (by omega) ⟨by
        rcases hB.1 with h | ⟨h, h'⟩
        · exact .inl h
        · exact .inr ⟨h, by omega, h'.2⟩, by
        intro s' b' hr hq
        by_cases q : s' < i
        · exact hB.2 s' b' hr ⟨q, hq.2⟩
        · have := hs s' b' hr hq q
          rcases hB.1 with h | ⟨h, h'⟩
          · have := hr.1; omega
          · omega⟩
      refine ⟨p, Ev.step (fun k => by rw [estoversref40_Run.l0]) (Ev.pos (by omega) (Ev.bind hm (Ev.neg c ?_))), hP⟩
      rw [wrap_nat i (by omega)]; exact hp
theorem run_both (l : List Int) : ∃ p : Int × Int, Ev (fun k => compaction_Run.f k l) p ∧ Ev (fun k => estoversref40_Run.f k l) p := by
  by_cases hk : chk l = 0
  · have hl := chk_len hk
    obtain ⟨p, hp, hP⟩ := run_l0 l hl l.length (l.length + 1) 0 0 0 0 (by omega) (by omega) (by omega) ⟨.inl ⟨rfl, rfl⟩, fun s' b' hr hq => by have := hr.1; have := hr.2.1; omega⟩ (by omega) (by omega) (fun j g0 g1 => by omega) (fun g => by omega) (by omega)
    obtain ⟨q, hq, hQ⟩ := refRun_l0 l hl l.length 0 0 0 (by omega) (by omega) ⟨.inl ⟨rfl, rfl⟩, fun s' b' hr hq => by have := hr.2.1; omega⟩
    obtain ⟨e1, e2⟩ := hP.uniq hQ
    have e : p = q := Prod.ext e1 e2
    subst e
    refine ⟨p, ?_, ?_⟩
    · unfold compaction_Run.f
      refine Ev.bind (check_ev l) (Ev.pos hk ?_)
      have hm : ∀ k, LeO (compaction_Run.l0 k 0 0 0 l (l.length : Int) 0) (compaction_Run.l0 (k + 1) 0 0 0 l (l.length : Int) 0) := fun k => compaction_Run.mono_l k _ _ _ _ _ _
      exact Ev.of hm hp
    · unfold estoversref40_Run.f
      exact Ev.bind (refCheck_ev l) (Ev.pos hk hq)
  · refine ⟨(0, 0), ?_, ?_⟩
    · unfold compaction_Run.f
      exact Ev.bind (check_ev l) (Ev.neg hk (Ev.now _))
    · unfold estoversref40_Run.f
      exact Ev.bind (refCheck_ev l) (Ev.neg hk (Ev.now _))

/-- The number of cells of a kind. -/
def cntN (v : Int) : List Int → Int
  | [] => 0
  | x :: l => (if x = v then 1 else 0) + cntN v l
theorem cntN_bd (v : Int) : ∀ l : List Int, 0 ≤ cntN v l ∧ cntN v l ≤ l.length
  | [] => ⟨by simp [cntN], by simp [cntN]⟩
  | x :: l => by have := cntN_bd v l; unfold cntN; simp; split <;> omega
theorem cntN_free : ∀ l : List Int, cntN 0 l = freeN l
  | [] => rfl
  | x :: l => by unfold cntN freeN; rw [cntN_free l]
theorem cntN_all : ∀ l : List Int, cntN 0 l = l.length ↔ l.all isFree = true
  | [] => by simp [cntN]
  | x :: l => by
    have := cntN_all l
    have b := cntN_bd 0 l
    unfold cntN
    simp only [List.all_cons, Bool.and_eq_true, List.length_cons, isFree, beq_iff_eq]
    rw [← this]
    by_cases c : x = 0
    · simp [c]; omega
    · simp [c]; omega
theorem cntN_none : ∀ l : List Int, cntN 2 l = 0 ↔ l.all isSoft = true
  | [] => by simp [cntN]
  | x :: l => by
    have := cntN_none l
    have b := cntN_bd 2 l
    unfold cntN
    simp only [List.all_cons, Bool.and_eq_true, isSoft, bne_iff_ne]
    rw [← this]
    by_cases c : x = 2
    · simp [c]; omega
    · simp [c]
theorem cntN_drop (v : Int) (l : List Int) (i n : Nat) (h : i < l.length) : cntN v ((l.drop i).take (n + 1)) = (if rd l i = v then 1 else 0) + cntN v ((l.drop (i + 1)).take n) := by
  rw [rd_nat l i h, List.drop_eq_getElem_cons h, List.take_succ_cons, cntN]
theorem count_l0 (l : List Int) (hl : l.length ≤ 4096) (v : Int) (e : Nat) (he : e ≤ l.length) : ∀ (d k i : Nat) (acc : Int), e - i = d → i ≤ e → d < k → 0 ≤ acc → acc ≤ i → estoversref40_Count.l0 k l e v acc i = some (acc + cntN v ((l.drop i).take d))
  | d, 0, i, _, _, _, h, _, _ => absurd h (by omega)
  | 0, k + 1, i, acc, h0, h1, _, _, _ => by
    simp only [estoversref40_Count.l0]
    rw [if_neg (by omega)]; simp [cntN]
  | d + 1, k + 1, i, acc, h0, h1, h2, h3, h4 => by
    simp only [estoversref40_Count.l0]
    rw [if_pos (by omega), if_pos (by omega), if_pos (by omega), wrap_nat i (by omega), wrap_id (acc + 1) (by omega) (by omega), cntN_drop v l i d (by omega)]
    by_cases c : rd l i = v
    · rw [if_pos c, if_pos c, count_l0 l hl v e he d k (i + 1) (acc + 1) (by omega) (by omega) (by omega) (by omega) (by omega)]
      congr 1; omega
    · rw [if_neg c, if_neg c, count_l0 l hl v e he d k (i + 1) acc (by omega) (by omega) (by omega) (by omega) (by omega)]
      congr 1; omega
theorem count_ev (l : List Int) (hl : l.length ≤ 4096) (v : Int) (a e : Nat) (ha : a ≤ e) (he : e ≤ l.length) : Ev (fun k => estoversref40_Count.f k l a e v) (cntN v ((l.drop a).take (e - a))) := by
  refine Ev.of (fun k => estoversref40_Count.mono l a e v k) (k := e - a + 1) ?_
  unfold estoversref40_Count.f
  have := count_l0 l hl v e he (e - a) (e - a + 1) a 0 rfl ha (by omega) (by omega) (by omega)
  rw [this]; simp
theorem refFits_l0 (l : List Int) (hl : l.length ≤ 4096) (s : Nat) (hs : 1 ≤ s) (hs' : s ≤ 16) : ∀ (f i : Nat), l.length + 1 - i ≤ f → i ≤ l.length → Ev (fun k => estoversref40_Fits.l0 k l s i) (blkAt isFree l s f i)
  | 0, i, h, h' => absurd h (by omega)
  | f + 1, i, h, h' => by
    refine Ev.step (fun k => by rw [estoversref40_Fits.l0]) ?_
    unfold blkAt
    rw [show wrap64 ((i : Int) + (s : Int)) = ((i + s : Nat) : Int) from by rw [wrap_id _ (by omega) (by omega)]; omega]
    by_cases c : i + s ≤ l.length
    · rw [if_pos c]
      refine Ev.pos (by omega) ?_
      refine Ev.bind (count_ev l hl 0 i (i + s) (by omega) c) ?_
      have e : (cntN 0 ((l.drop i).take (i + s - i)) = s) ↔ ((l.drop i).take s).all isFree = true := by
        rw [← cntN_all, show i + s - i = s from by omega, List.length_take, List.length_drop, show min s (l.length - i) = s from by omega]
      by_cases q : ((l.drop i).take s).all isFree = true
      · rw [if_pos q]; exact Ev.pos (e.2 q) (Ev.now _)
      · rw [if_neg q]; exact Ev.neg (fun h => q (e.1 h)) (refFits_l0 l hl s hs hs' f (i + s) (by omega) c)
    · rw [if_neg c]; exact Ev.neg (by omega) (Ev.now _)
theorem refPoss_l0 (l : List Int) (hl : l.length ≤ 4096) (s : Nat) (hs : 1 ≤ s) (hs' : s ≤ 16) : ∀ (f i : Nat), l.length + 1 - i ≤ f → i ≤ l.length → Ev (fun k => estoversref40_Possible.l0 k l s i) (blkAt isSoft l s f i)
  | 0, i, h, h' => absurd h (by omega)
  | f + 1, i, h, h' => by
    refine Ev.step (fun k => by rw [estoversref40_Possible.l0]) ?_
    unfold blkAt
    rw [show wrap64 ((i : Int) + (s : Int)) = ((i + s : Nat) : Int) from by rw [wrap_id _ (by omega) (by omega)]; omega]
    by_cases c : i + s ≤ l.length
    · rw [if_pos c]
      refine Ev.pos (by omega) ?_
      refine Ev.bind (count_ev l hl 2 i (i + s) (by omega) c) ?_
      have e : (cntN 2 ((l.drop i).take (i + s - i)) = 0) ↔ ((l.drop i).take s).all isSoft = true := by
        rw [← cntN_none, show i + s - i = s from by omega]
      by_cases q : ((l.drop i).take s).all isSoft = true
      · rw [if_pos q]; exact Ev.pos (e.2 q) (Ev.now _)
      · rw [if_neg q]; exact Ev.neg (fun h => q (e.1 h)) (refPoss_l0 l hl s hs hs' f (i + s) (by omega) c)
    · rw [if_neg c]; exact Ev.neg (by omega) (Ev.now _)
theorem shl_small (o : Int) (h0 : 0 ≤ o) (h1 : o ≤ 4) : shl .i64 1 o = ((2 ^ o.toNat : Nat) : Int) ∧ 1 ≤ 2 ^ o.toNat ∧ 2 ^ o.toNat ≤ 16 := by
  rcases (show o = 0 ∨ o = 1 ∨ o = 2 ∨ o = 3 ∨ o = 4 from by omega) with rfl | rfl | rfl | rfl | rfl <;> decide
theorem refFits_ev (l : List Int) (o : Int) : Ev (fun k => estoversref40_Fits.f k l o) (blockF isFree l o) := by
  unfold estoversref40_Fits.f blockF
  refine Ev.bind (refCheck_ev l) ?_
  by_cases hk : chk l = 0
  · refine Ev.pos hk ?_
    by_cases c0 : o < 0
    · rw [if_neg (by omega)]
      refine Ev.pos c0 (Ev.step (fun k => by rw [estoversref40_Fits.j0]) ?_)
      exact Ev.pos rfl (Ev.now _)
    · refine Ev.neg c0 (Ev.step (fun k => by rw [estoversref40_Fits.j0]) ?_)
      by_cases c1 : o > 4
      · rw [if_neg (by omega)]
        exact Ev.pos (by simpa using c1) (Ev.now _)
      · rw [if_pos ⟨hk, by omega, by omega⟩]
        refine Ev.neg (by simpa using c1) (Ev.pos (by omega) ?_)
        have hs := shl_small o (by omega) (by omega)
        rw [hs.1]
        exact refFits_l0 l (chk_len hk) _ hs.2.1 hs.2.2 (l.length + 1) 0 (by omega) (by omega)
  · rw [if_neg (fun h => hk h.1)]
    refine Ev.neg hk (Ev.step (fun k => by rw [estoversref40_Fits.j0]) ?_)
    exact Ev.pos rfl (Ev.now _)
theorem refPoss_ev (l : List Int) (o : Int) : Ev (fun k => estoversref40_Possible.f k l o) (possF l o) := by
  unfold estoversref40_Possible.f possF
  refine Ev.bind (refCheck_ev l) ?_
  by_cases hk : chk l = 0
  · refine Ev.pos hk ?_
    by_cases c0 : o < 0
    · have e : blockF isSoft l o = -1 := by unfold blockF; rw [if_neg (by omega)]
      rw [e, if_pos (by omega)]
      refine Ev.pos c0 (Ev.step (fun k => by rw [estoversref40_Possible.j0]) ?_)
      exact Ev.pos rfl (Ev.now _)
    · refine Ev.neg c0 ?_
      by_cases c1 : o > 4
      · have e : blockF isSoft l o = -1 := by unfold blockF; rw [if_neg (by omega)]
        rw [e, if_pos (by omega)]
        refine Ev.pos c1 (Ev.step (fun k => by rw [estoversref40_Possible.j0]) ?_)
        exact Ev.pos rfl (Ev.now _)
      · refine Ev.neg c1 ?_
        have hs := shl_small o (by omega) (by omega)
        have hc := count_ev l (chk_len hk) 0 0 l.length (by omega) (by omega)
        have ec : cntN 0 ((l.drop 0).take (l.length - 0)) = freeN l := by rw [cntN_free]; simp
        rw [ec] at hc
        refine Ev.bind hc (Ev.pos (by omega) (Ev.step (fun k => by rw [estoversref40_Possible.j0]) ?_))
        have e : blockF isSoft l o = blkAt isSoft l (2 ^ o.toNat) (l.length + 1) 0 := by unfold blockF; rw [if_pos ⟨hk, by omega, by omega⟩]
        rw [e, hs.1]
        by_cases c2 : freeN l < ((2 ^ o.toNat : Nat) : Int)
        · refine Ev.pos (by simpa using c2) ?_
          rw [show (if blkAt isSoft l (2 ^ o.toNat) (l.length + 1) 0 < 0 then (-1 : Int) else if freeN l < 2 ^ o.toNat then -1 else blkAt isSoft l (2 ^ o.toNat) (l.length + 1) 0) = -1 from by
            split
            · rfl
            · rw [if_pos (by simpa using c2)]]
          exact Ev.now _
        · refine Ev.neg (by simpa using c2) (Ev.pos (by omega) ?_)
          have := refPoss_l0 l (chk_len hk) _ hs.2.1 hs.2.2 (l.length + 1) 0 (by omega) (by omega)
          have e2 : (if blkAt isSoft l (2 ^ o.toNat) (l.length + 1) 0 < 0 then (-1 : Int) else if freeN l < 2 ^ o.toNat then -1 else blkAt isSoft l (2 ^ o.toNat) (l.length + 1) 0) = blkAt isSoft l (2 ^ o.toNat) (l.length + 1) 0 := by
            rw [if_neg (c := freeN l < 2 ^ o.toNat) (by simpa using c2)]
            rcases blkAt_bd isSoft l (2 ^ o.toNat) (l.length + 1) 0 with g | g
            · rw [g]; rfl
            · rw [if_neg (by omega)]
          rw [e2]; exact this
  · have e : blockF isSoft l o = -1 := by unfold blockF; rw [if_neg (fun h => hk h.1)]
    rw [e, if_pos (by omega)]
    refine Ev.neg hk (Ev.step (fun k => by rw [estoversref40_Possible.j0]) ?_)
    exact Ev.pos rfl (Ev.now _)
end Go.Proofs.Ytollapjmibkpfaa.X
