/- Plain laws of chapter 11: what Ordered knows of a history, and the reference's answer. -/
import Derived.Test.YtghmkmpgfpkfmaaPn
import Derived.Test.YtghmkmpgfpkfmaaX39
import Derived.Test.YtghmkmpgfpkfmaaX38
namespace Go.Proofs.Ytghmkmpgfpkfmaa.X
open Go.RowKit Go.Proofs.YtghmkmpgfpkfmaaW.PrintWords Go.Proofs.YtghmkmpgfpkfmaaW.PrintLast Go.Proofs.YtghmkmpgfpkfmaaW.PrintMore
set_option linter.unusedVariables false
set_option linter.unusedSimpArgs false

/-- A flush among the first n events, after the completion of a. -/
def flA (l : List S38) (a : Int) : Nat → Bool
  | 0 => false
  | n + 1 => flA l a n || decide ((rd_T38 l n).f0 = 3 ∧ 0 ≤ subN 2 l a n)
theorem flA_iff (l : List S38) (a : Int) : ∀ n, flA l a n = true ↔ ∃ i : Nat, i < n ∧ (rd_T38 l i).f0 = 3 ∧ 0 ≤ subN 2 l a i
  | 0 => ⟨fun h => (by cases h), fun ⟨i, h, _⟩ => (by omega)⟩
  | n + 1 => by
    rw [flA, Bool.or_eq_true, flA_iff l a n, decide_eq_true_eq]
    constructor
    · rintro (⟨i, h, q⟩ | q)
      · exact ⟨i, by omega, q⟩
      · exact ⟨n, by omega, q⟩
    · rintro ⟨i, h, q⟩
      by_cases c : i < n
      · exact .inl ⟨i, c, q⟩
      · obtain rfl : i = n := by omega
        exact .inr q
def odN (l : List S38) (a b : Int) (n : Nat) : Od := (l.take n).foldl (odS a b) ⟨false, false, false, false, false⟩
theorem sub_next (kd : Int) (l : List S38) (id : Int) (n : Nat) (hn : n < l.length) : decide (0 ≤ subN kd l id (n + 1)) = (decide (0 ≤ subN kd l id n) || decide ((rd_T38 l n).f0 = kd ∧ (rd_T38 l n).f1 = id)) := by
  rw [subN]
  by_cases c : 0 ≤ subN kd l id n
  · rw [if_pos c, decide_eq_true c, Bool.true_or]
  · rw [if_neg c, decide_eq_false c, Bool.false_or]
    by_cases d : (rd_T38 l n).f0 = kd ∧ (rd_T38 l n).f1 = id
    · rw [if_pos ⟨hn, d⟩, decide_eq_true d, decide_eq_true (by omega)]
    · rw [if_neg (fun q => d q.2), decide_eq_false d]; rfl
theorem od_inv (l : List S38) (a b : Int) (own : ∀ i : Nat, i < l.length → (rd_T38 l i).f0 = 1 → subN 1 l (rd_T38 l i).f1 l.length = i) : ∀ n, n ≤ l.length →
    odN l a b n = ⟨decide (0 ≤ subN 1 l a n), decide (0 ≤ subN 1 l b n), decide (0 ≤ subN 2 l a n), flA l a n, if 0 ≤ subN 1 l b n then flA l a (subN 1 l b n).toNat else false⟩
  | 0, _ => by rfl
  | n + 1, hn => by
    have ih := od_inv l a b own n (by omega)
    have e : odN l a b (n + 1) = odS a b (odN l a b n) (rd_T38 l n) := by
      unfold odN
      rw [take_next l n (by omega), List.foldl_append]; rfl
    rw [e, ih]
    unfold odS
    rw [sub_next 1 l a n (by omega), sub_next 1 l b n (by omega), sub_next 2 l a n (by omega), flA]
    by_cases k1 : (rd_T38 l n).f0 = 1
    · have n2 : (rd_T38 l n).f0 ≠ 2 := by rw [k1]; decide
      have n3 : (rd_T38 l n).f0 ≠ 3 := by rw [k1]; decide
      rw [if_pos k1]
      have d2 : decide ((rd_T38 l n).f0 = 2 ∧ (rd_T38 l n).f1 = a) = false := decide_eq_false (fun q => n2 q.1)
      have d3 : decide ((rd_T38 l n).f0 = 3 ∧ 0 ≤ subN 2 l a n) = false := decide_eq_false (fun q => n3 q.1)
      rw [d2, d3, Bool.or_false, Bool.or_false]
      have b1 : ∀ id, decide ((rd_T38 l n).f0 = 1 ∧ (rd_T38 l n).f1 = id) = ((rd_T38 l n).f1 == id) := by
        intro id
        by_cases q : (rd_T38 l n).f1 = id
        · rw [decide_eq_true ⟨k1, q⟩, beq_iff_eq.2 q]
        · rw [decide_eq_false (fun r => q r.2), beq_eq_false_iff_ne.2 q]
      rw [b1, b1]
      congr 1
      by_cases c : (rd_T38 l n).f1 = b
      · rw [if_pos (beq_iff_eq.2 c)]
        have hs : ¬ 0 ≤ subN 1 l b n := by
          intro q
          have h1 := own n (by omega) k1
          rw [c] at h1
          have h2 := subN_mono 1 l b n (l.length - n) q
          rw [show n + (l.length - n) = l.length by omega, h1] at h2
          have := (subN_lt 1 l b n).1
          omega
        have hn1 : subN 1 l b (n + 1) = n := by rw [subN, if_neg hs, if_pos ⟨by omega, k1, c⟩]
        show flA l a n = _
        rw [hn1, if_pos (by omega)]; rfl
      · rw [if_neg (show ¬ ((rd_T38 l n).f1 == b) = true from fun q => c (beq_iff_eq.1 q)), sub_other c]
    · have d1 : ∀ id, decide ((rd_T38 l n).f0 = 1 ∧ (rd_T38 l n).f1 = id) = false := fun id => decide_eq_false (fun q => k1 q.1)
      rw [if_neg k1, d1, d1, Bool.or_false, Bool.or_false, sub_same k1]
      by_cases k2 : (rd_T38 l n).f0 = 2 ∧ (rd_T38 l n).f1 = a
      · have n3 : (rd_T38 l n).f0 ≠ 3 := by rw [k2.1]; decide
        rw [if_pos k2, decide_eq_true k2, Bool.or_true, decide_eq_false (show ¬ ((rd_T38 l n).f0 = 3 ∧ 0 ≤ subN 2 l a n) from fun q => n3 q.1), Bool.or_false]
      · rw [if_neg k2, decide_eq_false k2, Bool.or_false]
        by_cases k3 : (rd_T38 l n).f0 = 3
        · rw [if_pos k3]
          have hd : decide ((rd_T38 l n).f0 = 3 ∧ 0 ≤ subN 2 l a n) = decide (0 ≤ subN 2 l a n) := by
            by_cases q : 0 ≤ subN 2 l a n
            · rw [decide_eq_true q, decide_eq_true ⟨k3, q⟩]
            · rw [decide_eq_false q, decide_eq_false (fun r => q r.2)]
          rw [hd]
        · rw [if_neg k3, decide_eq_false (show ¬ ((rd_T38 l n).f0 = 3 ∧ 0 ≤ subN 2 l a n) from fun q => k3 q.1), Bool.or_false]
theorem odF_of (l : List S38) (a b : Int) (own : ∀ i : Nat, i < l.length → (rd_T38 l i).f0 = 1 → subN 1 l (rd_T38 l i).f1 l.length = i) :
    odF l a b = ⟨decide (0 ≤ subN 1 l a l.length), decide (0 ≤ subN 1 l b l.length), decide (0 ≤ subN 2 l a l.length), flA l a l.length, if 0 ≤ subN 1 l b l.length then flA l a (subN 1 l b l.length).toNat else false⟩ := by
  rw [← od_inv l a b own l.length (by omega)]
  unfold odF odN; rw [List.take_length]
/-- A flush among the d events from i on. -/
def hasF (l : List S38) : Nat → Nat → Bool
  | 0, _ => false
  | d + 1, i => decide ((rd_T38 l i).f0 = 3) || hasF l d (i + 1)
theorem hasF_iff (l : List S38) : ∀ d i, hasF l d i = true ↔ ∃ j : Nat, i ≤ j ∧ j < i + d ∧ (rd_T38 l j).f0 = 3
  | 0, i => ⟨fun h => (by cases h), fun ⟨j, a, b, _⟩ => (by omega)⟩
  | d + 1, i => by
    rw [hasF, Bool.or_eq_true, hasF_iff l d (i + 1), decide_eq_true_eq]
    constructor
    · rintro (q | ⟨j, a, b, q⟩)
      · exact ⟨i, by omega, by omega, q⟩
      · exact ⟨j, by omega, by omega, q⟩
    · rintro ⟨j, a, b, q⟩
      by_cases c : j = i
      · subst c; exact .inl q
      · exact .inr ⟨j, by omega, by omega, q⟩
theorem flA_hasF (l : List S38) (a : Int) (c t : Nat) (ht : t ≤ l.length) (h : subN 2 l a l.length = c) : flA l a t = hasF l (t - c) c := by
  have key : flA l a t = true ↔ hasF l (t - c) c = true := by
    rw [flA_iff, hasF_iff]
    obtain ⟨i0, e0, e1, e2, e3, e4⟩ := subN_at 2 l a l.length (by omega)
    constructor
    · rintro ⟨i, q1, q2, q3⟩
      have h2 := subN_mono 2 l a i (l.length - i) q3
      rw [show i + (l.length - i) = l.length by omega, h] at h2
      have := (subN_lt 2 l a i).1
      exact ⟨i, by omega, by omega, q2⟩
    · rintro ⟨j, q1, q2, q3⟩
      obtain rfl : i0 = c := by omega
      have : j ≠ i0 := fun r => by rw [r, e3] at q3; exact absurd q3 (by decide)
      exact ⟨j, by omega, q3, (subN_of 2 l a j i0 (by omega) e2 e3 e4).1⟩
  cases e : hasF l (t - c) c with
  | true => exact key.2 e
  | false =>
    cases f : flA l a t with
    | false => rfl
    | true => rw [key.1 f] at e; cases e
theorem ordered_l0 (l : List S38) (hl : l.length ≤ 1000000) (t : Nat) (ht : t ≤ l.length) : ∀ (d i : Nat), i + d = t → Ev (fun k => estoversref11_Ordered.l0 k l t i) (hasF l d i, 0)
  | 0, i, h => by
    refine Ev.step (fun k => by rw [estoversref11_Ordered.l0]) ?_
    exact Ev.neg (by omega) (Ev.now _)
  | d + 1, i, h => by
    refine Ev.step (fun k => by rw [estoversref11_Ordered.l0]) ?_
    refine Ev.pos (by omega) (Ev.pos (by omega) (Ev.pos (by omega) ?_))
    rw [hasF]
    by_cases c : (rd_T38 l i).f0 = 3
    · rw [decide_eq_true c, Bool.true_or]
      exact Ev.pos c (Ev.now _)
    · rw [decide_eq_false c, Bool.false_or]
      refine Ev.neg c ?_
      rw [pl_wrap i (by omega)]
      exact ordered_l0 l hl t ht d (i + 1) (by omega)
/-- The answer of the reference to a valid history. -/
def ordR (l : List S38) (a b : Int) : Bool × Int :=
  if 0 ≤ subN 1 l a l.length ∧ 0 ≤ subN 1 l b l.length then (if 0 ≤ subN 2 l a l.length then hasF l ((subN 1 l b l.length).toNat - (subN 2 l a l.length).toNat) (subN 2 l a l.length).toNat else false, 0) else (false, 6)
theorem ordered_j0 (l : List S38) (hl : l.length ≤ 1000000) (a b : Int) (ha : 0 ≤ subN 1 l a l.length) : Ev (fun k => estoversref11_Ordered.j0 k l a l.length (subN 1 l b l.length) (decide (subN 1 l b l.length < 0))) (ordR l a b) := by
  refine Ev.step (fun k => by rw [estoversref11_Ordered.j0]) ?_
  unfold ordR
  by_cases c : subN 1 l b l.length < 0
  · rw [if_neg (by omega)]
    exact Ev.pos (decide_eq_true c) (Ev.now _)
  · rw [if_pos ⟨ha, by omega⟩]
    refine Ev.neg (by simpa using c) (Ev.bind (com_ev l a l.length (by omega) hl) ?_)
    by_cases d : 0 ≤ subN 2 l a l.length
    · rw [if_pos d]
      refine Ev.neg (by omega) ?_
      have h1 := subN_lt 1 l b l.length
      have h2 := subN_lt 2 l a l.length
      obtain ⟨t, et⟩ : ∃ t : Nat, subN 1 l b l.length = t := ⟨(subN 1 l b l.length).toNat, by omega⟩
      obtain ⟨s, es⟩ : ∃ s : Nat, subN 2 l a l.length = s := ⟨(subN 2 l a l.length).toNat, by omega⟩
      rw [et, es, Int.toNat_natCast, Int.toNat_natCast]
      by_cases q : s ≤ t
      · exact ordered_l0 l hl t (by omega) (t - s) s (by omega)
      · rw [show t - s = 0 by omega, hasF]
        refine Ev.step (fun k => by rw [estoversref11_Ordered.l0]) ?_
        exact Ev.neg (by omega) (Ev.now _)
    · rw [if_neg d]
      exact Ev.pos (by omega) (Ev.now _)
theorem ordered_ev (l0 : List (List Int)) (l : List S38) (h0 : l0.length ≤ 1000000) (hl : l.length ≤ 1000000) (a b : Int) : Ev (fun k => estoversref11_Ordered.f k l0 l a b) (if checkE l0 l = 0 then ordR l a b else (false, checkE l0 l)) := by
  unfold estoversref11_Ordered.f
  refine Ev.bind (check_ev l0 l h0 hl) ?_
  by_cases c : checkE l0 l = 0
  · rw [if_pos c]
    refine Ev.pos c (Ev.bind (sub_ev l b l.length (by omega) hl) (Ev.bind (sub_ev l a l.length (by omega) hl) ?_))
    by_cases d : subN 1 l a l.length < 0
    · refine Ev.pos d (Ev.step (fun k => by rw [estoversref11_Ordered.j0]) ?_)
      unfold ordR
      rw [if_neg (by omega)]
      exact Ev.pos rfl (Ev.now _)
    · exact Ev.neg d (ordered_j0 l hl a b (by omega))
  · rw [if_neg c]
    exact Ev.neg c (Ev.now _)
theorem ordF_val (l0 : List (List Int)) (l : List S38) (h0 : l0.length ≤ 1000000) (hl : l.length ≤ 1000000) (a b : Int) : durable_Ordered.f l0 l a b = some (if checkE l0 l = 0 then ordR l a b else (false, checkE l0 l)) := by
  unfold durable_Ordered.f
  obtain ⟨e, hv⟩ := after_iv l0 l
  rw [if_pos ⟨h0, hl⟩, e]
  by_cases c : checkE l0 l = 0
  · rw [if_neg (show ¬ checkE l0 l ≠ 0 from fun q => q c), if_pos c]
    obtain ⟨ids, iv⟩ := hv c
    rw [odF_of l a b iv.own]
    unfold ordR
    by_cases q : 0 ≤ subN 1 l a l.length ∧ 0 ≤ subN 1 l b l.length
    · rw [if_pos q, if_pos ⟨decide_eq_true q.1, decide_eq_true q.2⟩]
      congr 2
      show (if 0 ≤ subN 1 l b l.length then flA l a (subN 1 l b l.length).toNat else false) = _
      rw [if_pos q.2]
      have h1 := subN_lt 1 l b l.length
      have h2 := subN_lt 2 l a l.length
      by_cases d : 0 ≤ subN 2 l a l.length
      · rw [if_pos d]
        exact flA_hasF l a (subN 2 l a l.length).toNat (subN 1 l b l.length).toNat (by omega) (by omega)
      · rw [if_neg d]
        cases f : flA l a (subN 1 l b l.length).toNat with
        | false => rfl
        | true =>
          obtain ⟨i, q1, q2, q3⟩ := (flA_iff l a _).1 f
          have := subN_mono 2 l a i (l.length - i) q3
          rw [show i + (l.length - i) = l.length by omega] at this
          omega
    · rw [if_neg q, if_neg (by simpa using q)]
  · rw [if_pos (show checkE l0 l ≠ 0 from c), if_neg c]
end Go.Proofs.Ytghmkmpgfpkfmaa.X
