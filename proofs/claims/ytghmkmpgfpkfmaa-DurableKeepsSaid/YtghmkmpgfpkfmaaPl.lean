/- Plain laws of chapter 11: the history by the reference, and the state that the program keeps. -/
import Derived.Test.YtghmkmpgfpkfmaaX27
import Derived.Test.YtghmkmpgfpkfmaaX2
import Derived.Test.YtghmkmpgfpkfmaaD2
namespace Go.Proofs.Ytghmkmpgfpkfmaa.X
open Go.RowKit Go.Proofs.YtghmkmpgfpkfmaaW.PrintWords Go.Proofs.YtghmkmpgfpkfmaaW.PrintLast Go.Proofs.YtghmkmpgfpkfmaaW.PrintMore
set_option linter.unusedVariables false
set_option linter.unusedSimpArgs false

theorem pl_wrap (i : Nat) (h : i ≤ 1000000) : wrap64 ((i : Int) + 1) = ((i + 1 : Nat) : Int) := by unfold wrap64; omega
theorem rd38 (l : List S38) (i : Nat) (h : i < l.length) : rd_T38 l i = l[i] := by
  unfold rd_T38; rw [List.getD_eq_getElem?_getD, Int.toNat_natCast, List.getElem?_eq_getElem h]; rfl
theorem Ev.to {α : Type} {f : Nat → Option α} {r r' : α} (h : r' = r) (k : Ev f r) : Ev f r' := h ▸ k
/-- The place of the first event of a kind with an id among the first n, or -1. -/
def subN (kd : Int) (l : List S38) (id : Int) : Nat → Int
  | 0 => -1
  | n + 1 => if 0 ≤ subN kd l id n then subN kd l id n else if n < l.length ∧ (rd_T38 l n).f0 = kd ∧ (rd_T38 l n).f1 = id then n else -1
theorem subN_lt (kd : Int) (l : List S38) (id : Int) : ∀ n, subN kd l id n < n ∧ -1 ≤ subN kd l id n
  | 0 => by unfold subN; omega
  | n + 1 => by
    have := subN_lt kd l id n
    unfold subN
    split
    · omega
    · split <;> omega
theorem subN_at (kd : Int) (l : List S38) (id : Int) : ∀ n, 0 ≤ subN kd l id n → ∃ i : Nat, subN kd l id n = i ∧ i < n ∧ i < l.length ∧ (rd_T38 l i).f0 = kd ∧ (rd_T38 l i).f1 = id
  | 0, h => by unfold subN at h; omega
  | n + 1, h => by
    unfold subN at h ⊢
    by_cases c : 0 ≤ subN kd l id n
    · rw [if_pos c]
      obtain ⟨i, a, b, d⟩ := subN_at kd l id n c
      exact ⟨i, a, by omega, d⟩
    · rw [if_neg c] at h ⊢
      split at h
      · rename_i q
        rw [if_pos q]
        exact ⟨n, rfl, by omega, q⟩
      · omega
theorem subN_of (kd : Int) (l : List S38) (id : Int) : ∀ (n i : Nat), i < n → i < l.length → (rd_T38 l i).f0 = kd → (rd_T38 l i).f1 = id → 0 ≤ subN kd l id n ∧ subN kd l id n ≤ i
  | 0, i, h, _, _, _ => by omega
  | n + 1, i, h, h1, h2, h3 => by
    unfold subN
    by_cases c : i < n
    · obtain ⟨a, b⟩ := subN_of kd l id n i c h1 h2 h3
      rw [if_pos a]; exact ⟨a, b⟩
    · obtain rfl : i = n := by omega
      by_cases d : 0 ≤ subN kd l id i
      · rw [if_pos d]; have := subN_lt kd l id i; omega
      · rw [if_neg d, if_pos ⟨h1, h2, h3⟩]; omega
/-- The first place from i on. -/
theorem subN_from (kd : Int) (l : List S38) (id : Int) : ∀ (d i : Nat), subN kd l id i = -1 → subN kd l id (i + d) = (if 0 ≤ subN kd l id (i + d) then subN kd l id (i + d) else -1) := by
  intro d i _
  split
  · rfl
  · have := subN_lt kd l id (i + d); omega
theorem subN_mono (kd : Int) (l : List S38) (id : Int) (n : Nat) : ∀ d, 0 ≤ subN kd l id n → subN kd l id (n + d) = subN kd l id n
  | 0, h => rfl
  | d + 1, h => by
    have ih := subN_mono kd l id n d h
    rw [show n + (d + 1) = (n + d) + 1 from rfl]
    rw [subN, if_pos (by rw [ih]; exact h), ih]
theorem sub_l0 (l : List S38) (id : Int) (n : Nat) (hn : n ≤ l.length) (hl : l.length ≤ 1000000) : ∀ (d i : Nat), i + d = n → subN 1 l id i = -1 → Ev (fun k => estoversref11_submitted.l0 k l n id i) (subN 1 l id n)
  | 0, i, h, h1 => by
    refine Ev.step (fun k => by rw [estoversref11_submitted.l0]) ?_
    obtain rfl : i = n := by omega
    rw [h1]
    exact Ev.neg (by omega) (Ev.now _)
  | d + 1, i, h, h1 => by
    refine Ev.step (fun k => by rw [estoversref11_submitted.l0]) ?_
    refine Ev.pos (by omega) (Ev.pos (by omega) (Ev.pos (by omega) ?_))
    have hs : subN 1 l id (i + 1) = if i < l.length ∧ (rd_T38 l i).f0 = 1 ∧ (rd_T38 l i).f1 = id then (i : Int) else -1 := by rw [subN, if_neg (by omega)]
    by_cases c : (rd_T38 l i).f0 = 1
    · by_cases e : (rd_T38 l i).f1 = id
      · refine Ev.pos c (Ev.pos e ?_)
        rw [if_pos ⟨by omega, c, e⟩] at hs
        have := subN_mono 1 l id (i + 1) d (by omega)
        rw [show i + 1 + d = n by omega, hs] at this
        rw [this]; exact Ev.now _
      · refine Ev.pos c (Ev.neg e ?_)
        rw [if_neg (fun h => e h.2.2)] at hs
        rw [pl_wrap i (by omega)]
        exact sub_l0 l id n hn hl d (i + 1) (by omega) hs
    · refine Ev.neg c ?_
      rw [if_neg (fun h => c h.2.1)] at hs
      rw [pl_wrap i (by omega)]
      exact sub_l0 l id n hn hl d (i + 1) (by omega) hs
theorem sub_ev (l : List S38) (id : Int) (n : Nat) (hn : n ≤ l.length) (hl : l.length ≤ 1000000) : Ev (fun k => estoversref11_submitted.f k l n id) (subN 1 l id n) := sub_l0 l id n hn hl n 0 (by omega) rfl
theorem com_l0 (l : List S38) (id : Int) (n : Nat) (hn : n ≤ l.length) (hl : l.length ≤ 1000000) : ∀ (d i : Nat), i + d = n → subN 2 l id i = -1 → Ev (fun k => estoversref11_completed.l0 k l n id i) (subN 2 l id n)
  | 0, i, h, h1 => by
    refine Ev.step (fun k => by rw [estoversref11_completed.l0]) ?_
    obtain rfl : i = n := by omega
    rw [h1]
    exact Ev.neg (by omega) (Ev.now _)
  | d + 1, i, h, h1 => by
    refine Ev.step (fun k => by rw [estoversref11_completed.l0]) ?_
    refine Ev.pos (by omega) (Ev.pos (by omega) (Ev.pos (by omega) ?_))
    have hs : subN 2 l id (i + 1) = if i < l.length ∧ (rd_T38 l i).f0 = 2 ∧ (rd_T38 l i).f1 = id then (i : Int) else -1 := by rw [subN, if_neg (by omega)]
    by_cases c : (rd_T38 l i).f0 = 2
    · by_cases e : (rd_T38 l i).f1 = id
      · refine Ev.pos c (Ev.pos e ?_)
        rw [if_pos ⟨by omega, c, e⟩] at hs
        have := subN_mono 2 l id (i + 1) d (by omega)
        rw [show i + 1 + d = n by omega, hs] at this
        rw [this]; exact Ev.now _
      · refine Ev.pos c (Ev.neg e ?_)
        rw [if_neg (fun h => e h.2.2)] at hs
        rw [pl_wrap i (by omega)]
        exact com_l0 l id n hn hl d (i + 1) (by omega) hs
    · refine Ev.neg c ?_
      rw [if_neg (fun h => c h.2.1)] at hs
      rw [pl_wrap i (by omega)]
      exact com_l0 l id n hn hl d (i + 1) (by omega) hs
theorem com_ev (l : List S38) (id : Int) (n : Nat) (hn : n ≤ l.length) (hl : l.length ≤ 1000000) : Ev (fun k => estoversref11_completed.f k l n id) (subN 2 l id n) := com_l0 l id n hn hl n 0 (by omega) rfl

/-- The error of event i, by the reference. -/
def evE (N : Nat) (l : List S38) (i : Nat) : Int :=
  if (rd_T38 l i).f0 = 1 then (if (rd_T38 l i).f2 < 0 ∨ (N : Int) ≤ (rd_T38 l i).f2 then 2 else if ((rd_T38 l i).f3.length : Int) ≠ 32 then 3 else if 0 ≤ subN 1 l (rd_T38 l i).f1 i then 7 else 0)
  else if (rd_T38 l i).f0 = 2 then (if (rd_T38 l i).f2 ≠ 0 ∨ ((rd_T38 l i).f3.length : Int) ≠ 0 then 1 else if subN 1 l (rd_T38 l i).f1 i < 0 ∨ 0 ≤ subN 2 l (rd_T38 l i).f1 i then 6 else 0)
  else if (rd_T38 l i).f0 = 3 then (if (rd_T38 l i).f1 ≠ 0 ∨ (rd_T38 l i).f2 ≠ 0 ∨ ((rd_T38 l i).f3.length : Int) ≠ 0 then 1 else 0)
  else 1
theorem j0_ev (l : List S38) (i : Nat) (b : Bool) (a0 id a2 : Int) (d : List Int) (hi : i ≤ l.length) (hl : l.length ≤ 1000000) : Ev (fun k => estoversref11_event.j0 k l i b a0 id a2 d) (if b = true then 2 else if (d.length : Int) ≠ 32 then 3 else if 0 ≤ subN 1 l id i then 7 else 0) := by
  refine Ev.step (fun k => by rw [estoversref11_event.j0]) ?_
  by_cases c : b = true
  · rw [if_pos c]; exact Ev.pos c (Ev.now _)
  · rw [if_neg c]
    refine Ev.neg c ?_
    by_cases e : (d.length : Int) = 32
    · rw [if_neg (by simpa using e)]
      refine Ev.pos e (Ev.bind (sub_ev l id i hi hl) ?_)
      by_cases f : 0 ≤ subN 1 l id i
      · exact Ev.to (if_pos f) (Ev.pos f (Ev.now _))
      · exact Ev.to (if_neg f) (Ev.neg f (Ev.now _))
    · rw [if_pos e]; exact Ev.neg e (Ev.now _)
theorem j1_ev (l : List S38) (i : Nat) (b : Bool) (a0 id a2 : Int) (d : List Int) (hi : i ≤ l.length) (hl : l.length ≤ 1000000) : Ev (fun k => estoversref11_event.j1 k l i b a0 id a2 d) (if b = true then 1 else if subN 1 l id i < 0 ∨ 0 ≤ subN 2 l id i then 6 else 0) := by
  refine Ev.step (fun k => by rw [estoversref11_event.j1]) ?_
  by_cases c : b = true
  · rw [if_pos c]; exact Ev.pos c (Ev.now _)
  · rw [if_neg c]
    refine Ev.neg c (Ev.bind (sub_ev l id i hi hl) ?_)
    by_cases e : subN 1 l id i < 0
    · exact Ev.to (if_pos (Or.inl e)) (Ev.pos e (Ev.now _))
    · refine Ev.neg e (Ev.bind (com_ev l id i hi hl) ?_)
      by_cases f : 0 ≤ subN 2 l id i
      · exact Ev.to (if_pos (Or.inr f)) (Ev.pos f (Ev.now _))
      · exact Ev.to (if_neg (fun h => Or.elim h e f)) (Ev.neg f (Ev.now _))
theorem event_ev (l0 : List (List Int)) (l : List S38) (i : Nat) (hi : i < l.length) (hl : l.length ≤ 1000000) : Ev (fun k => estoversref11_event.f k l0 l i) (evE l0.length l i) := by
  unfold estoversref11_event.f evE
  refine Ev.pos (by omega) (Ev.pos (by omega) ?_)
  generalize rd_T38 l i = x
  by_cases c1 : x.f0 = 1
  · refine Ev.to (if_pos c1) (Ev.pos c1 ?_)
    by_cases c2 : x.f2 < 0
    · refine (Ev.pos c2 (Ev.to ?_ (j0_ev l i true x.f0 x.f1 x.f2 x.f3 (by omega) hl)))
      rw [if_pos (Or.inl c2), if_pos rfl]
    · refine (Ev.neg c2 (Ev.to ?_ (j0_ev l i (decide (x.f2 ≥ (l0.length : Int))) x.f0 x.f1 x.f2 x.f3 (by omega) hl)))
      by_cases c3 : (l0.length : Int) ≤ x.f2
      · rw [if_pos (Or.inr c3), if_pos (decide_eq_true c3)]
      · rw [if_neg (fun h => Or.elim h c2 c3), if_neg (show ¬ decide (x.f2 ≥ (l0.length : Int)) = true by simpa using c3)]
  · refine Ev.to (if_neg c1) (Ev.neg c1 ?_)
    by_cases c2 : x.f0 = 2
    · refine Ev.to (if_pos c2) (Ev.pos c2 ?_)
      by_cases c3 : x.f2 = 0
      · refine (Ev.pos c3 (Ev.to ?_ (j1_ev l i (decide ((x.f3.length : Int) > 0)) x.f0 x.f1 x.f2 x.f3 (by omega) hl)))
        by_cases c4 : (x.f3.length : Int) = 0
        · rw [if_neg (fun h => Or.elim h (fun h => h c3) (fun h => h c4)), if_neg (show ¬ decide ((x.f3.length : Int) > 0) = true by rw [c4]; decide)]
        · rw [if_pos (Or.inr c4), if_pos (decide_eq_true (by omega))]
      · refine (Ev.neg c3 (Ev.to ?_ (j1_ev l i true x.f0 x.f1 x.f2 x.f3 (by omega) hl)))
        rw [if_pos (Or.inl c3), if_pos rfl]
    · refine Ev.to (if_neg c2) (Ev.neg c2 ?_)
      by_cases c3 : x.f0 = 3
      · refine Ev.to (if_pos c3) (Ev.pos c3 ?_)
        by_cases d1 : x.f1 = 0
        · refine (Ev.pos d1 ?_)
          by_cases d2 : x.f2 = 0
          · refine (Ev.pos d2 ?_)
            by_cases d3 : (x.f3.length : Int) = 0
            · exact Ev.to (if_neg (fun h => Or.elim h (fun h => h d1) (fun h => Or.elim h (fun h => h d2) (fun h => h d3)))) (Ev.neg (by omega) (Ev.now _))
            · exact Ev.to (if_pos (Or.inr (Or.inr d3))) (Ev.pos (by omega) (Ev.now _))
          · exact Ev.to (if_pos (Or.inr (Or.inl d2))) (Ev.neg d2 (Ev.now _))
        · exact Ev.to (if_pos (Or.inl d1)) (Ev.neg d1 (Ev.now _))
      · exact Ev.to (if_neg c3) (Ev.neg c3 (Ev.now _))
/-- The first error among the d events from i on. -/
def chkE (N : Nat) (l : List S38) : Nat → Nat → Int
  | 0, _ => 0
  | d + 1, i => if evE N l i ≠ 0 then evE N l i else chkE N l d (i + 1)
theorem check_l1 (l0 : List (List Int)) (l : List S38) (hl : l.length ≤ 1000000) : ∀ (d i : Nat), i + d = l.length → Ev (fun k => estoversref11_Check.l1 k l0 l i) (chkE l0.length l d i)
  | 0, i, h => by
    refine Ev.step (fun k => by rw [estoversref11_Check.l1]) ?_
    exact Ev.neg (by omega) (Ev.now _)
  | d + 1, i, h => by
    refine Ev.step (fun k => by rw [estoversref11_Check.l1]) ?_
    refine Ev.pos (by omega) (Ev.bind (event_ev l0 l i (by omega) hl) ?_)
    rw [chkE]
    by_cases c : evE l0.length l i = 0
    · refine Ev.to (if_neg (fun h => h c)) (Ev.pos c ?_)
      rw [pl_wrap i (by omega)]
      exact check_l1 l0 l hl d (i + 1) (by omega)
    · exact Ev.to (if_pos c) (Ev.neg c (Ev.now _))
def checkE (l0 : List (List Int)) (l : List S38) : Int := if l0.any badL = true then 3 else chkE l0.length l l.length 0
theorem rdL1 (l : List (List Int)) (i : Nat) (h : i < l.length) : rd_L1 l i = l[i] := by
  unfold rd_L1; rw [List.getD_eq_getElem?_getD, Int.toNat_natCast, List.getElem?_eq_getElem h]; rfl
theorem check_l0 (l0 : List (List Int)) (l : List S38) (h0 : l0.length ≤ 1000000) (hl : l.length ≤ 1000000) : ∀ (d i : Nat), i + d = l0.length → Ev (fun k => estoversref11_Check.l0 k l0 l i) (if (l0.drop i).any badL = true then 3 else chkE l0.length l l.length 0)
  | 0, i, h => by
    refine Ev.step (fun k => by rw [estoversref11_Check.l0]) ?_
    rw [List.drop_of_length_le (by omega), if_neg (by simp)]
    exact Ev.neg (by omega) (check_l1 l0 l hl l.length 0 (by omega))
  | d + 1, i, h => by
    refine Ev.step (fun k => by rw [estoversref11_Check.l0]) ?_
    have hd : l0.drop i = l0[i] :: l0.drop (i + 1) := List.drop_eq_getElem_cons (by omega)
    have hr := rdL1 l0 i (by omega)
    refine Ev.pos (by omega) (Ev.pos (by omega) ?_)
    rw [hr, hd, List.any_cons]
    by_cases c : ((l0[i]).length : Int) = 32
    · refine Ev.pos c ?_
      rw [pl_wrap i (by omega)]
      have e : badL l0[i] = false := by unfold badL; rw [c]; rfl
      rw [e, Bool.false_or]
      exact check_l0 l0 l h0 hl d (i + 1) (by omega)
    · have e : badL l0[i] = true := by unfold badL; exact bne_iff_ne.2 c
      refine Ev.to (if_pos ?_) (Ev.neg c (Ev.now _))
      rw [e, Bool.true_or]
theorem check_ev (l0 : List (List Int)) (l : List S38) (h0 : l0.length ≤ 1000000) (hl : l.length ≤ 1000000) : Ev (fun k => estoversref11_Check.f k l0 l) (checkE l0 l) := by
  exact check_l0 l0 l h0 hl l0.length 0 (by omega)
end Go.Proofs.Ytghmkmpgfpkfmaa.X
