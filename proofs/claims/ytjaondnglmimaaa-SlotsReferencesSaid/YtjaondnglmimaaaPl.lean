/- Plain laws of chapter 32: what the printed functions of the reference come to. -/
import Derived.Test.YtjaondnglmimaaaX2
import Derived.Test.YtjaondnglmimaaaX3
import Derived.Test.YtjaondnglmimaaaX4
import Derived.Test.YtjaondnglmimaaaX5
namespace Go.Proofs.Ytjaondnglmimaaa.X
open Go.RowKit Go.Proofs.YtjaondnglmimaaaW.PrintWords Go.Proofs.YtjaondnglmimaaaW.PrintLast Go.Proofs.YtjaondnglmimaaaW.PrintMore
set_option linter.unusedVariables false
set_option linter.unusedSimpArgs false

theorem Ev.pos {α : Type} {c : Prop} [Decidable c] {f g : Nat → Option α} {r : α} (h : c) (k : Ev f r) : Ev (fun n => if c then f n else g n) r := Ev.congr (fun n => by rw [if_pos h]) k
theorem Ev.neg {α : Type} {c : Prop} [Decidable c] {f g : Nat → Option α} {r : α} (h : ¬ c) (k : Ev g r) : Ev (fun n => if c then f n else g n) r := Ev.congr (fun n => by rw [if_neg h]) k
theorem Ev.had {α β : Type} {a : Option α} {x : α} {f : Nat → α → Option β} {r : β} (h : a = some x) (k : Ev (fun n => f n x) r) : Ev (fun n => a.bind (f n)) r := Ev.congr (fun n => by rw [h, Option.bind_some]) k
theorem wrap_nat (i : Nat) (h : i ≤ 1000000) : wrap64 ((i : Int) + 1) = ((i + 1 : Nat) : Int) := by unfold wrap64; omega
theorem wrap_id (x : Int) (h0 : -1000000000 ≤ x) (h1 : x ≤ 1000000000) : wrap64 x = x := by unfold wrap64; omega

theorem same_l0 (l : List S41) (hl : l.length ≤ 1000) : ∀ (d k i : Nat), l.length - i = d → i ≤ l.length → d < k → estoversref32_Same.l0 k l l i = some true
  | d, 0, i, _, _, h => absurd h (by omega)
  | 0, k + 1, i, h0, h1, _ => by
    simp only [estoversref32_Same.l0]
    rw [if_neg (by omega)]
  | d + 1, k + 1, i, h0, h1, h2 => by
    simp only [estoversref32_Same.l0]
    rw [if_pos (by omega), if_pos (by omega), if_pos (by omega), if_neg (by simp), wrap_nat i (by omega)]
    exact same_l0 l hl d k (i + 1) (by omega) (by omega) (by omega)
theorem same_ev (l : List S41) (hl : l.length ≤ 1000) : Ev (fun k => estoversref32_Same.f k l l) true :=
  Ev.of (fun k => estoversref32_Same.mono l l k) (k := l.length + 1) (by
    unfold estoversref32_Same.f; rw [if_pos rfl]
    exact same_l0 l hl l.length (l.length + 1) 0 (by omega) (by omega) (by omega))

theorem check_l1 (l : List S41) (hl : l.length ≤ 1000) : ∀ (d k i : Nat), l.length - i = d → i ≤ l.length → d < k → estoversref32_Check.l1 k l i = some (if (l.drop i).any lone = true then 11 else 0)
  | d, 0, i, _, _, h => absurd h (by omega)
  | 0, k + 1, i, h0, h1, _ => by
    simp only [estoversref32_Check.l1]
    rw [if_neg (by omega), List.drop_eq_nil_of_le (by omega)]; simp
  | d + 1, k + 1, i, h0, h1, h2 => by
    simp only [estoversref32_Check.l1]
    rw [if_pos (by omega), if_pos (by omega), any_drop lone l i (by omega), wrap_nat i (by omega)]
    have ih := check_l1 l hl d k (i + 1) (by omega) (by omega) (by omega)
    by_cases c : (rd_T41 l i).f0 = 0
    · rw [if_pos c]
      by_cases c1 : (rd_T41 l i).f1 = 0
      · rw [if_pos c1, ih]; simp [lone, c, c1]
      · rw [if_neg c1]; simp [lone, c, c1]
    · rw [if_neg c, ih]; simp [lone, c]
theorem check_l0 (l : List S41) (hl : l.length ≤ 1000) : ∀ (d k i : Nat), l.length - i = d → i ≤ l.length → d + l.length + 1 < k → estoversref32_Check.l0 k l i = some (if (l.drop i).any bad = true then 2 else if l.any lone = true then 11 else 0)
  | d, 0, i, _, _, h => absurd h (by omega)
  | 0, k + 1, i, h0, h1, _ => by
    simp only [estoversref32_Check.l0]
    rw [if_neg (by omega), List.drop_eq_nil_of_le (by omega)]
    have := check_l1 l hl l.length k 0 (by omega) (by omega) (by omega)
    simpa using this
  | d + 1, k + 1, i, h0, h1, h2 => by
    simp only [estoversref32_Check.l0]
    rw [if_pos (by omega), if_pos (by omega), any_drop bad l i (by omega), wrap_nat i (by omega)]
    have ih := check_l0 l hl d k (i + 1) (by omega) (by omega) (by omega)
    by_cases c0 : (rd_T41 l i).f0 < 0
    · rw [if_pos c0]; simp [bad, c0]
    · rw [if_neg c0]
      by_cases c1 : (rd_T41 l i).f0 > 3
      · rw [if_pos c1]; simp [bad, c1]
      · rw [if_neg c1]
        by_cases c2 : (rd_T41 l i).f1 < 0
        · rw [if_pos c2]; simp [bad, c2]
        · rw [if_neg c2]
          by_cases c3 : (rd_T41 l i).f1 > 1048576
          · rw [if_pos c3]; simp [bad, c3]
          · rw [if_neg c3, ih]
            have hb : bad (rd_T41 l i) = false := by unfold bad; simp; omega
            rw [hb]; simp
theorem refCheck_ev (l : List S41) : Ev (fun k => estoversref32_Check.f k l) (chk l) := by
  refine Ev.of (fun k => estoversref32_Check.mono l k) (k := 2 * l.length + 2) ?_
  unfold estoversref32_Check.f chk
  by_cases h : 64 < l.length
  · rw [if_pos (by omega), if_pos h]
  · rw [if_neg (by omega), if_neg h]
    have := check_l0 l (by omega) l.length (2 * l.length + 2) 0 (by omega) (by omega) (by omega)
    simpa using this

/-- The number of slots in use. -/
def cnt : List S41 → Int
  | [] => 0
  | x :: l => (if x.f0 = 0 then 0 else 1) + cnt l
theorem cnt_bd : ∀ l : List S41, 0 ≤ cnt l ∧ cnt l ≤ l.length
  | [] => ⟨by simp [cnt], by simp [cnt]⟩
  | x :: l => by have := cnt_bd l; unfold cnt; simp; split <;> omega
theorem cnt_drop (l : List S41) (k : Nat) (h : k < l.length) : cnt (l.drop k) = (if (rd_T41 l k).f0 = 0 then 0 else 1) + cnt (l.drop (k + 1)) := by
  have : rd_T41 l k = l[k] := by unfold rd_T41; simp [List.getD_eq_getElem?_getD, h]
  rw [this, List.drop_eq_getElem_cons h, cnt]
theorem used_l0 (l : List S41) (hl : l.length ≤ 1000) : ∀ (d k i : Nat) (n : Int), l.length - i = d → i ≤ l.length → d < k → 0 ≤ n → n ≤ i → estoversref32_Used.l0 k l n i = some (n + cnt (l.drop i))
  | d, 0, i, _, _, _, h, _, _ => absurd h (by omega)
  | 0, k + 1, i, n, h0, h1, _, _, _ => by
    simp only [estoversref32_Used.l0]
    rw [if_neg (by omega), List.drop_eq_nil_of_le (by omega)]; simp [cnt]
  | d + 1, k + 1, i, n, h0, h1, h2, h3, h4 => by
    simp only [estoversref32_Used.l0]
    rw [if_pos (by omega), if_pos (by omega), cnt_drop l i (by omega), wrap_nat i (by omega), wrap_id (n + 1) (by omega) (by omega)]
    by_cases c : (rd_T41 l i).f0 = 0
    · rw [if_pos c, if_pos c, used_l0 l hl d k (i + 1) n (by omega) (by omega) (by omega) h3 (by omega)]; simp
    · rw [if_neg c, if_neg c, used_l0 l hl d k (i + 1) (n + 1) (by omega) (by omega) (by omega) (by omega) (by omega)]; congr 1; omega
theorem sused_l0 (l : List S41) (hl : l.length ≤ 1000) : ∀ (d k i : Nat) (n : Int), l.length - i = d → i ≤ l.length → d < k → 0 ≤ n → n ≤ i → slots_Used.l0 k n l (l.length : Int) i = some (n + cnt (l.drop i))
  | d, 0, i, _, _, _, h, _, _ => absurd h (by omega)
  | 0, k + 1, i, n, h0, h1, _, _, _ => by
    simp only [slots_Used.l0]
    rw [if_neg (by omega), List.drop_eq_nil_of_le (by omega)]; simp [cnt]
  | d + 1, k + 1, i, n, h0, h1, h2, h3, h4 => by
    simp only [slots_Used.l0]
    rw [if_pos (by omega), if_pos (by omega), if_pos (by omega), cnt_drop l i (by omega), wrap_nat i (by omega), wrap_id (n + 1) (by omega) (by omega)]
    by_cases c : (rd_T41 l i).f0 = 0
    · rw [if_pos c, if_pos c, sused_l0 l hl d k (i + 1) n (by omega) (by omega) (by omega) h3 (by omega)]; simp
    · rw [if_neg c, if_neg c, sused_l0 l hl d k (i + 1) (n + 1) (by omega) (by omega) (by omega) (by omega) (by omega)]; congr 1; omega
/-- Used. -/
def usd (l : List S41) : Int := if chk l = 0 then cnt l else -1
theorem refUsed_ev (l : List S41) : Ev (fun k => estoversref32_Used.f k l) (usd l) := by
  unfold estoversref32_Used.f
  refine Ev.bind (refCheck_ev l) ?_
  unfold usd
  by_cases h : chk l = 0
  · rw [if_pos h]
    refine Ev.pos h ?_
    have hl := chk_len h
    refine Ev.of (fun k => (estoversref32_Used.mono_l k) _ _ _) (k := l.length + 1) ?_
    have := used_l0 l (by omega) l.length (l.length + 1) 0 0 (by omega) (by omega) (by omega) (by omega) (by omega)
    simpa using this
  · rw [if_neg h]; exact Ev.neg h (Ev.now _)
theorem sUsed_ev (l : List S41) : Ev (fun k => slots_Used.f k l) (usd l) := by
  unfold slots_Used.f slots_Check.f usd
  simp only [Option.bind_some]
  by_cases h : chk l = 0
  · rw [if_pos h]
    refine Ev.pos h ?_
    have hl := chk_len h
    refine Ev.of (fun k => (slots_Used.mono_l k) _ _ _ _) (k := l.length + 1) ?_
    have := sused_l0 l (by omega) l.length (l.length + 1) 0 0 (by omega) (by omega) (by omega) (by omega) (by omega)
    simpa using this
  · rw [if_neg h]; exact Ev.neg h (Ev.now _)
/-- IsFree. -/
def isf (l : List S41) (a : Int) : Bool := decide (chk l = 0) && decide (0 ≤ a) && decide (a < (l.length : Int)) && (rd_T41 l a).f0 == 0
theorem sIsFree_eq (l : List S41) (a : Int) : slots_IsFree.f l a = some (isf l a) := by
  unfold slots_IsFree.f slots_Check.f isf
  simp only [Option.bind_some]
  by_cases h : chk l = 0
  · rw [if_pos h]
    by_cases h1 : 0 ≤ a
    · rw [if_pos (by omega)]
      by_cases h2 : a < (l.length : Int)
      · rw [if_pos h2, if_pos h1]; simp [h, h1, h2]
      · rw [if_neg h2]; simp [h, h1, h2]
    · rw [if_neg (by omega)]; simp [h, h1]
  · rw [if_neg h]; simp [h]
theorem refIsFree_ev (l : List S41) (a : Int) : Ev (fun k => estoversref32_IsFree.f k l a) (isf l a) := by
  unfold estoversref32_IsFree.f
  refine Ev.bind (refCheck_ev l) ?_
  have h := sIsFree_eq l a
  unfold slots_IsFree.f slots_Check.f at h
  simp only [Option.bind_some] at h
  rw [h]; exact Ev.now _
/-- New. -/
def newF (n : Int) : List S41 × Int := if n < 0 ∨ 64 < n then ([], 2) else (List.replicate n.toNat z41, 0)
theorem sNew_eq (n : Int) : slots_New.f n = some (newF n) := by
  unfold slots_New.f newF
  by_cases h0 : n < 0
  · rw [if_pos h0, if_pos (.inl h0)]
  · rw [if_neg h0]
    by_cases h1 : n > 64
    · rw [if_pos h1, if_pos (.inr h1)]
    · rw [if_neg h1, if_pos (by omega), if_pos (by omega), if_neg (by omega)]
theorem refNew_l0 (n : Nat) (hn : n ≤ 64) : ∀ (d k i : Nat), n - i = d → i ≤ n → d < k → estoversref32_New.l0 k n (List.replicate i z41) i = some (List.replicate n z41, 0)
  | d, 0, i, _, _, h => absurd h (by omega)
  | 0, k + 1, i, h0, h1, _ => by
    simp only [estoversref32_New.l0]
    rw [if_neg (by omega), show i = n from by omega]
  | d + 1, k + 1, i, h0, h1, h2 => by
    simp only [estoversref32_New.l0]
    rw [if_pos (by omega), if_pos (by simp; omega), wrap_nat i (by omega), show List.replicate i z41 ++ [(⟨0, 0⟩ : S41)] = List.replicate (i + 1) z41 from List.replicate_succ'.symm]
    exact refNew_l0 n hn d k (i + 1) (by omega) (by omega) (by omega)
theorem refNew_ev (n : Int) : Ev (fun k => estoversref32_New.f k n) (newF n) := by
  refine Ev.of (fun k => estoversref32_New.mono n k) (k := n.toNat + 2) ?_
  unfold estoversref32_New.f newF
  by_cases h0 : n < 0
  · rw [if_pos h0, if_pos (.inl h0)]; simp only [estoversref32_New.j0]; rfl
  · rw [if_neg h0]
    simp only [estoversref32_New.j0]
    by_cases h1 : n > 64
    · rw [if_pos (by simpa using h1), if_pos (.inr h1)]
    · rw [if_neg (by simpa using h1), if_neg (by omega)]
      have := refNew_l0 n.toNat (by omega) n.toNat (n.toNat + 1) 0 (by omega) (by omega) (by omega)
      rw [show (n.toNat : Int) = n from by omega] at this
      simpa using this
theorem awake_ev : Ev (fun k => estoverslaw32_awake.f k) true := Ev.of (fun k => estoverslaw32_awake.mono k) (k := 10) (by kernel_rfl)

end Go.Proofs.Ytjaondnglmimaaa.X
