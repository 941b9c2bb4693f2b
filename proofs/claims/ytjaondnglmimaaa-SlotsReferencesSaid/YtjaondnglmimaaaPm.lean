/- Plain laws of chapter 32: what operations do to valid lists. -/
import Derived.Test.YtjaondnglmimaaaPl
import Derived.Test.YtjaondnglmimaaaRd
namespace Go.Proofs.Ytjaondnglmimaaa.X
open Go.RowKit Go.Proofs.YtjaondnglmimaaaW.PrintWords Go.Proofs.YtjaondnglmimaaaW.PrintLast Go.Proofs.YtjaondnglmimaaaW.PrintMore
set_option linter.unusedVariables false
set_option linter.unusedSimpArgs false

theorem rd_nat (l : List S41) (i : Nat) (h : i < l.length) : rd_T41 l i = l[i] := by unfold rd_T41; simp [List.getD_eq_getElem?_getD, h]
theorem rd_int (l : List S41) (a : Int) (h0 : 0 ≤ a) (h : a < l.length) : rd_T41 l a = l[a.toNat]'(by omega) := by
  have := rd_nat l a.toNat (by omega)
  rwa [show ((a.toNat : Nat) : Int) = a from by omega] at this
theorem rd_set_same (l : List S41) (a : Int) (x : S41) (h0 : 0 ≤ a) (h : a < l.length) : rd_T41 (l.set a.toNat x) a = x := by
  rw [rd_int _ a h0 (by simpa using h)]; simp
theorem rd_set_other (l : List S41) (a b : Int) (x : S41) (hb : 0 ≤ b) (h0 : 0 ≤ a) (h : a ≠ b) : rd_T41 (l.set a.toNat x) b = rd_T41 l b := by
  unfold rd_T41
  rw [List.getD_eq_getElem?_getD, List.getD_eq_getElem?_getD, List.getElem?_set_ne (by omega)]
theorem chk_zero (l : List S41) : chk l = 0 ↔ l.length ≤ 64 ∧ (∀ x ∈ l, bad x = false) ∧ (∀ x ∈ l, lone x = false) := by
  unfold chk
  constructor
  · intro h
    split at h
    · simp at h
    · split at h
      · simp at h
      · split at h
        · simp at h
        · rename_i h1 h2 h3
          refine ⟨by omega, fun x hx => ?_, fun x hx => ?_⟩
          · cases e : bad x with
            | false => rfl
            | true => exact absurd (List.any_eq_true.2 ⟨x, hx, e⟩) h2
          · cases e : lone x with
            | false => rfl
            | true => exact absurd (List.any_eq_true.2 ⟨x, hx, e⟩) h3
  · rintro ⟨h1, h2, h3⟩
    rw [if_neg (by omega), if_neg, if_neg]
    · intro h; obtain ⟨x, hx, e⟩ := List.any_eq_true.1 h; rw [h3 x hx] at e; cases e
    · intro h; obtain ⟨x, hx, e⟩ := List.any_eq_true.1 h; rw [h2 x hx] at e; cases e
theorem chk_set {l : List S41} (h : chk l = 0) (i : Nat) (x : S41) (h1 : bad x = false) (h2 : lone x = false) : chk (l.set i x) = 0 := by
  obtain ⟨a, b, c⟩ := (chk_zero l).1 h
  refine (chk_zero _).2 ⟨by simpa using a, fun y hy => ?_, fun y hy => ?_⟩
  · rcases List.mem_or_eq_of_mem_set hy with hy | rfl
    · exact b y hy
    · exact h1
  · rcases List.mem_or_eq_of_mem_set hy with hy | rfl
    · exact c y hy
    · exact h2
theorem chk_at {l : List S41} (h : chk l = 0) (a : Int) (h0 : 0 ≤ a) (h1 : a < l.length) : bad (rd_T41 l a) = false ∧ lone (rd_T41 l a) = false := by
  obtain ⟨_, b, c⟩ := (chk_zero l).1 h
  rw [rd_int l a h0 h1]
  exact ⟨b _ (List.getElem_mem _), c _ (List.getElem_mem _)⟩
theorem free_zero {x : S41} (h : lone x = false) (h0 : x.f0 = 0) : x = ⟨0, 0⟩ := by
  obtain ⟨a, b⟩ := x
  unfold lone at h
  simp at h h0
  subst h0
  simp [h rfl]
/-- The place of the first free slot. -/
theorem idxFrom_at (p : S41 → Bool) : ∀ (l : List S41) (k : Nat) (i : Nat), idxFrom p l k = (i : Int) → k ≤ i ∧ ∃ h : i - k < l.length, p (l[i - k]'h) = true ∧ ∀ j (hj : j < i - k), p (l[j]'(by omega)) = false
  | [], k, i, h => by simp [idxFrom] at h
  | x :: l, k, i, h => by
    simp only [idxFrom] at h
    by_cases hp : p x = true
    · rw [if_pos hp] at h
      have : i = k := by omega
      subst this
      exact ⟨Nat.le_refl _, by simp, by simpa using hp, fun j hj => by omega⟩
    · rw [if_neg hp] at h
      obtain ⟨h1, h2, h3, h4⟩ := idxFrom_at p l (k + 1) i (by simpa using h)
      refine ⟨by omega, by simp; omega, ?_, fun j hj => ?_⟩
      · have e : i - k = (i - (k + 1)) + 1 := by omega
        simp only [e, List.getElem_cons_succ]; exact h3
      · cases j with
        | zero => simpa using hp
        | succ j => simpa using h4 j (by omega)
theorem idx_at (p : S41 → Bool) (l : List S41) (h : 0 ≤ idx p l) : 0 ≤ idx p l ∧ idx p l < l.length ∧ p (rd_T41 l (idx p l)) = true := by
  have hb := idx_lt p l
  refine ⟨h, by omega, ?_⟩
  obtain ⟨_, h2, h3, _⟩ := idxFrom_at p l 0 (idx p l).toNat (by unfold idx at *; simp; omega)
  rw [rd_int l _ h (by omega)]
  simpa using h3
theorem allocF_ok (l : List S41) (h : (allocF l).2.2 = 0) : chk l = 0 ∧ 0 ≤ idx freeS l ∧ idx freeS l < l.length ∧ (rd_T41 l (idx freeS l)) = ⟨0, 0⟩ ∧ allocF l = (l.set (idx freeS l).toNat ⟨1, 0⟩, idx freeS l, 0) := by
  unfold allocF at h ⊢
  by_cases h1 : chk l = 0
  · rw [if_neg (by simp [h1])] at h ⊢
    by_cases h2 : idx freeS l < 0
    · rw [if_pos h2] at h; simp at h
    · rw [if_neg h2] at h ⊢
      obtain ⟨a, b, c⟩ := idx_at freeS l (by omega)
      exact ⟨h1, a, b, free_zero (chk_at h1 _ a b).2 (by simpa [freeS] using c), rfl⟩
  · rw [if_pos h1] at h; exact absurd h h1
theorem allocF_no (l : List S41) (h : (allocF l).2.2 ≠ 0) : (allocF l).1 = [] := by
  unfold allocF at h ⊢
  by_cases h1 : chk l = 0
  · rw [if_neg (by simp [h1])] at h ⊢
    by_cases h2 : idx freeS l < 0
    · rw [if_pos h2]
    · rw [if_neg h2] at h; simp at h
  · rw [if_pos h1]
theorem wth_ok (l : List S41) (a : Int) (F : S41 → Int × S41) (h : (wth l a F).2 = 0) : chk l = 0 ∧ here l a = true ∧ (F (rd_T41 l a)).1 = 0 ∧ wth l a F = (l.set a.toNat (F (rd_T41 l a)).2, 0) := by
  unfold wth at h ⊢
  by_cases h1 : chk l = 0
  · rw [if_neg (by simp [h1])] at h ⊢
    by_cases h2 : here l a = false
    · rw [if_pos h2] at h; simp at h
    · rw [if_neg h2] at h ⊢
      by_cases h3 : (F (rd_T41 l a)).1 = 0
      · rw [if_neg (by simp [h3])]
        exact ⟨h1, by simpa using h2, h3, rfl⟩
      · rw [if_pos h3] at h; exact absurd h h3
  · rw [if_pos h1] at h; exact absurd h h1
theorem wth_no (l : List S41) (a : Int) (F : S41 → Int × S41) (h : (wth l a F).2 ≠ 0) : (wth l a F).1 = [] := by
  unfold wth at h ⊢
  by_cases h1 : chk l = 0
  · rw [if_neg (by simp [h1])] at h ⊢
    by_cases h2 : here l a = false
    · rw [if_pos h2]
    · rw [if_neg h2] at h ⊢
      by_cases h3 : (F (rd_T41 l a)).1 = 0
      · rw [if_neg (by simp [h3])] at h; simp at h
      · rw [if_pos h3]
  · rw [if_pos h1]
theorem wth_yes (l : List S41) (a : Int) (F : S41 → Int × S41) (h1 : chk l = 0) (h2 : here l a = true) (h3 : (F (rd_T41 l a)).1 = 0) : wth l a F = (l.set a.toNat (F (rd_T41 l a)).2, 0) := by
  unfold wth; rw [if_neg (by simp [h1]), if_neg (by simp [h2]), if_neg (by simp [h3])]
theorem set_back (l : List S41) (a : Int) (x : S41) (h0 : 0 ≤ a) (h : a < l.length) (e : rd_T41 l a = x) : l.set a.toNat x = l := by
  subst e
  rw [rd_int l a h0 h]
  exact List.set_getElem_self _
end Go.Proofs.Ytjaondnglmimaaa.X
