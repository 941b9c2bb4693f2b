/- The plain statement of SlotsFull. -/
import Derived.Test.YtjaondnglmimaaaPm
import Derived.Test.YtjaondnglmimaaaX7
namespace Go.Proofs.Ytjaondnglmimaaa.X
open Go.RowKit Go.Proofs.YtjaondnglmimaaaW.PrintWords
def mid (n i : Nat) : List S41 := List.replicate i (⟨1, 0⟩ : S41) ++ List.replicate (n - i) z41
theorem mid_chk (n i : Nat) (hn : n ≤ 64) (hi : i ≤ n) : chk (mid n i) = 0 := by
  refine (chk_zero _).2 ⟨by unfold mid; simp; omega, fun x hx => ?_, fun x hx => ?_⟩
  · unfold mid at hx; rcases List.mem_append.1 hx with hx | hx <;> obtain ⟨_, rfl⟩ := List.mem_replicate.1 hx <;> rfl
  · unfold mid at hx; rcases List.mem_append.1 hx with hx | hx <;> obtain ⟨_, rfl⟩ := List.mem_replicate.1 hx <;> rfl
theorem mid_idx (n i : Nat) (hi : i ≤ n) : ∀ (j : Nat) (k : Int), idxFrom freeS (List.replicate j (⟨1, 0⟩ : S41) ++ List.replicate (n - i) z41) k = if i < n then k + j else -1
  | 0, k => by
    by_cases h : i < n
    · rw [if_pos h]
      obtain ⟨m, hm⟩ : ∃ m, n - i = m + 1 := ⟨n - i - 1, by omega⟩
      rw [hm, List.replicate_succ]
      simp [idxFrom, freeS, z41]
    · rw [if_neg h, show n - i = 0 from by omega]; simp [idxFrom]
  | j + 1, k => by
    rw [List.replicate_succ, List.cons_append, idxFrom, if_neg (by simp [freeS]), mid_idx n i hi j (k + 1)]
    split <;> omega
theorem mid_cnt (n i : Nat) : ∀ j : Nat, cnt (List.replicate j (⟨1, 0⟩ : S41) ++ List.replicate (n - i) z41) = j
  | 0 => by
    simp only [List.replicate_zero, List.nil_append]
    generalize n - i = m
    induction m with
    | zero => rfl
    | succ m ih => rw [List.replicate_succ, cnt, ih]; simp [z41]
  | j + 1 => by rw [List.replicate_succ, List.cons_append, cnt, mid_cnt n i j]; simp; omega
theorem mid_set (n i : Nat) (hi : i < n) : (mid n i).set i ⟨1, 0⟩ = mid n (i + 1) := by
  unfold mid
  obtain ⟨m, hm⟩ : ∃ m, n - i = m + 1 := ⟨n - i - 1, by omega⟩
  rw [hm, show n - (i + 1) = m from by omega, List.set_append_right _ _ (by simp), List.replicate_succ (n := m)]
  simp [List.replicate_succ', List.append_assoc]
theorem full_l0 (n : Nat) (hn : n ≤ 64) : ∀ (d i : Nat), n - i = d → i ≤ n → Ev (fun k => estoverslaw32_SlotsFull.l0 k (mid n i) n i) true
  | 0, i, h0, h1 => by
    have e : i = n := by omega
    have hx : idx freeS (mid n i) = -1 := by unfold idx mid; rw [mid_idx n i h1 i 0, if_neg (by omega)]
    have ha : allocF (mid n i) = ([], 0, 8) := by unfold allocF; rw [if_neg (by simp [mid_chk n i hn h1]), hx, if_pos (by omega)]
    refine Ev.step (fun k => by rw [estoverslaw32_SlotsFull.l0]) ?_
    exact Ev.neg (by omega) (Ev.had (x := ([], 0, 8)) (by unfold slots_Alloc.f; rw [ha]) (Ev.now _))
  | d + 1, i, h0, h1 => by
    have hx : idx freeS (mid n i) = i := by unfold idx mid; rw [mid_idx n i h1 i 0, if_pos (by omega)]; simp
    have ha : allocF (mid n i) = (mid n (i + 1), (i : Int), (0 : Int)) := by
      unfold allocF; rw [if_neg (by simp [mid_chk n i hn h1]), hx, if_neg (by omega)]
      simp [mid_set n i (by omega)]
    have hu : usd (mid n (i + 1)) = ((i + 1 : Nat) : Int) := by
      unfold usd; rw [if_pos (mid_chk n (i + 1) hn (by omega))]
      exact mid_cnt n (i + 1) (i + 1)
    refine Ev.step (fun k => by rw [estoverslaw32_SlotsFull.l0]) ?_
    refine Ev.pos (by omega) (Ev.had (x := (mid n (i + 1), (i : Int), (0 : Int))) (by unfold slots_Alloc.f; rw [ha]) (Ev.pos rfl (Ev.pos rfl (Ev.bind (sUsed_ev _) (Ev.pos ?_ ?_)))))
    · rw [hu, wrap_nat i (by omega)]
    · rw [wrap_nat i (by omega)]
      exact full_l0 n hn d (i + 1) (by omega) (by omega)
end Go.Proofs.Ytjaondnglmimaaa.X
namespace Go.Proofs.Ytjaondnglmimaaa.Pure
open Go.RowKit Go.Proofs.Ytjaondnglmimaaa.X Go.Proofs.YtjaondnglmimaaaW.PrintWords
theorem SlotsFull : ∀ (a0 : Int), (Lit.int .u8 a0).wf = true → ∃ k, estoverslaw32_SlotsFull.f k a0 = some true := by
  intro a hw
  have hb : 0 ≤ a ∧ a ≤ 255 := by simpa [Lit.wf, IntKind.min, IntKind.max, IntKind.signed, IntKind.bits] using hw
  refine Ev.rounds ?_
  unfold estoverslaw32_SlotsFull.f
  refine Ev.bind awake_ev (Ev.pos rfl ?_)
  obtain ⟨n, hn, hn1⟩ : ∃ n : Nat, Int.tmod (wrap64 a) 65 = n ∧ n ≤ 64 := by
    rw [show wrap64 a = a from by unfold wrap64; omega, Int.tmod_eq_emod_of_nonneg hb.1]
    exact ⟨(a % 65).toNat, by omega, by omega⟩
  rw [hn]
  have hN : newF (n : Int) = (mid n 0, 0) := by unfold newF mid; rw [if_neg (by omega)]; simp
  have hu : usd (mid n 0) = 0 := by unfold usd; rw [if_pos (mid_chk n 0 hn1 (by omega))]; exact mid_cnt n 0 0
  refine Ev.had (x := (mid n 0, 0)) (by rw [sNew_eq, hN]) (Ev.pos rfl (Ev.bind (sUsed_ev _) ?_))
  rw [hu]
  refine Ev.step (fun k => by rw [estoverslaw32_SlotsFull.j0]) ?_
  exact Ev.neg (by simp) (full_l0 n hn1 n 0 (by omega) (by omega))
end Go.Proofs.Ytjaondnglmimaaa.Pure
