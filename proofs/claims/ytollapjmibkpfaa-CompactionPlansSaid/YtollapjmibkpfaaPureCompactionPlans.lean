/- The plain statement of CompactionPlans. -/
import Derived.Test.YtollapjmibkpfaaPb
import Derived.Test.YtollapjmibkpfaaGd
import Derived.Test.YtollapjmibkpfaaX25
import Derived.Test.YtollapjmibkpfaaRd
namespace Go.Proofs.Ytollapjmibkpfaa.Pure
open Go.RowKit Go.Proofs.Ytollapjmibkpfaa.X Go.Proofs.YtollapjmibkpfaaW.PrintWords
theorem next_any (l : List Int) : ∃ r, Ev (fun k => compaction_Next.f k l) r ∧ Ev (fun k => estoversref40_Next.f k l) r := by
  by_cases hk : chk l = 0
  · exact ⟨_, next_ev l hk, refNext_ev l hk⟩
  · refine ⟨(0, 0, false), ?_, ?_⟩
    · unfold compaction_Next.f; exact Ev.bind (check_ev l) (Ev.neg hk (Ev.now _))
    · unfold estoversref40_Next.f; exact Ev.bind (refCheck_ev l) (Ev.neg hk (Ev.now _))
theorem CompactionPlans : ∀ (l0 : List (Int)), (Gl (fun n : Int => (Lit.int .i64 n).wf = true) l0) → ∃ k, estoverslaw40_CompactionPlans.f k l0 = some true := by
  intro l _
  refine Ev.rounds ?_
  unfold estoverslaw40_CompactionPlans.f
  refine Ev.had (x := true) rfl (Ev.pos rfl (Ev.had (x := decide ((l.length : Int) ≤ 80)) rfl ?_))
  refine Ev.step (fun k => by rw [estoverslaw40_CompactionPlans.j0]) ?_
  by_cases h : (l.length : Int) ≤ 80
  · refine Ev.neg (by simpa using h) ?_
    obtain ⟨r, h1, h2⟩ := next_any l
    refine Ev.bind h1 (Ev.bind h2 (Ev.bind (plan_ev l) (Ev.had (x := planF l) rfl (Ev.pos (by simp) (Ev.pos (by simp) (Ev.pos rfl (Ev.bind (sameMoves_ev _ ?_) (Ev.pos rfl (Ev.bind (check_ev l) (Ev.bind (refCheck_ev l) (by rw [beq_self_eq_true]; exact Ev.now _)))))))))))
    unfold planF
    split
    · have := planL_len (l.length + 1) l; simp only; omega
    · simp
  · exact Ev.pos (by simpa using h) (Ev.now _)
end Go.Proofs.Ytollapjmibkpfaa.Pure
