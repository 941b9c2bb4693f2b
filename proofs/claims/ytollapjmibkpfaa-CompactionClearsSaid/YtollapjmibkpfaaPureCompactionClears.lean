/- The plain statement of CompactionClears. -/
import Derived.Test.YtollapjmibkpfaaPd
import Derived.Test.YtollapjmibkpfaaX35
import Derived.Test.YtollapjmibkpfaaRd
namespace Go.Proofs.Ytollapjmibkpfaa.Pure
open Go.RowKit Go.Proofs.Ytollapjmibkpfaa.X Go.Proofs.YtollapjmibkpfaaW.PrintWords
theorem CompactionClears : ∀ (l0 : List (Int)) (a1 : Int) (a2 : Int), (Gl (fun n : Int => (Lit.int .i64 n).wf = true) l0) → ((Lit.int .i64 a1).wf = true) → ((Lit.int .i64 a2).wf = true) → ∃ k, estoverslaw40_CompactionClears.f k l0 a1 a2 = some true := by
  intro l a b _ _ _
  refine Ev.rounds ?_
  unfold estoverslaw40_CompactionClears.f
  refine Ev.had (x := true) rfl (Ev.pos rfl (Ev.had (x := decide ((l.length : Int) ≤ 80)) rfl ?_))
  refine Ev.step (fun k => by rw [estoverslaw40_CompactionClears.j0]) ?_
  by_cases h : (l.length : Int) ≤ 80
  · refine Ev.neg (by simpa using h) ?_
    exact Ev.bind (clear_ev l a b) (Ev.bind (refClear_ev l a b) (Ev.pos rfl (Ev.bind (sameMoves_ev _ (by have := clearF_len l a b; omega)) (Ev.now _))))
  · refine Ev.pos (by simpa using h) ?_
    exact Ev.had (x := true) rfl (Ev.now _)
end Go.Proofs.Ytollapjmibkpfaa.Pure
