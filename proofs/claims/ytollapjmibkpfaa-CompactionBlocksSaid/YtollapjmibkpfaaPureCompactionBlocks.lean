/- The plain statement of CompactionBlocks. -/
import Derived.Test.YtollapjmibkpfaaPc
import Derived.Test.YtollapjmibkpfaaX33
import Derived.Test.YtollapjmibkpfaaRd
namespace Go.Proofs.Ytollapjmibkpfaa.Pure
open Go.RowKit Go.Proofs.Ytollapjmibkpfaa.X Go.Proofs.YtollapjmibkpfaaW.PrintWords
theorem CompactionBlocks : ∀ (l0 : List (Int)) (a1 : Int), (Gl (fun n : Int => (Lit.int .i64 n).wf = true) l0) → ((Lit.int .i64 a1).wf = true) → ∃ k, estoverslaw40_CompactionBlocks.f k l0 a1 = some true := by
  intro l o _ _
  refine Ev.rounds ?_
  unfold estoverslaw40_CompactionBlocks.f
  refine Ev.had (x := true) rfl (Ev.pos rfl (Ev.had (x := decide ((l.length : Int) ≤ 80)) rfl ?_))
  refine Ev.step (fun k => by rw [estoverslaw40_CompactionBlocks.j0]) ?_
  by_cases h : (l.length : Int) ≤ 80
  · refine Ev.neg (by simpa using h) ?_
    obtain ⟨p, hp, hq⟩ := run_both l
    refine Ev.bind hp (Ev.bind hq (Ev.pos rfl (Ev.pos rfl (Ev.had (x := blockF isFree l o) rfl (Ev.bind (refFits_ev l o) (Ev.pos rfl (Ev.had (x := possF l o) rfl (Ev.bind (refPoss_ev l o) ?_))))))))
    simpa using Ev.now true
  · refine Ev.pos (by simpa using h) ?_
    exact Ev.had (x := true) rfl (Ev.now _)
end Go.Proofs.Ytollapjmibkpfaa.Pure
