/- The plain statement of SlotsChecks. -/
import Derived.Test.YtjaondnglmimaaaPl
import Derived.Test.YtjaondnglmimaaaRd
namespace Go.Proofs.Ytjaondnglmimaaa.Pure
open Go.RowKit Go.Proofs.Ytjaondnglmimaaa.X Go.Proofs.YtjaondnglmimaaaW.PrintWords
theorem SlotsChecks : ∀ (l0 : List S41) (a1 : Int) (a2 : Int), (Gl G41 l0) → (Lit.int .i64 a1).wf = true → (Lit.int .i64 a2).wf = true → ∃ k, estoverslaw32_SlotsChecks.f k l0 a1 a2 = some true := by
  intro l a n _ _ _
  refine Ev.rounds ?_
  unfold estoverslaw32_SlotsChecks.f
  refine Ev.bind awake_ev (Ev.pos rfl ?_)
  refine Ev.step (fun k => by rw [estoverslaw32_SlotsChecks.j0]) ?_
  by_cases h : (l.length : Int) > 100
  · exact Ev.pos (by simpa using h) (Ev.bind awake_ev (Ev.now _))
  · refine Ev.neg (by simpa using h) (Ev.had (sNew_eq n) (Ev.bind (refNew_ev n) (Ev.pos rfl (Ev.bind (same_ev _ ?_) (Ev.pos rfl ?_)))))
    · unfold newF; split
      · simp
      · simp; omega
    · exact Ev.had (x := chk l) rfl (Ev.bind (refCheck_ev l) (Ev.pos rfl (Ev.bind (sUsed_ev l) (Ev.bind (refUsed_ev l) (Ev.pos rfl (Ev.had (sIsFree_eq l a) (Ev.bind (refIsFree_ev l a) (by rw [beq_self_eq_true]; exact Ev.now _))))))))
end Go.Proofs.Ytjaondnglmimaaa.Pure
