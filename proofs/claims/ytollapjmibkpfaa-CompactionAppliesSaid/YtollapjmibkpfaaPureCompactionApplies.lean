/- The plain statement of CompactionApplies. -/
import Derived.Test.YtollapjmibkpfaaPb
import Derived.Test.YtollapjmibkpfaaGd
import Derived.Test.YtollapjmibkpfaaX27
import Derived.Test.YtollapjmibkpfaaRd
namespace Go.Proofs.Ytollapjmibkpfaa.Pure
open Go.RowKit Go.Proofs.Ytollapjmibkpfaa.X Go.Proofs.YtollapjmibkpfaaW.PrintWords
theorem go_len2 : ∀ (l : List S26) (o : List Int), (go o l).1.length ≤ o.length
  | [], o => by simp [go]
  | m :: l, o => by
    unfold go
    split
    · split
      · have := go_len2 l ((o.set m.f0.toNat 0).set m.f1.toNat 1); simpa using this
      · simp
    · simp
theorem CompactionApplies : ∀ (l0 : List (Int)) (l1 : List (S26)), (Gl (fun n : Int => (Lit.int .i64 n).wf = true) l0) → (Gl G26 l1) → ∃ k, estoverslaw40_CompactionApplies.f k l0 l1 = some true := by
  intro l m _ _
  refine Ev.rounds ?_
  unfold estoverslaw40_CompactionApplies.f
  refine Ev.had (x := true) rfl (Ev.pos rfl (Ev.had (x := decide ((l.length : Int) ≤ 80)) rfl ?_))
  by_cases h : (l.length : Int) ≤ 80
  · refine Ev.pos (by simpa using h) ?_
    refine Ev.step (fun k => by rw [estoverslaw40_CompactionApplies.j0]) ?_
    by_cases h2 : (m.length : Int) > 80
    · exact Ev.pos (by simpa using h2) (Ev.now _)
    · refine Ev.neg (by simpa using h2) ?_
      refine Ev.had (x := applyF l m) rfl (Ev.had (x := applyF l m) rfl (Ev.pos rfl (Ev.bind (same_ev _ ?_) (Ev.now _))))
      unfold applyF
      split
      · have := go_len2 m l; omega
      · simp
  · refine Ev.neg (by simpa using h) ?_
    refine Ev.step (fun k => by rw [estoverslaw40_CompactionApplies.j0]) ?_
    exact Ev.pos rfl (Ev.now _)
end Go.Proofs.Ytollapjmibkpfaa.Pure
