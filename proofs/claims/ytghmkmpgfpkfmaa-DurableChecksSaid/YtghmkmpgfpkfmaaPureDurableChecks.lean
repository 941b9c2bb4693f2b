/- The plain statement of DurableChecks. -/
import Derived.Test.YtghmkmpgfpkfmaaPn
import Derived.Test.YtghmkmpgfpkfmaaX28
import Derived.Test.YtghmkmpgfpkfmaaRd
namespace Go.Proofs.Ytghmkmpgfpkfmaa.Pure
open Go.RowKit Go.Proofs.Ytghmkmpgfpkfmaa.X Go.Proofs.YtghmkmpgfpkfmaaW.PrintWords
theorem DurableChecks : ∀ (s0 : S25), G25 s0 → ∃ k, estoverslaw11_DurableChecks.f k s0.f0 s0.f1 = some true := by
  rintro ⟨l0, l1⟩ _
  refine Ev.rounds ?_
  show Ev (fun k => estoverslaw11_DurableChecks.f k l0 l1) true
  unfold estoverslaw11_DurableChecks.f
  obtain ⟨b, hb, hs⟩ := small_ev l0 l1
  refine Ev.bind hb ?_
  cases b with
  | false => exact Ev.neg (by decide) awake_some
  | true =>
    obtain ⟨h0, h1⟩ := hs rfl
    refine Ev.pos rfl (Ev.had (x := (afterL l0 l1).1) (by unfold durable_Check.f; rw [if_pos ⟨by omega, by omega⟩]) (Ev.bind (check_ev l0 l1 (by omega) (by omega)) (Ev.pos (after_iv l0 l1).1 awake_some)))
end Go.Proofs.Ytghmkmpgfpkfmaa.Pure
