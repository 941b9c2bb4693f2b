/- The contract of the law's example: it is true, and nothing that was there is changed. -/
import Derived.Test.YtollapjmibkpfaaGe0
namespace Go.Proofs.Ytollapjmibkpfaa.X
open Go.RowKit Go.Proofs.YtollapjmibkpfaaW.PrintWords Go.Proofs.YtollapjmibkpfaaW.PrintLast Go.Proofs.YtollapjmibkpfaaW.PrintMore
set_option linter.unusedVariables false
def estoverslaw40_awake.f : Option Bool := some true
theorem awakeP_true : awakeP.f 40 = some true := by kernel_rfl
theorem estoverslaw40_awake.calls (r : Bool) (w : World) (h : estoverslaw40_awake.f = some r) : Calls Try.prog 11 #[] w fun e w' => e = .returned (.bool r) ∧ Below w.heap.size w w' := by
  obtain rfl := Option.some.inj h
  exact awakeP.calls1 40 true w rfl awakeP_true
end Go.Proofs.Ytollapjmibkpfaa.X
