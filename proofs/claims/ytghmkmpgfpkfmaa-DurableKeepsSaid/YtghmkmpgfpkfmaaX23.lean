/- The contract of the laws' example: it is true, and nothing that was there is changed. -/
import Derived.Test.YtghmkmpgfpkfmaaDw0
namespace Go.Proofs.Ytghmkmpgfpkfmaa.X
open Go.RowKit Go.Proofs.YtghmkmpgfpkfmaaW.PrintWords Go.Proofs.YtghmkmpgfpkfmaaW.PrintLast Go.Proofs.YtghmkmpgfpkfmaaW.PrintMore
set_option linter.unusedVariables false
def estoverslaw11_awake.f (k : Nat) : Option Bool := some true
theorem estoverslaw11_awake.mono (k : Nat) : LeO (estoverslaw11_awake.f k) (estoverslaw11_awake.f (k + 1)) := LeO.refl _
theorem awakeP_true : awakeP.f 40 = some true := by kernel_rfl
theorem estoverslaw11_awake.calls (k : Nat) (r : Bool) (w : World) (h : estoverslaw11_awake.f k = some r) : Calls Try.prog 13 #[] w fun e w' => e = .returned (.bool r) ∧ Below w.heap.size w w' := by
  obtain rfl := Option.some.inj h
  exact awakeP.calls1 40 true w rfl awakeP_true
end Go.Proofs.Ytghmkmpgfpkfmaa.X
