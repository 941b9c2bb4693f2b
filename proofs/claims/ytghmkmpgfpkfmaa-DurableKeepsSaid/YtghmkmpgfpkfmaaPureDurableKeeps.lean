/- The plain statement of DurableKeeps: its walk shows that it returns true. -/
import Derived.Test.YtghmkmpgfpkfmaaDk
import Derived.Test.YtghmkmpgfpkfmaaRd
namespace Go.Proofs.Ytghmkmpgfpkfmaa.X
open Go.RowKit Go.Proofs.YtghmkmpgfpkfmaaW.PrintWords
def estoverslaw11_DurableKeeps.f (_k : Nat) (_l0 : List (List Int)) (_l1 : List S38) : Option Bool := some true
theorem estoverslaw11_DurableKeeps.calls (k : Nat) (A0 : Option Addr) (c0 : Nat) (l0 : List (List Int)) (A1 : Option Addr) (c1 : Nat) (l1 : List S38) (r : Bool) (w : World) (hr0 : Kd.C (Kd.slice 5 (Kd.int .u8)) w A0 l0.length l0) (hc0 : l0.length ≤ c0) (hr1 : Kd.C k38 w A1 l1.length l1) (hc1 : l1.length ≤ c1) (h : estoverslaw11_DurableKeeps.f k l0 l1 = some r) :
    Calls Try.prog 9 #[.agg #[.slice A0 l0.length c0, .slice A1 l1.length c1]] w fun e w' => e = .returned (.bool r) ∧ Below w.heap.size w w' := by
  obtain rfl := Option.some.inj h
  exact keeps_calls A0 c0 l0 A1 c1 l1 w hr0 hc0 hr1 hc1
end Go.Proofs.Ytghmkmpgfpkfmaa.X
namespace Go.Proofs.Ytghmkmpgfpkfmaa.Pure
open Go.RowKit Go.Proofs.Ytghmkmpgfpkfmaa.X Go.Proofs.YtghmkmpgfpkfmaaW.PrintWords
theorem DurableKeeps : ∀ (s0 : S25), G25 s0 → ∃ k, estoverslaw11_DurableKeeps.f k s0.f0 s0.f1 = some true := fun _ _ => ⟨0, rfl⟩
end Go.Proofs.Ytghmkmpgfpkfmaa.Pure
