/- The plain statement of DurableOrders. -/
import Derived.Test.YtghmkmpgfpkfmaaPo
import Derived.Test.YtghmkmpgfpkfmaaX39
import Derived.Test.YtghmkmpgfpkfmaaRd
namespace Go.Proofs.Ytghmkmpgfpkfmaa.Pure
open Go.RowKit Go.Proofs.Ytghmkmpgfpkfmaa.X Go.Proofs.YtghmkmpgfpkfmaaW.PrintWords
theorem DurableOrders : ∀ (s0 : S25) (a1 : Int) (a2 : Int), G25 s0 → (Lit.int .i64 a1).wf = true → (Lit.int .i64 a2).wf = true → ∃ k, estoverslaw11_DurableOrders.f k s0.f0 s0.f1 a1 a2 = some true := by
  rintro ⟨l0, l1⟩ a b _ _ _
  refine Ev.rounds ?_
  show Ev (fun k => estoverslaw11_DurableOrders.f k l0 l1 a b) true
  unfold estoverslaw11_DurableOrders.f
  obtain ⟨c, hc, hs⟩ := small_ev l0 l1
  refine Ev.bind hc ?_
  cases c with
  | false => exact Ev.neg (by decide) awake_some
  | true =>
    obtain ⟨h0, h1⟩ := hs rfl
    refine Ev.pos rfl (Ev.had (ordF_val l0 l1 (by omega) (by omega) a b) (Ev.bind (ordered_ev l0 l1 (by omega) (by omega) a b) ?_))
    exact Ev.pos (beq_self_eq_true _) (Ev.pos rfl awake_some)
end Go.Proofs.Ytghmkmpgfpkfmaa.Pure
