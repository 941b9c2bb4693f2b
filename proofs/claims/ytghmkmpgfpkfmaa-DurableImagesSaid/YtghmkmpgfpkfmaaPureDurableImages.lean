/- The plain statement of DurableImages. -/
import Derived.Test.YtghmkmpgfpkfmaaPu
import Derived.Test.YtghmkmpgfpkfmaaX37
import Derived.Test.YtghmkmpgfpkfmaaRd
namespace Go.Proofs.Ytghmkmpgfpkfmaa.X
open Go.RowKit Go.Proofs.YtghmkmpgfpkfmaaW.PrintWords
set_option linter.unusedVariables false
theorem imgs_l0 (xs : List (List (List Int))) (hx : xs.length ≤ 64) (hm : ∀ im ∈ xs, im.length ≤ 1000000) : ∀ (d i : Nat), i + d = xs.length → Ev (fun k => estoverslaw11_DurableImages.l0 k xs xs i) true
  | 0, i, e => by
    refine Ev.step (fun k => by rw [estoverslaw11_DurableImages.l0]) ?_
    exact Ev.neg (by omega) awake_some
  | d + 1, i, e => by
    refine Ev.step (fun k => by rw [estoverslaw11_DurableImages.l0]) ?_
    rw [rdL4 xs i (by omega)]
    refine Ev.pos (by omega) (Ev.pos (by omega) (Ev.pos (by omega) (Ev.bind (same_ev _ (hm _ (List.getElem_mem _))) (Ev.pos rfl ?_))))
    rw [pl_wrap i (by omega)]
    exact imgs_l0 xs hx hm d (i + 1) (by omega)
end Go.Proofs.Ytghmkmpgfpkfmaa.X
namespace Go.Proofs.Ytghmkmpgfpkfmaa.Pure
open Go.RowKit Go.Proofs.Ytghmkmpgfpkfmaa.X Go.Proofs.YtghmkmpgfpkfmaaW.PrintWords
theorem DurableImages : ∀ (s0 : S25), G25 s0 → ∃ k, estoverslaw11_DurableImages.f k s0.f0 s0.f1 = some true := by
  rintro ⟨l0, l1⟩ _
  refine Ev.rounds ?_
  show Ev (fun k => estoverslaw11_DurableImages.f k l0 l1) true
  unfold estoverslaw11_DurableImages.f
  obtain ⟨c, hc, hs⟩ := small_ev l0 l1
  refine Ev.bind hc ?_
  cases c with
  | false => exact Ev.neg (by decide) awake_some
  | true =>
    obtain ⟨h0, h1⟩ := hs rfl
    refine Ev.pos rfl (Ev.had (images_val l0 l1 (by omega) (by omega)) (Ev.bind (images_ev l0 l1 (by omega) (by omega)) (Ev.pos rfl (Ev.step (fun k => by rw [estoverslaw11_DurableImages.j0]) ?_))))
    obtain ⟨a, b⟩ := imgA_len l0 l1
    refine Ev.neg (by simp) ?_
    exact imgs_l0 _ a (fun im h => by rw [b im h]; omega) (imgA l0 l1).1.length 0 (by omega)
end Go.Proofs.Ytghmkmpgfpkfmaa.Pure
