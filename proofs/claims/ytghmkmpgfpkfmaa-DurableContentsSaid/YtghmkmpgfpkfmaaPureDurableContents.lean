/- The plain statement of DurableContents. -/
import Derived.Test.YtghmkmpgfpkfmaaPt
import Derived.Test.YtghmkmpgfpkfmaaX47
import Derived.Test.YtghmkmpgfpkfmaaRd
namespace Go.Proofs.Ytghmkmpgfpkfmaa.Pure
open Go.RowKit Go.Proofs.Ytghmkmpgfpkfmaa.X Go.Proofs.YtghmkmpgfpkfmaaW.PrintWords
theorem DurableContents : ∀ (s0 : S25) (a1 : Int), G25 s0 → (Lit.int .i64 a1).wf = true → ∃ k, estoverslaw11_DurableContents.f k s0.f0 s0.f1 a1 = some true := by
  rintro ⟨l0, l1⟩ a _ _
  refine Ev.rounds ?_
  show Ev (fun k => estoverslaw11_DurableContents.f k l0 l1 a) true
  unfold estoverslaw11_DurableContents.f
  obtain ⟨c, hc, hs⟩ := small_ev l0 l1
  refine Ev.bind hc ?_
  cases c with
  | false => exact Ev.neg (by decide) awake_some
  | true =>
    obtain ⟨h0, h1⟩ := hs rfl
    refine Ev.pos rfl (Ev.had (latest_val l0 l1 (by omega) (by omega)) (Ev.had (durable_val l0 l1 (by omega) (by omega)) (Ev.had (choices_val l0 l1 (by omega) (by omega) a) ?_)))
    refine Ev.bind (latest_ev l0 l1 (by omega) (by omega)) (Ev.bind (durable_ev l0 l1 (by omega) (by omega)) (Ev.bind (choices_ev l0 l1 (by omega) (by omega) a) ?_))
    have s1 : Ev (fun k => estoversref11_Same.f k (if checkE l0 l1 = 0 then (allN l0 l1 l1.length, (0 : Int)) else ([], checkE l0 l1)).1 (if checkE l0 l1 = 0 then (allN l0 l1 l1.length, (0 : Int)) else ([], checkE l0 l1)).1) true := same_ev _ (by split <;> simp [allN_len] <;> omega)
    have s2 : Ev (fun k => estoversref11_Same.f k (if checkE l0 l1 = 0 then (allN l0 l1 (flE l1 l1.length), (0 : Int)) else ([], checkE l0 l1)).1 (if checkE l0 l1 = 0 then (allN l0 l1 (flE l1 l1.length), (0 : Int)) else ([], checkE l0 l1)).1) true := same_ev _ (by split <;> simp [allN_len] <;> omega)
    have s3 : Ev (fun k => estoversref11_Same.f k (chA l0 l1 a).1 (chA l0 l1 a).1) true := same_ev _ (by
      unfold chA
      split
      · split
        · simp
        · have := chR_len l0 l1 a.toNat; show (chR l0 l1 a.toNat).length ≤ _; omega
      · simp)
    refine Ev.pos rfl (Ev.pos (by split <;> rfl) (Ev.pos rfl (Ev.bind s1 (Ev.pos rfl (Ev.bind s2 (Ev.pos rfl (Ev.bind s3 (Ev.pos rfl awake_some))))))))
end Go.Proofs.Ytghmkmpgfpkfmaa.Pure
