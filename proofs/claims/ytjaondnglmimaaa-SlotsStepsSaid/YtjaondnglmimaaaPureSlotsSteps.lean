/- The plain statement of SlotsSteps. -/
import Derived.Test.YtjaondnglmimaaaPn
import Derived.Test.YtjaondnglmimaaaX9
namespace Go.Proofs.Ytjaondnglmimaaa.X
open Go.RowKit Go.Proofs.YtjaondnglmimaaaW.PrintWords
theorem steps_l0 (ops : List S34) (ho : ops.length ≤ 1000) : ∀ (d i : Nat) (l : List S41), l.length ≤ 1000 → ops.length - i = d → i ≤ ops.length → Ev (fun k => estoverslaw32_SlotsSteps.l0 k l ops (ops.length : Int) i) true
  | 0, i, l, hl, h0, h1 => by
    refine Ev.step (fun k => by rw [estoverslaw32_SlotsSteps.l0]) ?_
    exact Ev.neg (by omega) (Ev.now _)
  | d + 1, i, l, hl, h0, h1 => by
    have key : ∀ (w : List S41) (x e : Int) (p : Bool), w.length ≤ l.length → Ev (fun k => estoverslaw32_SlotsSteps.j3 k l w w x x e e p p ops (ops.length : Int) i) true := by
      intro w x e p hw
      refine Ev.step (fun k => by rw [estoverslaw32_SlotsSteps.j3]) ?_
      refine Ev.pos rfl (Ev.pos rfl (Ev.neg (by simp) (Ev.bind (same_ev w (by omega)) ?_)))
      refine Ev.step (fun k => by rw [estoverslaw32_SlotsSteps.j4]) ?_
      refine Ev.neg (by simp) ?_
      rw [wrap_nat i (by omega)]
      by_cases he : e = 0
      · exact Ev.pos he (steps_l0 ops ho d (i + 1) w (by omega) (by omega) (by omega))
      · exact Ev.neg he (steps_l0 ops ho d (i + 1) l hl (by omega) (by omega))
    refine Ev.step (fun k => by rw [estoverslaw32_SlotsSteps.l0]) ?_
    refine Ev.pos (by omega) (Ev.pos (by omega) (Ev.pos (by omega) ?_))
    generalize rd_T34 ops i = o
    have j2T : ∀ q : Bool, q = true → Ev (fun k => estoverslaw32_SlotsSteps.j2 k l 0 0 false false ops (ops.length : Int) i o.f0 q o.f0 o.f1 o.f2) true := by
      intro q hq
      refine Ev.step (fun k => by rw [estoverslaw32_SlotsSteps.j2]) ?_
      exact Ev.pos hq (Ev.had (x := ((wth l o.f1 (dropF (o.f0 == 3))).1, drops l o.f1 (o.f0 == 3), (wth l o.f1 (dropF (o.f0 == 3))).2)) rfl (Ev.bind (refDrop_ev l o.f1 (o.f0 == 3)) (key _ _ _ _ (wth_len _ _ _))))
    have j2F : ∀ q : Bool, q = false → Ev (fun k => estoverslaw32_SlotsSteps.j2 k l 0 0 false false ops (ops.length : Int) i o.f0 q o.f0 o.f1 o.f2) true := by
      intro q hq
      refine Ev.step (fun k => by rw [estoverslaw32_SlotsSteps.j2]) ?_
      refine Ev.neg (by simp [hq]) ?_
      by_cases h4 : o.f0 = 4
      · exact Ev.pos h4 (Ev.had (x := wth l o.f1 relF) rfl (Ev.bind (refRelease_ev l o.f1) (key _ _ _ _ (wth_len _ _ _))))
      · exact Ev.neg h4 (Ev.had (x := wth l o.f1 (plcF o.f2)) rfl (Ev.bind (refPlace_ev l o.f1 o.f2) (key _ _ _ _ (wth_len _ _ _))))
    by_cases h0 : o.f0 = 0
    · exact Ev.pos h0 (Ev.had (x := allocF l) rfl (Ev.bind (refAlloc_ev l) (key _ _ _ _ (allocF_len l))))
    · refine Ev.neg h0 ?_
      by_cases h1' : o.f0 = 1
      · exact Ev.pos h1' (Ev.had (x := wth l o.f1 dupF) rfl (Ev.bind (refDup_ev l o.f1) (key _ _ _ _ (wth_len _ _ _))))
      · refine Ev.neg h1' ?_
        by_cases h2 : o.f0 = 2
        · exact Ev.pos h2 (j2T _ (by simp [h2]))
        · refine Ev.neg h2 ?_
          by_cases h3 : o.f0 = 3
          · exact j2T _ (by simp [h3])
          · exact j2F _ (by simp [h3])
end Go.Proofs.Ytjaondnglmimaaa.X
namespace Go.Proofs.Ytjaondnglmimaaa.Pure
open Go.RowKit Go.Proofs.Ytjaondnglmimaaa.X Go.Proofs.YtjaondnglmimaaaW.PrintWords
theorem SlotsSteps : ∀ (l0 : List (S41)) (l1 : List (S34)), (Gl G41 l0) → (Gl G34 l1) → ∃ k, estoverslaw32_SlotsSteps.f k l0 l1 = some true := by
  intro l ops _ _
  refine Ev.rounds ?_
  unfold estoverslaw32_SlotsSteps.f
  refine Ev.bind awake_ev (Ev.pos rfl ?_)
  have jT : ∀ q : Bool, q = true → Ev (fun k => estoverslaw32_SlotsSteps.j0 k l ops q) true := by
    intro q hq
    refine Ev.step (fun k => by rw [estoverslaw32_SlotsSteps.j0]) ?_
    exact Ev.pos hq (Ev.bind awake_ev (Ev.now _))
  by_cases h : (l.length : Int) > 100
  · exact Ev.pos h (jT _ rfl)
  · refine Ev.neg h ?_
    by_cases h2 : (ops.length : Int) > 40
    · exact jT _ (by simpa using h2)
    · refine Ev.step (fun k => by rw [estoverslaw32_SlotsSteps.j0]) ?_
      exact Ev.neg (by simpa using h2) (steps_l0 ops (by omega) ops.length 0 l (by omega) (by omega) (by omega))
end Go.Proofs.Ytjaondnglmimaaa.Pure
