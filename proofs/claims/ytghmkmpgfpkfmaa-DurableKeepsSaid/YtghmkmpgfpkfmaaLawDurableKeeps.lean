/- The law DurableKeeps: for every input the call returns true, and the arguments read as before. No condition. -/
import Derived.Test.YtghmkmpgfpkfmaaRows
import Derived.Test.YtghmkmpgfpkfmaaPureDurableKeeps
import Derived.Test.YtghmkmpgfpkfmaaRd
import Derived.WalkKit
import Derived.ProofKit
import Derived.OpenShut
import Derived.ShutString
import Derived.ChangeOld
import Derived.Below
import Derived.SizedLaws
namespace Go.Proofs.Ytghmkmpgfpkfmaa.durableKeeps
open Go.ChangeShapes Go.WideShapes Go.ChangeAt Go.RowKit Go.Proofs.Ytghmkmpgfpkfmaa.X Go.Proofs.YtghmkmpgfpkfmaaW.PrintWords
open Go.ChangeMaps (open_string shut_string)
set_option linter.unusedVariables false
theorem own : ownKnob Try.prog.godebug = none := by kernel_rfl
theorem laidOut : laidOutB Try.prog = true := by kernel_rfl
set_option maxRecDepth 100000 in
theorem lifted (os : Os) (started : os.Started) (H : Type) (enc : TypeId × Value → H) :
    ReturnsInHanded {} Try.checked os 9 .any (Rows.durableKeepsSpec.pre6 enc Try.prog Try.f9 Rows.durableKeepsRow.domain false) (Rows.durableKeepsSpec.post enc Try.prog Try.f9 false true false false) := by
  refine returnsInHanded_of_change_sized (C := Try.checked) own started (by kernel_rfl) Try.func9
    (ChangeSpec.witness6 (enc := enc) (C := Try.checked) false ⟨#[], #[.agg #[.slice none 0 0, .slice none 0 0]], []⟩ 8 (by kernel_rfl) (by kernel_rfl) (by kernel_rfl) (by kernel_rfl)) ?_
  intro W base args ds gs before hval0 hW hcnd hsz0 _
  have hval : ∀ (j : Nat) t v, Try.f9.params[j]? = some t → args[j]? = some v → Value.okWide Try.prog W .any base t v := hval0
  have hW' := hW
  obtain ⟨p, q, hA0, hV, rfl, hfz, hnd⟩ := hW
  have hA : DataW.TrodAll enc Try.prog W 0 (fun _ => true) true Try.f9.params.toList args.toList ds p := hA0
  rw [Try.params9] at hA hval
  obtain ⟨v0, vs0, d0, ds0, p0, q0, hargs, rfl, rfl, h0, r0⟩ := trodAll_cons hA
  obtain ⟨rfl, rfl, rfl⟩ := trodAll_nil r0
  obtain rfl : args = #[v0] := by cases args; simp_all
  obtain ⟨rfl, rfl⟩ := trodVars_none hV
  obtain ⟨cs0, rfl, hz0⟩ := okWide_struct Try.underlying25 (hval 0 25 v0 rfl rfl)
  have k0 := h0
  have lt0 : ∀ x ∈ p0, x.block < W.heap.size := by obtain ⟨m, hm⟩ := k0; exact DataW.trod_lt m _ _ _ hm
  obtain ⟨m0, hm0⟩ := h0
  obtain ⟨s0, K0, w0⟩ := rdb_S25 H enc W m0 _ _ hm0
  obtain ⟨cs0⟩ := cs0
  obtain ⟨A00, c00, A01, c01, e00, l00, g00, l01, g01⟩ := k25_open K0
  obtain rfl : cs0 = [.slice A00 s0.f0.length c00, .slice A01 s0.f1.length c01] := by simpa [Value.cells] using e00
  clear hA0 hval0 hsz0
  obtain ⟨k, hk⟩ := Pure.DurableKeeps s0 w0
  refine (estoverslaw11_DurableKeeps.calls k _ _ s0.f0 _ _ s0.f1 true W g00 l00 g01 l01 hk).mono fun e W' ⟨he, bel⟩ => ?_
  subst he
  exact ⟨_, rfl, _, _, _, [], _, [], hW', trodAll_mk1 (shut_bool Try.underlying4 _), (trodAll_cons_mk (Below.trod laidOut (by kernel_rfl) (of_decide_eq_true (by kernel_rfl)) k0 bel lt0) trodAll_mk0), rfl, bel.frame _, fun h => by cases h⟩
theorem over : Rows.durableKeepsRow.holds Try.pinned (OpenSpec.ofChange Rows.durableKeepsSpec) :=
  OpenClaim.holds_of_wide 9 Try.f9 rfl rfl rfl rfl rfl rfl rfl ⟨rfl, rfl, rfl, rfl, rfl⟩ rfl rfl rfl rfl rfl (by kernel_rfl) Try.func9 (by kernel_rfl)
    (of_decide_eq_true (by kernel_rfl)) (by unfold Func.isWrapper; first | (rw [if_pos (by decide +kernel)]; kernel_rfl) | (rw [if_neg (by decide +kernel)]; exact ⟨rfl, rfl⟩))
    (fun os started H enc _ => lifted os started H enc)
theorem proved : Rows.DurableKeepsSaid := over
#print axioms proved
end Go.Proofs.Ytghmkmpgfpkfmaa.durableKeeps
namespace Go.Proofs.Ytghmkmpgfpkfmaa
/-- The row, under a short name, for the claim. -/
theorem durableKeeps_holds : Rows.DurableKeepsSaid := durableKeeps.proved
end Go.Proofs.Ytghmkmpgfpkfmaa
