-- Written for this claim by a program of this session (wip/px.py) with the kit's print; the contracts of GIVEN functions are proved by hand.
import Derived.Test.YtollapjmibkpfaaX0
namespace Go.Proofs.Ytollapjmibkpfaa.X
open Go.RowKit Go.Proofs.YtollapjmibkpfaaW.PrintWords Go.Proofs.YtollapjmibkpfaaW.PrintLast Go.Proofs.YtollapjmibkpfaaW.PrintMore
attribute [local go_sem] max2_int min2_int max_two min_two max_three min_three max_four min_four   -- for this text's walks alone
set_option linter.unusedVariables false
set_option linter.unusedSimpArgs false

/-! ### estoverslaw40_few: function 12 -/
def estoverslaw40_few.f (l0 : List Int) : Option (Bool) := some (decide ((l0.length : Int) ≤ 80))
set_option maxHeartbeats 8000000 in
set_option maxRecDepth 100000 in
theorem estoverslaw40_few.calls (A0 : Option Addr) (c0 : Nat) (l0 : List Int) (r : Bool) (w : World) (hr0 : Kd.C (Kd.int .i64) w A0 l0.length l0) (hc0 : l0.length ≤ c0) (h : estoverslaw40_few.f l0 = some r) :
    Calls Try.prog 12 #[.slice A0 l0.length c0] w fun e w' => e = .returned (.bool r) ∧ Drawn0 w w' := by
  have HR0 := Aside0.mk hr0
  have HC0 := Aside0.mk hc0
  clear hr0 hc0
  have H : (some (decide ((l0.length : Int) ≤ 80))) = some r := h
  clear h
  obtain rfl := Option.some.inj H
  go_enter Try.func12, Try.ntmps12
  go_wp2
  go_ret
  exact ⟨by first | rfl | (simp; done) | (simp [*]; done), by repeat (first | exact Drawn0.refl _ | apply Drawn0.step)⟩

end Go.Proofs.Ytollapjmibkpfaa.X
