/- Arrays of three whole numbers are equal when all three are. -/
import Derived.Test.YtollapjmibkpfaaX0
import Derived.ChangeKeysEq
namespace Go.Proofs.Ytollapjmibkpfaa.X
open Go.RowKit Go.Proofs.YtollapjmibkpfaaW.PrintWords Go.Proofs.YtollapjmibkpfaaW.PrintLast Go.Proofs.YtollapjmibkpfaaW.PrintMore
set_option linter.unusedVariables false
set_option linter.unusedSimpArgs false
theorem eqA44 (d : Nat) (w : World) (x0 y0 : Int) (x1 y1 : Int) (x2 y2 : Int) :
    (Op.equalIn (d + 2) 44 (.agg #[.int .i64 x0, .int .i64 x1, .int .i64 x2]) (.agg #[.int .i64 y0, .int .i64 y1, .int .i64 y2])).run Try.prog w = .ok (x0 == y0 && (x1 == y1 && (x2 == y2))) w := by
  obtain ⟨i3, hi3, _, _, _⟩ := info_parts info3
  rw [show d + 2 = (d + 1) + 1 from rfl, run_equalIn_array (P := Try.prog) (w := w) (d + 1) _ _ Try.underlying44 hi3]
  have e : Try.prog.cellsOf 3 = 1 := by kernel_rfl
  rw [e, show List.range 3 = [0, 1, 2] from rfl]
  have step : ∀ (i : Nat) (is : List Nat) (xs ys : Array Value) (a b : Int) (r : Bool), (part 3 xs i).run Try.prog w = .ok (.int .i64 a) w → (part 3 ys i).run Try.prog w = .ok (.int .i64 b) w → (Op.eqItems (d + 1) 3 1 xs ys is).run Try.prog w = .ok r w →
      (Op.eqItems (d + 1) 3 1 xs ys (i :: is)).run Try.prog w = .ok (a == b && r) w := by
    intro i is xs ys a b r h1 h2 h3
    have he : (Op.equalIn (d + 1) 3 (.int .i64 a) (.int .i64 b)).run Try.prog w = .ok (a == b) w := by go_simp
    rw [Op.eqItems]
    simp only [Nat.mul_one, Sem.run_bind, h1, h2, he, Result.andThen_ok]
    cases (a == b)
    · simp
    · simpa using h3
  refine step 0 _ _ _ _ _ _ (by go_simp) (by go_simp) ?_
  refine step 1 _ _ _ _ _ _ (by go_simp) (by go_simp) ?_
  have := step 2 [] #[.int .i64 x0, .int .i64 x1, .int .i64 x2] #[.int .i64 y0, .int .i64 y1, .int .i64 y2] x2 y2 true (by go_simp) (by go_simp) (by simp [Op.eqItems])
  simpa using this
end Go.Proofs.Ytollapjmibkpfaa.X
