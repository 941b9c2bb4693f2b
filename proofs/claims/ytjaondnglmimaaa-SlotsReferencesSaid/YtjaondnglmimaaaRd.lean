/- How the arguments of the laws read as lists and records. -/
import Derived.Test.YtjaondnglmimaaaX0
import Derived.Deep.Slices
import Derived.ChangeSame
namespace Go.Proofs.Ytjaondnglmimaaa.X
open Go.RowKit Go.Proofs.YtjaondnglmimaaaW.PrintWords Go.Proofs.YtjaondnglmimaaaW.PrintLast Go.Proofs.YtjaondnglmimaaaW.PrintMore
open Go.ChangeShapes Go.WideShapes Go.Deep
set_option linter.unusedVariables false
set_option linter.unusedSimpArgs false

/-- Whatever reads at type t is one of d's values, and good. -/
def Rdb {α : Type} (P : Program) (t : TypeId) (d : Kd α) (G : α → Prop) : Prop :=
  ∀ (H : Type) (enc : TypeId × Value → H) (w : World) (fuel : Nat) (cs : List Value) (x : DataW H × List MemPlace), DataW.trod enc P w 0 (fun _ => true) true fuel t cs = some x → ∃ a, d.K w a cs ∧ G a
def Gl {α : Type} (G : α → Prop) (l : List α) : Prop := ∀ a ∈ l, G a
theorem rdb_int {P : Program} {t : TypeId} {k : IntKind} (ht : P.underlying t = some (.int k)) : Rdb P t (Kd.int k) (fun n => (Lit.int k n).wf = true) := by
  intro H enc w fuel cs x h
  obtain ⟨n, rfl, _, hw⟩ := DataW.trod_int ht h
  exact ⟨n, rfl, hw⟩
theorem rdb_bool {P : Program} {t : TypeId} (ht : P.underlying t = some .bool) : Rdb P t Kd.bool (fun _ => True) := by
  intro H enc w fuel cs x h
  obtain ⟨b, rfl, _⟩ := DataW.trod_bool ht h
  exact ⟨b, rfl, trivial⟩
theorem list_of {α : Type} (Q : Nat → α → Prop) : ∀ n, (∀ i, i < n → ∃ y, Q i y) → ∃ l : List α, l.length = n ∧ ∀ j y, l[j]? = some y → Q j y
  | 0, _ => ⟨[], rfl, fun j y h => by simp at h⟩
  | n + 1, h => by
    obtain ⟨l, hl, hq⟩ := list_of Q n (fun i hi => h i (by omega))
    obtain ⟨y, hy⟩ := h n (by omega)
    refine ⟨l ++ [y], by simp [hl], fun j z hz => ?_⟩
    by_cases hj : j < l.length
    · rw [List.getElem?_append_left hj] at hz
      exact hq j z hz
    · have hlt := (List.getElem?_eq_some_iff.1 hz).1
      have : j = l.length := by simp at hlt; omega
      subst this
      simp at hz
      subst hz
      rw [hl]; exact hy
theorem rdb_slice {α : Type} {P : Program} {t e : TypeId} {d : Kd α} {G : α → Prop} (ht : P.underlying t = some (.slice e)) (hC : P.cellsOf e = d.sz) (hd : Rdb P e d G) : Rdb P t (Kd.slice e d) (Gl G) := by
  intro H enc w fuel cs x h
  rcases open_slice ht h with ⟨rfl, _⟩ | ⟨a, len, cap, m, n, D, Pl, rfl, _, hl, hm, hmm, _, hi⟩
  · exact ⟨[], ⟨none, 0, rfl, Nat.le_refl _, rfl, by simp, fun h => absurd h (by simp)⟩, fun a ha => by cases ha⟩
  · have hlm : len ≤ m := by rw [hmm]; split <;> omega
    obtain ⟨l, hll, hq⟩ := list_of (fun i (y : α) => ∃ cs' : List Value, w.cells? 0 (a.add (i * P.cellsOf e)) (P.cellsOf e) = some cs' ∧ d.K w y cs' ∧ G y) len (fun i hi' => by
      obtain ⟨cs', hc, ht'⟩ := hi i (by omega)
      obtain ⟨y, hy, hg⟩ := hd H enc w n cs' _ ht'
      exact ⟨y, cs', hc, hy, hg⟩)
    subst hll
    refine ⟨l, ⟨some a, cap, rfl, hl, rfl, by unfold maxLen at hm; omega, fun _ => ⟨a, rfl, fun j p hj => ?_⟩⟩, fun y hy => ?_⟩
    · obtain ⟨cs', hc, hy, _⟩ := hq j p hj
      obtain ⟨_, hcl, hat⟩ := World.cells?_some hc
      rw [hC] at hat hcl
      refine ⟨cs', hcl, hy, fun i u hu => ?_⟩
      have hi' : i < d.sz := by have := (List.getElem?_eq_some_iff.1 hu).1; omega
      rw [← Go.Deep.add_add, hat i hi', hu]
    · obtain ⟨j, hj⟩ := List.getElem?_of_mem hy
      obtain ⟨_, _, _, hg⟩ := hq j y hj
      exact hg

def G41 (s : S41) : Prop := (fun n : Int => (Lit.int .i64 n).wf = true) s.f0 ∧ (fun n : Int => (Lit.int .i64 n).wf = true) s.f1
theorem rdb_S41 : Rdb Try.prog 41 k41 G41 := by
  intro H enc w fuel cs x h
  obtain ⟨xs, n, _, _, hcl, hlen, hg⟩ := DataW.trod_struct Try.underlying41 h
  have hc : Try.prog.cellsOf 41 = 2 := by kernel_rfl
  rw [hc] at hcl
  have hl : xs.length = 2 := by simpa using hlen
  have hs3 : Try.prog.cellsOf 3 = 1 := by kernel_rfl
  match cs, hcl, xs, hl with
  | [c0, c1], _, [y0, y1], _ =>
    have g0 := hg 0 _ rfl
    simp [hs3] at g0
    obtain ⟨a0, k0, q0⟩ := (rdb_int Try.underlying3) H enc w n [c0] _ g0
    have g1 := hg 1 _ rfl
    simp [hs3] at g1
    obtain ⟨a1, k1, q1⟩ := (rdb_int Try.underlying3) H enc w n [c1] _ g1
    have e0 : [c0] = [Value.int .i64 a0] := k0
    obtain rfl := (List.cons.inj e0).1
    have e1 : [c1] = [Value.int .i64 a1] := k1
    obtain rfl := (List.cons.inj e1).1
    exact ⟨⟨a0, a1⟩, k41_mk w _, q0, q1⟩
def G34 (s : S34) : Prop := (fun n : Int => (Lit.int .i64 n).wf = true) s.f0 ∧ (fun n : Int => (Lit.int .i64 n).wf = true) s.f1 ∧ (fun n : Int => (Lit.int .i64 n).wf = true) s.f2
theorem rdb_S34 : Rdb Try.prog 34 k34 G34 := by
  intro H enc w fuel cs x h
  obtain ⟨xs, n, _, _, hcl, hlen, hg⟩ := DataW.trod_struct Try.underlying34 h
  have hc : Try.prog.cellsOf 34 = 3 := by kernel_rfl
  rw [hc] at hcl
  have hl : xs.length = 3 := by simpa using hlen
  have hs3 : Try.prog.cellsOf 3 = 1 := by kernel_rfl
  match cs, hcl, xs, hl with
  | [c0, c1, c2], _, [y0, y1, y2], _ =>
    have g0 := hg 0 _ rfl
    simp [hs3] at g0
    obtain ⟨a0, k0, q0⟩ := (rdb_int Try.underlying3) H enc w n [c0] _ g0
    have g1 := hg 1 _ rfl
    simp [hs3] at g1
    obtain ⟨a1, k1, q1⟩ := (rdb_int Try.underlying3) H enc w n [c1] _ g1
    have g2 := hg 2 _ rfl
    simp [hs3] at g2
    obtain ⟨a2, k2, q2⟩ := (rdb_int Try.underlying3) H enc w n [c2] _ g2
    have e0 : [c0] = [Value.int .i64 a0] := k0
    obtain rfl := (List.cons.inj e0).1
    have e1 : [c1] = [Value.int .i64 a1] := k1
    obtain rfl := (List.cons.inj e1).1
    have e2 : [c2] = [Value.int .i64 a2] := k2
    obtain rfl := (List.cons.inj e2).1
    exact ⟨⟨a0, a1, a2⟩, k34_mk w _, q0, q1, q2⟩
end Go.Proofs.Ytjaondnglmimaaa.X
