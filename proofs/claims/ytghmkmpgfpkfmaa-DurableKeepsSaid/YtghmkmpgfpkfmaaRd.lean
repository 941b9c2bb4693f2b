/- How the arguments of the laws read as lists and records. -/
import Derived.Test.YtghmkmpgfpkfmaaX0
import Derived.Deep.Slices
import Derived.ChangeSame
namespace Go.Proofs.Ytghmkmpgfpkfmaa.X
open Go.RowKit Go.Proofs.YtghmkmpgfpkfmaaW.PrintWords Go.Proofs.YtghmkmpgfpkfmaaW.PrintLast Go.Proofs.YtghmkmpgfpkfmaaW.PrintMore
open Go.ChangeShapes Go.WideShapes Go.Deep
set_option linter.unusedVariables false
set_option linter.unusedSimpArgs false

/-- Whatever reads at type t is one of d's values, and good. -/
def Rdb {α : Type} (P : Program) (t : TypeId) (d : Kd α) (G : α → Prop) : Prop :=
  ∀ (H : Type) (enc : TypeId × Value → H) (w : World) (fuel : Nat) (cs : List Value) (x : DataW H × List MemPlace), DataW.trod enc P w 0 (fun _ => true) true fuel t cs = some x → ∃ a, d.K w a cs ∧ G a
def Gl {α : Type} (G : α → Prop) (l : List α) : Prop := ∀ a ∈ l, G a
theorem rdb_int {P : Program} {t : TypeId} {k : IntKind} (ht : P.underlying t = some (.int k)) : Rdb P t (Kd.int k) (fun n => (Lit.int k n).wf = true) := by
  intro H enc w fuel cs x h
  obtain ⟨n, rfl, _, hw⟩ := DataW.trod_int ht h
  exact ⟨n, rfl, hw⟩
theorem rdb_bool {P : Program} {t : TypeId} (ht : P.underlying t = some .bool) : Rdb P t Kd.bool (fun _ => True) := by
  intro H enc w fuel cs x h
  obtain ⟨b, rfl, _⟩ := DataW.trod_bool ht h
  exact ⟨b, rfl, trivial⟩
theorem list_of {α : Type} (Q : Nat → α → Prop) : ∀ n, (∀ i, i < n → ∃ y, Q i y) → ∃ l : List α, l.length = n ∧ ∀ j y, l[j]? = some y → Q j y
  | 0, _ => ⟨[], rfl, fun j y h => by simp at h⟩
  | n + 1, h => by
    obtain ⟨l, hl, hq⟩ := list_of Q n (fun i hi => h i (by omega))
    obtain ⟨y, hy⟩ := h n (by omega)
    refine ⟨l ++ [y], by simp [hl], fun j z hz => ?_⟩
    by_cases hj : j < l.length
    · rw [List.getElem?_append_left hj] at hz
      exact hq j z hz
    · have hlt := (List.getElem?_eq_some_iff.1 hz).1
      have : j = l.length := by simp at hlt; omega
      subst this
      simp at hz
      subst hz
      rw [hl]; exact hy
theorem rdb_slice {α : Type} {P : Program} {t e : TypeId} {d : Kd α} {G : α → Prop} (ht : P.underlying t = some (.slice e)) (hC : P.cellsOf e = d.sz) (hd : Rdb P e d G) : Rdb P t (Kd.slice e d) (Gl G) := by
  intro H enc w fuel cs x h
  rcases open_slice ht h with ⟨rfl, _⟩ | ⟨a, len, cap, m, n, D, Pl, rfl, _, hl, hm, hmm, _, hi⟩
  · exact ⟨[], ⟨none, 0, rfl, Nat.le_refl _, rfl, by simp, fun h => absurd h (by simp)⟩, fun a ha => by cases ha⟩
  · have hlm : len ≤ m := by rw [hmm]; split <;> omega
    obtain ⟨l, hll, hq⟩ := list_of (fun i (y : α) => ∃ cs' : List Value, w.cells? 0 (a.add (i * P.cellsOf e)) (P.cellsOf e) = some cs' ∧ d.K w y cs' ∧ G y) len (fun i hi' => by
      obtain ⟨cs', hc, ht'⟩ := hi i (by omega)
      obtain ⟨y, hy, hg⟩ := hd H enc w n cs' _ ht'
      exact ⟨y, cs', hc, hy, hg⟩)
    subst hll
    refine ⟨l, ⟨some a, cap, rfl, hl, rfl, by unfold maxLen at hm; omega, fun _ => ⟨a, rfl, fun j p hj => ?_⟩⟩, fun y hy => ?_⟩
    · obtain ⟨cs', hc, hy, _⟩ := hq j p hj
      obtain ⟨_, hcl, hat⟩ := World.cells?_some hc
      rw [hC] at hat hcl
      refine ⟨cs', hcl, hy, fun i u hu => ?_⟩
      have hi' : i < d.sz := by have := (List.getElem?_eq_some_iff.1 hu).1; omega
      rw [← Go.Deep.add_add, hat i hi', hu]
    · obtain ⟨j, hj⟩ := List.getElem?_of_mem hy
      obtain ⟨_, _, _, hg⟩ := hq j y hj
      exact hg

def G38 (s : S38) : Prop := (fun n : Int => (Lit.int .i64 n).wf = true) s.f0 ∧ (fun n : Int => (Lit.int .i64 n).wf = true) s.f1 ∧ (fun n : Int => (Lit.int .i64 n).wf = true) s.f2 ∧ (Gl (fun n : Int => (Lit.int .u8 n).wf = true)) s.f3
theorem rdb_S38 : Rdb Try.prog 38 k38 G38 := by
  intro H enc w fuel cs x h
  obtain ⟨xs, n, _, _, hcl, hlen, hg⟩ := DataW.trod_struct Try.underlying38 h
  have hc : Try.prog.cellsOf 38 = 4 := by kernel_rfl
  rw [hc] at hcl
  have hl : xs.length = 4 := by simpa using hlen
  have hs3 : Try.prog.cellsOf 3 = 1 := by kernel_rfl
  have hs36 : Try.prog.cellsOf 36 = 1 := by kernel_rfl
  match cs, hcl, xs, hl with
  | [c0, c1, c2, c3], _, [y0, y1, y2, y3], _ =>
    have g0 := hg 0 _ rfl
    simp [hs3] at g0
    obtain ⟨a0, k0, q0⟩ := (rdb_int Try.underlying3) H enc w n [c0] _ g0
    have g1 := hg 1 _ rfl
    simp [hs3] at g1
    obtain ⟨a1, k1, q1⟩ := (rdb_int Try.underlying3) H enc w n [c1] _ g1
    have g2 := hg 2 _ rfl
    simp [hs3] at g2
    obtain ⟨a2, k2, q2⟩ := (rdb_int Try.underlying3) H enc w n [c2] _ g2
    have g3 := hg 3 _ rfl
    simp [hs36] at g3
    obtain ⟨a3, k3, q3⟩ := (rdb_slice Try.underlying36 (by kernel_rfl) (rdb_int Try.underlying5)) H enc w n [c3] _ g3
    have e0 : [c0] = [Value.int .i64 a0] := k0
    obtain rfl := (List.cons.inj e0).1
    have e1 : [c1] = [Value.int .i64 a1] := k1
    obtain rfl := (List.cons.inj e1).1
    have e2 : [c2] = [Value.int .i64 a2] := k2
    obtain rfl := (List.cons.inj e2).1
    obtain ⟨A3, d3, e3, l3, u3⟩ := k3
    obtain rfl := (List.cons.inj e3).1
    exact ⟨⟨a0, a1, a2, a3⟩, k38_mk w _ l3 u3, q0, q1, q2, q3⟩
/-- A history: the first contents and the events. -/
structure S25 where
  f0 : List (List Int)
  f1 : List S38
def k25 : Kd S25 := Kd.iso (Kd.pair (Kd.slice 36 (Kd.slice 5 (Kd.int .u8))) (Kd.slice 38 k38)) (fun x : S25 => (x.f0, x.f1))
theorem k25_open {w : World} {x : S25} {cs : List Value} (h : k25.K w x cs) : ∃ A0 c0 A1 c1, cs = [.slice A0 x.f0.length c0, .slice A1 x.f1.length c1] ∧ x.f0.length ≤ c0 ∧ (Kd.slice 5 (Kd.int .u8)).C w A0 x.f0.length x.f0 ∧ x.f1.length ≤ c1 ∧ k38.C w A1 x.f1.length x.f1 := by
  obtain ⟨_, _, rfl, ⟨A0, c0, rfl, l0, g0⟩, ⟨A1, c1, rfl, l1, g1⟩⟩ := h
  exact ⟨A0, c0, A1, c1, rfl, l0, g0, l1, g1⟩
theorem k25_mk (w : World) (x : S25) {A0 A1 : Option Addr} {c0 c1 : Nat} (l0 : x.f0.length ≤ c0) (g0 : (Kd.slice 5 (Kd.int .u8)).C w A0 x.f0.length x.f0) (l1 : x.f1.length ≤ c1) (g1 : k38.C w A1 x.f1.length x.f1) : k25.K w x [.slice A0 x.f0.length c0, .slice A1 x.f1.length c1] := ⟨[.slice A0 x.f0.length c0], [.slice A1 x.f1.length c1], rfl, ⟨A0, c0, rfl, l0, g0⟩, ⟨A1, c1, rfl, l1, g1⟩⟩
def G25 (s : S25) : Prop := (Gl (Gl (fun n : Int => (Lit.int .u8 n).wf = true))) s.f0 ∧ (Gl G38) s.f1
theorem rdb_S25 : Rdb Try.prog 25 k25 G25 := by
  intro H enc w fuel cs x h
  obtain ⟨xs, n, _, _, hcl, hlen, hg⟩ := DataW.trod_struct Try.underlying25 h
  have hc : Try.prog.cellsOf 25 = 2 := by kernel_rfl
  rw [hc] at hcl
  have hl : xs.length = 2 := by simpa using hlen
  have hs22 : Try.prog.cellsOf 22 = 1 := by kernel_rfl
  have hs23 : Try.prog.cellsOf 23 = 1 := by kernel_rfl
  match cs, hcl, xs, hl with
  | [c0, c1], _, [y0, y1], _ =>
    have g0 := hg 0 _ rfl
    simp [hs22] at g0
    obtain ⟨a0, k0, q0⟩ := (rdb_slice Try.underlying22 (by kernel_rfl) (rdb_slice Try.underlying36 (by kernel_rfl) (rdb_int Try.underlying5))) H enc w n [c0] _ g0
    have g1 := hg 1 _ rfl
    simp [hs23] at g1
    obtain ⟨a1, k1, q1⟩ := (rdb_slice Try.underlying23 (by kernel_rfl) rdb_S38) H enc w n [c1] _ g1
    obtain ⟨A0, d0, e0, l0, u0⟩ := k0
    obtain rfl := (List.cons.inj e0).1
    obtain ⟨A1, d1, e1, l1, u1⟩ := k1
    obtain rfl := (List.cons.inj e1).1
    exact ⟨⟨a0, a1⟩, k25_mk w _ l0 u0 l1 u1, q0, q1⟩
end Go.Proofs.Ytghmkmpgfpkfmaa.X
