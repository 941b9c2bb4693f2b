/- Rows of rows of bytes that a call made: what a store into one of the bytes keeps. -/
import Derived.Test.YtghmkmpgfpkfmaaD2
namespace Go.Proofs.Ytghmkmpgfpkfmaa.X
open Go.RowKit Go.Proofs.YtghmkmpgfpkfmaaW.PrintWords Go.Proofs.YtghmkmpgfpkfmaaW.PrintLast Go.Proofs.YtghmkmpgfpkfmaaW.PrintMore
set_option linter.unusedVariables false
/-- A row of cells, each with Q. -/
def Row (Q : Value → Prop) (w : World) (u : Value) : Prop := ∃ A n c, u = .slice A n c ∧ n ≤ 1000000 ∧ ∀ j : Nat, j < n → ∃ g v, A = some ⟨g, 0, none⟩ ∧ w.cell? ⟨g, j, none⟩ = some v ∧ Q v
def Lf (w : World) (E : Nat) (u : Value) : Prop := ∃ A n c, u = .slice A n c ∧ n ≤ 1000000 ∧ ∀ j : Nat, j < n → ∃ g x, A = some ⟨g, 0, none⟩ ∧ w.cell? ⟨g, j, none⟩ = some (.int .u8 x) ∧ E ≤ g ∧ w.frozen? ⟨g, j, none⟩ = false
def Md (w : World) (E : Nat) (u : Value) : Prop := Row (Lf w E) w u
def Tp (w : World) (E : Nat) (u : Value) : Prop := Row (Md w E) w u
theorem cell_keep {w : World} {p q : Addr} {A : Option Addr} {n c : Nat} {k : IntKind} {x : Int} (h : w.cell? q = some (.slice A n c)) (hb : w.cell? p = some (.int k x)) (u : Value) : (w.setCell p u).cell? q = some (.slice A n c) := by
  have e : p ≠ q := fun e => by subst e; rw [h] at hb; cases hb
  exact (World.cell?_setCell_other _ _ _ _ e).trans h
theorem someInt_set {w : World} {a : Addr} {k : IntKind} (h : ∃ m, w.cell? a = some (.int k m)) (b : Addr) (x : Int) : ∃ m, (w.setCell b (.int k x)).cell? a = some (.int k m) := by
  obtain ⟨m, hm⟩ := h
  by_cases e : b = a
  · subst e
    exact ⟨x, World.cell?_setCell_same _ _ _ hm⟩
  · exact ⟨m, (World.cell?_setCell_other _ _ _ _ e).trans hm⟩
theorem Lf.set {w : World} {E : Nat} {u : Value} (h : Lf w E u) (p : Addr) (y : Int) : Lf (w.setCell p (.int .u8 y)) E u := by
  obtain ⟨A, n, c, e, hn, hr⟩ := h
  refine ⟨A, n, c, e, hn, fun j hj => ?_⟩
  obtain ⟨g, x, e1, e2, e3, e4⟩ := hr j hj
  obtain ⟨m, hm⟩ := someInt_set ⟨x, e2⟩ p y
  exact ⟨g, m, e1, hm, e3, (World.frozen?_setCell _ _ _ _).trans e4⟩
theorem Row.set {Q R : Value → Prop} {w : World} {u : Value} (h : Row Q w u) (p : Addr) {x : Int} (hb : w.cell? p = some (.int .u8 x)) (y : Int) (hs : ∀ v, Q v → ∃ A n c, v = .slice A n c) (hQ : ∀ v, Q v → R v) : Row R (w.setCell p (.int .u8 y)) u := by
  obtain ⟨A, n, c, e, hn, hr⟩ := h
  refine ⟨A, n, c, e, hn, fun j hj => ?_⟩
  obtain ⟨g, v, e1, e2, e3⟩ := hr j hj
  obtain ⟨A', n', c', rfl⟩ := hs v e3
  exact ⟨g, _, e1, cell_keep e2 hb _, hQ _ e3⟩
theorem Row.sl {Q : Value → Prop} {w : World} {u : Value} (h : Row Q w u) : ∃ A n c, u = .slice A n c := by obtain ⟨A, n, c, e, _⟩ := h; exact ⟨A, n, c, e⟩
theorem Lf.sl {w : World} {E : Nat} {u : Value} (h : Lf w E u) : ∃ A n c, u = .slice A n c := by obtain ⟨A, n, c, e, _⟩ := h; exact ⟨A, n, c, e⟩
theorem Md.set {w : World} {E : Nat} {u : Value} (h : Md w E u) {p : Addr} {x : Int} (hb : w.cell? p = some (.int .u8 x)) (y : Int) : Md (w.setCell p (.int .u8 y)) E u :=
  Row.set h p hb y (fun v hv => hv.sl) (fun v hv => hv.set p y)
theorem Tp.set {w : World} {E : Nat} {u : Value} (h : Tp w E u) {p : Addr} {x : Int} (hb : w.cell? p = some (.int .u8 x)) (y : Int) : Tp (w.setCell p (.int .u8 y)) E u :=
  Row.set h p hb y (fun v hv => hv.sl) (fun v hv => hv.set hb y)
theorem Lf.of {w : World} {base E : Nat} {ok : Nat → Prop} {v : Value} {xs : List Int} (h : (Kd.int .u8).R 5 w base ok v xs) (hE : E ≤ base) (hn : xs.length ≤ 1000000) : Lf w E v := by
  obtain ⟨A, c, rfl⟩ := Kd.R_slice h
  refine ⟨A, xs.length, c, rfl, hn, fun j hj => ?_⟩
  obtain ⟨g, cap, e, hb, _⟩ := Kd.R_form h (by omega)
  injection e with e1 _ _
  subst e1
  obtain ⟨cs, _, hM, hc, hf⟩ := Kd.R_elem h 0 (j : Int) (by omega) (by omega)
  have e2 : cs = [.int .u8 (xs.getD (j : Int).toNat 0)] := hM
  have hc0 := hc 0 (.int .u8 (xs.getD (j : Int).toNat 0)) (by rw [e2]; rfl)
  have hf0 := hf 0
  have hz : (Kd.int .u8).sz = 1 := rfl
  rw [hz, Nat.mul_one, Nat.add_zero, Int.toNat_natCast] at hc0 hf0
  exact ⟨g, _, rfl, hc0, by omega, hf0⟩
theorem Row.of {α : Type} {d : Kd α} {e e2 : Nat} {Q : Value → Prop} {w : World} {base : Nat} {ok : Nat → Prop} {v : Value} {xs : List (List α)} (h : (Kd.slice e d).R e2 w base ok v xs) (hn : xs.length ≤ 1000000)
    (hQ : ∀ (ok' : Nat → Prop) (v' : Value) (x : List α), x ∈ xs → d.R e w base ok' v' x → Q v') : Row Q w v := by
  obtain ⟨A, c, rfl⟩ := Kd.R_slice h
  refine ⟨A, xs.length, c, rfl, hn, fun j hj => ?_⟩
  obtain ⟨g, cap, e, hb, _⟩ := Kd.R_form h (by omega)
  injection e with e1 _ _
  subst e1
  obtain ⟨cs, _, hM, hc, hf⟩ := Kd.R_elem h [] (j : Int) (by omega) (by omega)
  obtain ⟨v', e2, hR⟩ := hM
  have hc0 := hc 0 v' (by rw [e2]; rfl)
  have hz : (Kd.slice e d).sz = 1 := rfl
  rw [hz, Nat.mul_one, Nat.add_zero, Int.toNat_natCast] at hc0
  refine ⟨g, v', rfl, hc0, hQ _ v' _ ?_ hR⟩
  rw [Int.toNat_natCast, List.getD_eq_getElem?_getD, List.getElem?_eq_getElem hj]
  exact List.getElem_mem _
theorem Md.of {w : World} {base E : Nat} {ok : Nat → Prop} {v : Value} {xs : List (List Int)} (h : (Kd.slice 5 (Kd.int .u8)).R 36 w base ok v xs) (hE : E ≤ base) (hn : xs.length ≤ 1000000) (hx : ∀ x ∈ xs, x.length ≤ 1000000) : Md w E v :=
  Row.of h hn (fun _ _ x hm hR => Lf.of hR hE (hx x hm))
/-- The parts of what three rows and a list of rows give. -/
theorem Row.cells {Q : Value → Prop} {w : World} {A : Option Addr} {n c : Nat} (h : Row Q w (.slice A n c)) {j : Nat} (hj : j < n) : ∃ g v, A = some ⟨g, 0, none⟩ ∧ w.cell? ⟨g, j, none⟩ = some v ∧ Q v := by
  obtain ⟨A', n', c', e, _, hr⟩ := h
  injection e with e1 e2 e3
  subst e1 e2 e3
  exact hr j hj
theorem Lf.cells {w : World} {E : Nat} {A : Option Addr} {n c : Nat} (h : Lf w E (.slice A n c)) {j : Nat} (hj : j < n) : ∃ g x, A = some ⟨g, 0, none⟩ ∧ w.cell? ⟨g, j, none⟩ = some (.int .u8 x) ∧ E ≤ g ∧ w.frozen? ⟨g, j, none⟩ = false := by
  obtain ⟨A', n', c', e, _, hr⟩ := h
  injection e with e1 e2 e3
  subst e1 e2 e3
  exact hr j hj
theorem Row.len {Q : Value → Prop} {w : World} {A : Option Addr} {n c : Nat} (h : Row Q w (.slice A n c)) : n ≤ 1000000 := by
  obtain ⟨A', n', c', e, hn, _⟩ := h
  injection e with e1 e2 e3
  omega
theorem Lf.len {w : World} {E : Nat} {A : Option Addr} {n c : Nat} (h : Lf w E (.slice A n c)) : n ≤ 1000000 := by
  obtain ⟨A', n', c', e, hn, _⟩ := h
  injection e with e1 e2 e3
  omega
theorem lit3_R (W : World) (base : Nat) (hb : base ≤ W.heap.size) (p q r : Rw) : kR.R 22 (W.alloc (.cells #[p.v, q.v, r.v] 22)) base (fun _ => True) (.slice (some ⟨W.heap.size, 0, none⟩) 3 3) [p, q, r] := by
  refine ⟨fun _ _ => trivial, [p.v, q.v, r.v], ⟨rfl, .inr ⟨W.heap.size, 3, #[p.v, q.v, r.v], rfl, hb, heap_alloc_new W _, Nat.le_refl _, by decide, rfl, rfl⟩⟩, Kd.reps_scalar (enc := Rw.v) [p, q, r]⟩
/-- The rows of a list of lists, as slice values, each with Md. -/
theorem openR {w : World} {base E : Nat} {ok : Nat → Prop} {A : Option Addr} {c : Nat} {xs : List (List (List Int))} (h : (Kd.slice 36 (Kd.slice 5 (Kd.int .u8))).R 22 w base ok (.slice A xs.length c) xs) (hE : E ≤ base) (hn : xs.length ≤ 1000000) (hx : ∀ x ∈ xs, x.length ≤ 1000000 ∧ ∀ y ∈ x, y.length ≤ 1000000) :
    ∃ vs : List Rw, vs.length = xs.length ∧ Kd.C kR w A xs.length vs ∧ ∀ r ∈ vs, Md w E r.v := by
  have hrow : Tp w E (.slice A xs.length c) := Row.of h hn (fun _ _ x hm hR => Md.of hR hE (hx x hm).1 (hx x hm).2)
  obtain ⟨h1, h2, h3⟩ := (Kd.R_reads' h).2.2
  obtain ⟨vs, hl, hq⟩ := list_pick (fun j (r : Rw) => ∃ g, A = some ⟨g, 0, none⟩ ∧ w.cell? ⟨g, j, none⟩ = some r.v ∧ Md w E r.v) xs.length (fun j hj => by
    obtain ⟨g, v, e1, e2, e3⟩ := hrow.cells hj
    obtain ⟨A', n', c', rfl⟩ := e3.sl
    exact ⟨⟨A', n', c'⟩, g, e1, e2, e3⟩)
  refine ⟨vs, hl, ⟨hl, h2, fun h0 => ?_⟩, fun r hr => ?_⟩
  · obtain ⟨g, v, e1, _⟩ := hrow.cells h0
    refine ⟨⟨g, 0, none⟩, e1, fun j p hp => ⟨[p.v], rfl, rfl, fun i u hu => ?_⟩⟩
    obtain ⟨g', e1', e2', _⟩ := hq j p hp
    rw [e1] at e1'
    injection e1' with e1'
    injection e1' with e1' _ _
    subst e1'
    cases i with
    | zero =>
      have : u = p.v := by simpa using hu.symm
      subst this
      have hz : kR.sz = 1 := rfl
      rw [hz, Nat.mul_one, Nat.add_zero]
      have : (Addr.add ⟨g, 0, none⟩ j) = ⟨g, j, none⟩ := by simp [Addr.add_lit]
      rw [this]; exact e2'
    | succ i => simp at hu
  · obtain ⟨j, hj⟩ := List.getElem?_of_mem hr
    obtain ⟨g, _, _, e3⟩ := hq j r hj
    exact e3
end Go.Proofs.Ytghmkmpgfpkfmaa.X
