/- Clone of cells; the error of cells. -/
import Derived.Test.YtollapjmibkpfaaX2
import Derived.WalkSpells
namespace Go.Proofs.Ytollapjmibkpfaa.X
open Go.RowKit Go.Proofs.YtollapjmibkpfaaW.PrintWords Go.Proofs.YtollapjmibkpfaaW.PrintLast Go.Proofs.YtollapjmibkpfaaW.PrintMore
set_option linter.unusedVariables false
set_option linter.unusedSimpArgs false

/-- A function with a body is entered. -/
theorem entered {P : Program} {f : FuncId} {fn : Func} {c : Code} (hf : P.funcs[f]? = some fn) (hn : (fn.name == "runtime.NumGoroutine") = false) (hb : fn.body = some c) (args : Array Value) (w : World) : (callFunc f args).run P w = .ok (.enter f args) w := by
  have h1 : fn.name ≠ "runtime.NumGoroutine" := by simpa using hn
  simp [callFunc, hf, h1, hb, mark]

theorem Ev.pos {α : Type} {c : Prop} [Decidable c] {f g : Nat → Option α} {r : α} (h : c) (k : Ev f r) : Ev (fun n => if c then f n else g n) r := Ev.congr (fun n => by rw [if_pos h]) k
theorem Ev.neg {α : Type} {c : Prop} [Decidable c] {f g : Nat → Option α} {r : α} (h : ¬ c) (k : Ev g r) : Ev (fun n => if c then f n else g n) r := Ev.congr (fun n => by rw [if_neg h]) k
theorem Ev.had {α β : Type} {a : Option α} {x : α} {f : Nat → α → Option β} {r : β} (h : a = some x) (k : Ev (fun n => f n x) r) : Ev (fun n => a.bind (f n)) r := Ev.congr (fun n => by rw [h, Option.bind_some]) k
theorem wrap_nat (i : Nat) (h : i ≤ 1000000) : wrap64 ((i : Int) + 1) = ((i + 1 : Nat) : Int) := by unfold wrap64; omega
theorem wrap_id (x : Int) (h0 : -1000000000 ≤ x) (h1 : x ≤ 1000000000) : wrap64 x = x := by unfold wrap64; omega
theorem rd_nat (l : List Int) (i : Nat) (h : i < l.length) : rd l i = l[i] := by unfold rd; simp [List.getD_eq_getElem?_getD, h]
theorem rd_int (l : List Int) (a : Int) (h0 : 0 ≤ a) (h : a < l.length) : rd l a = l[a.toNat]'(by omega) := by
  have := rd_nat l a.toNat (by omega)
  rwa [show ((a.toNat : Nat) : Int) = a from by omega] at this
theorem any_drop {p : Int → Bool} (l : List Int) (k : Nat) (h : k < l.length) : (l.drop k).any p = (p (rd l k) || (l.drop (k + 1)).any p) := by
  rw [rd_nat l k h, ← List.any_cons, ← List.drop_eq_getElem_cons h]

/-- A cell of no kind. -/
def bad (c : Int) : Bool := !(c == 0 || c == 1 || c == 2)
/-- The error of cells. -/
def chk (l : List Int) : Int := if 4096 < l.length then 9 else if l.any bad = true then 1 else 0
theorem check_l0 (l : List Int) (hl : l.length ≤ 4096) : ∀ (d k i : Nat), l.length - i = d → i ≤ l.length → d < k → compaction_Check.l0 k l (l.length : Int) i = some (if (l.drop i).any bad = true then 1 else 0)
  | d, 0, i, _, _, h => absurd h (by omega)
  | 0, k + 1, i, h0, h1, _ => by
    simp only [compaction_Check.l0]
    rw [if_neg (by omega), List.drop_eq_nil_of_le (by omega)]; simp
  | d + 1, k + 1, i, h0, h1, h2 => by
    simp only [compaction_Check.l0]
    rw [if_pos (by omega), if_pos (by omega), if_pos (by omega), any_drop l i (by omega), wrap_nat i (by omega)]
    have ih := check_l0 l hl d k (i + 1) (by omega) (by omega) (by omega)
    by_cases c0 : rd l i = 0
    · rw [if_pos c0, ih]; simp [bad, c0]
    · rw [if_neg c0]
      by_cases c1 : rd l i = 1
      · rw [if_pos c1, ih]; simp [bad, c1]
      · rw [if_neg c1]
        by_cases c2 : rd l i = 2
        · rw [if_pos c2, ih]; simp [bad, c2]
        · rw [if_neg c2]
          have hb : bad (rd l i) = true := by unfold bad; simp [c0, c1, c2]
          simp [hb]
theorem check_ev (l : List Int) : Ev (fun k => compaction_Check.f k l) (chk l) := by
  refine Ev.of (fun k => compaction_Check.mono l k) (k := l.length + 2) ?_
  unfold compaction_Check.f chk
  by_cases h : 4096 < l.length
  · rw [if_pos (by omega), if_pos h]
  · rw [if_neg (by omega), if_neg h]
    have := check_l0 l (by omega) l.length (l.length + 2) 0 (by omega) (by omega) (by omega)
    simpa using this
theorem check_calls (A0 : Option Addr) (c0 : Nat) (l0 : List Int) (w : World) (hr0 : Kd.C (Kd.int .i64) w A0 l0.length l0) (hc0 : l0.length ≤ c0) :
    Calls Try.prog 18 #[.slice A0 l0.length c0] w fun e w' => e = .returned (.int .i64 (chk l0)) ∧ Drawn0 w w' := by
  obtain ⟨k, h⟩ := (check_ev l0).rounds
  exact compaction_Check.calls k A0 c0 l0 (chk l0) w hr0 hc0 h
theorem chk_zero (l : List Int) : chk l = 0 ↔ l.length ≤ 4096 ∧ ∀ x ∈ l, bad x = false := by
  unfold chk
  constructor
  · intro h
    split at h
    · simp at h
    · split at h
      · simp at h
      · rename_i h1 h2
        refine ⟨by omega, fun x hx => ?_⟩
        cases e : bad x with
        | false => rfl
        | true => exact absurd (List.any_eq_true.2 ⟨x, hx, e⟩) h2
  · rintro ⟨h1, h2⟩
    rw [if_neg (by omega), if_neg]
    intro h; obtain ⟨x, hx, e⟩ := List.any_eq_true.1 h; rw [h2 x hx] at e; cases e
theorem chk_len {l : List Int} (h : chk l = 0) : l.length ≤ 4096 := ((chk_zero l).1 h).1

set_option maxHeartbeats 1000000 in
theorem clone_calls (A0 : Option Addr) (c0 : Nat) (l0 : List Int) (w : World) (hr0 : Kd.C (Kd.int .i64) w A0 l0.length l0) (hc0 : l0.length ≤ c0) (hn : l0.length ≤ 1000000000) :
    Calls Try.prog 39 #[.slice A0 l0.length c0] w fun e w' => ∃ v0_ : Value, e = .returned v0_ ∧ Kd.R (Kd.int .i64) 3 w' w.heap.size (fun _ => True) v0_ l0 ∧ Below w.heap.size w w' := by
  have q22 : ∀ (w : World) (a : Option Addr) (n c n' c' : Nat), (binOp .eql 22 (.slice a n c) (.slice none n' c')).run Try.prog w = .ok (.bool a.isNone) w := fun w a n c n' c' => Lib.run_eql_slice_nil w _ _ a n c n' c' Try.underlying22
  cases A0 with
  | none =>
    have h0 : l0 = [] := by
      cases l0 with
      | nil => rfl
      | cons x l => obtain ⟨ad, e, _⟩ := Kd.at_int hr0 0 (by omega) (by simp); cases e
    subst h0
    clear hr0
    go_enter Try.func39, Try.ntmps39
    go_wp2
    go_ret
    exact ⟨_, rfl, Kd.R_nil _ _ _ _ _, Below.refl _ _⟩
  | some ad =>
    have HR0 := Aside0.mk hr0
    have HC0 := Aside0.mk hc0
    have HN0 := Aside0.mk hn
    clear hr0 hc0 hn
    have HB := Aside0.mk (Below.refl w.heap.size w)
    go_enter Try.func39, Try.ntmps39
    go_wp2_with (first | ((with_reducible refine gate_dst (N := 5) rfl ?_); refine Kd.R_lit (Kd.int .i64) _ 3 ?hg (N := 5) ?hd (xs := ([] : List Int)) (inner := []) (ok := fun _ => True) (okp := fun _ => True) ?hr ?hp (fun _ hk => hk) trivial (Below.refl _ _) (Nat.le_refl _) (by simp) ?_; (case hd => rfl); (case hg => rfl); (case hr => first | (go_simp; done) | (go_simp; rfl)); (case hp => exact (Reps.none _ _)); intro v206 w3 ho4 hb hg_ hnew_; clear hg_ hnew_; have n0_ := Aside0.mk (Kd.R_lower ho4 (below_size HB.out)); have n1_ := Aside0.mk (below_step HB.out hb); clear HB; have HO207 := n0_; have HB := n1_; clear n0_ n1_; clear hb ho4) | ((with_reducible refine gate_builtin (b := .append) (xs := #[.tmp 5, .tmp 6]) rfl ?_); at_builtin; refine Kd.R_append_rows (Kd.int .i64) (w0 := w) w.heap.size rfl (.tmp 5) (.tmp 6) 22 3 (.int .i64 0) 8 rfl Try.underlying22 info3 rfl (by decide) (by omega) v206 [] l0 _ _ _ (fun _ => True) (fun _ => False) rfl rfl ?aO ?aR (fun _ _ h => h) (fun _ h => h.elim) ?aF ?aB ?aS ?aL ?_; (case aR => exact (Kd.C_below HR0.out HB.out)); (case aB => exact HB.out); (case aF => exact (fun _ _ => trivial)); (case aO => exact HO207.out); (case aS => exact (below_size HB.out)); (case aL => have := HN0.out; simp; omega); intro v209 w5 ho hb hg hat; have n0_ := Aside0.mk (hb); have n1_ := Aside0.mk (ho); clear HB; clear HO207; have HB := n0_; have HO210 := n1_; clear n0_ n1_; clear ho hb hg hat))
    go_ret
    exact ⟨_, rfl, by have := HO210.out; simpa using this, HB.out⟩
end Go.Proofs.Ytollapjmibkpfaa.X
