/- The contracts of the functions of package slots that take or make function values: what each call returns and leaves in memory, for every list of slots. -/
import Derived.Test.YtjaondnglmimaaaX0
import Derived.WalkSpells
namespace Go.Proofs.Ytjaondnglmimaaa.X
open Go.RowKit Go.Proofs.YtjaondnglmimaaaW.PrintWords Go.Proofs.YtjaondnglmimaaaW.PrintLast Go.Proofs.YtjaondnglmimaaaW.PrintMore
set_option linter.unusedVariables false
set_option linter.unusedSimpArgs false

/-- A function with a body is entered. -/
theorem entered {P : Program} {f : FuncId} {fn : Func} {c : Code} (hf : P.funcs[f]? = some fn) (hn : (fn.name == "runtime.NumGoroutine") = false) (hb : fn.body = some c) (args : Array Value) (w : World) : (callFunc f args).run P w = .ok (.enter f args) w := by
  have h1 : fn.name ≠ "runtime.NumGoroutine" := by simpa using hn
  simp [callFunc, hf, h1, hb, mark]

/-- The place of the first element of which p holds, from k on, or -1. -/
def idxFrom (p : S41 → Bool) : List S41 → Int → Int
  | [], _ => -1
  | x :: l, k => if p x then k else idxFrom p l (k + 1)
def idx (p : S41 → Bool) (l : List S41) : Int := idxFrom p l 0

theorem idxFrom_drop (p : S41 → Bool) (l : List S41) (k : Nat) (h : k < l.length) : idxFrom p (l.drop k) k = if p (rd_T41 l k) then (k : Int) else idxFrom p (l.drop (k + 1)) ((k : Int) + 1) := by
  rw [List.drop_eq_getElem_cons h]
  simp only [idxFrom]
  have : rd_T41 l k = l[k] := by unfold rd_T41; simp [List.getD_eq_getElem?_getD, h]
  rw [this]

set_option maxHeartbeats 1000000 in
theorem indexFunc_calls (p : S41 → Bool) (g : Nat) (cb : Array Value) (eg : ∀ args w, (callFunc g args).run Try.prog w = .ok (.enter g args) w) (A0 : Option Addr) (c0 : Nat) (l0 : List S41) (w : World) (hr0 : Kd.C k41 w A0 l0.length l0) (hn : l0.length ≤ 9223372036854775807)
    (hp : ∀ (W : World) (x : S41), Below w.heap.size w W → Calls Try.prog g (#[.agg #[.int .i64 x.f0, .int .i64 x.f1]] ++ cb) W fun e w' => e = .returned (.bool (p x)) ∧ Below w.heap.size w w') :
    Calls Try.prog 31 #[.slice A0 l0.length c0, .func (.func g) #[] cb] w fun e w' => e = .returned (.int .i64 (idx p l0)) ∧ Below w.heap.size w w' := by
  have hu41 := Try.underlying41
  have HR := Aside0.mk hr0
  have HP := Aside0.mk hp
  clear hr0 hp
  go_enter Try.func31, Try.ntmps31
  go_wp2
  go_loopg [5, 8] l0.length (fun gg _ s8 wr => ∃ kk : Nat, kk ≤ l0.length ∧ l0.length - kk ≤ gg ∧ s8 = .int .i64 kk ∧ Aside0 (Below w.heap.size w wr) ∧ Aside0 (idx p l0 = idxFrom p (l0.drop kk) kk))
  case atStart => exact ⟨0, Nat.zero_le _, by omega, rfl, ⟨Below.refl _ w⟩, ⟨rfl⟩⟩
  case round =>
    obtain ⟨kk, hkk, hg, rfl, BW, A⟩ := hrel
    by_cases hlt : kk < l0.length
    · have hltz : (kk : Int) < (l0.length : Int) := by omega
      obtain ⟨ad, e0, hx0, hx1⟩ := at_T41 (Kd.C_below HR.out BW.out) (kk : Int) (by omega) hltz
      cases e0
      have hcall := HP.out wr (rd_T41 l0 kk) BW.out
      simp only [Int.toNat_natCast] at hx0 hx1
      cases hq : p (rd_T41 l0 kk) with
      | true =>
        rw [hq] at hcall
        have HS : Aside0 (idx p l0 = kk) := ⟨by rw [A.out, idxFrom_drop p l0 kk hlt, hq, if_pos rfl]⟩
        clear hq A
        generalize rd_T41 l0 kk = x at hx0 hx1 hcall
        go_wp2_with (fail)
        refine hcall.mono ?_
        rintro e w' ⟨rfl, hb'⟩
        clear hcall hx0 hx1
        go_wp2
        go_ret
        refine ⟨?_, hb'⟩
        rw [HS.out]; rfl
      | false =>
        rw [hq] at hcall
        have HS : Aside0 (idx p l0 = idxFrom p (l0.drop (kk + 1)) ((kk : Int) + 1)) := ⟨by rw [A.out, idxFrom_drop p l0 kk hlt, hq, if_neg (by simp)]⟩
        clear hq A
        generalize rd_T41 l0 kk = x at hx0 hx1 hcall
        go_wp2_with (fail)
        refine hcall.mono ?_
        rintro e w' ⟨rfl, hb'⟩
        clear hcall hx0 hx1
        go_wp2
        go_roundg (l0.length - (kk + 1))
        case measure => omega
        case rel =>
          exact ⟨kk + 1, by omega, by omega, by go_num, ⟨hb'⟩, ⟨by rw [HS.out]; simp⟩⟩
    · have hltz : ¬ (kk : Int) < (l0.length : Int) := by omega
      have : kk = l0.length := by omega
      subst this
      go_wp2
      go_ret
      refine ⟨?_, BW.out⟩
      rw [A.out]; simp [idxFrom]

set_option maxHeartbeats 1000000 in
theorem cDup_no (g0 o : Nat) (x : S41) (W : World) (h0 : W.cell? ⟨g0, o, none⟩ = some (.int .i64 x.f0)) (h1 : W.cell? ⟨g0, o + 1, none⟩ = some (.int .i64 x.f1)) (hx : (x.f1 == 1048576) = true) :
    Calls Try.prog 35 #[.pointer (some ⟨g0, o, none⟩)] W fun e w' => e = .returned (.int .i64 9) ∧ w' = W := by
  have hu41 := Try.underlying41
  go_enter Try.func35, Try.ntmps35
  go_wp2
  go_ret
  exact ⟨rfl, rfl⟩
set_option maxHeartbeats 1000000 in
theorem cDup_yes (g0 o : Nat) (x : S41) (W : World) (h0 : W.cell? ⟨g0, o, none⟩ = some (.int .i64 x.f0)) (h1 : W.cell? ⟨g0, o + 1, none⟩ = some (.int .i64 x.f1)) (f0 : W.frozen? ⟨g0, o, none⟩ = false) (f1 : W.frozen? ⟨g0, o + 1, none⟩ = false) (hx : (x.f1 == 1048576) = false) (b0 : 0 ≤ x.f1) (b1 : x.f1 ≤ 1048576) :
    Calls Try.prog 35 #[.pointer (some ⟨g0, o, none⟩)] W fun e w' => e = .returned (.int .i64 0) ∧ w' = W.setCell ⟨g0, o + 1, none⟩ (.int .i64 (x.f1 + 1)) := by
  have hu41 := Try.underlying41
  go_enter Try.func35, Try.ntmps35
  go_wp2
  go_ret
  exact ⟨rfl, rfl⟩
set_option maxHeartbeats 1000000 in
theorem cRelease_no (g0 o : Nat) (x : S41) (W : World) (h0 : W.cell? ⟨g0, o, none⟩ = some (.int .i64 x.f0)) (h1 : W.cell? ⟨g0, o + 1, none⟩ = some (.int .i64 x.f1)) (hx : (x.f1 != 0) = true) :
    Calls Try.prog 37 #[.pointer (some ⟨g0, o, none⟩)] W fun e w' => e = .returned (.int .i64 21) ∧ w' = W := by
  have hu41 := Try.underlying41
  go_enter Try.func37, Try.ntmps37
  go_wp2
  go_ret
  exact ⟨rfl, rfl⟩
set_option maxHeartbeats 1000000 in
theorem cRelease_yes (g0 o : Nat) (x : S41) (W : World) (h0 : W.cell? ⟨g0, o, none⟩ = some (.int .i64 x.f0)) (h1 : W.cell? ⟨g0, o + 1, none⟩ = some (.int .i64 x.f1)) (f0 : W.frozen? ⟨g0, o, none⟩ = false) (f1 : W.frozen? ⟨g0, o + 1, none⟩ = false) (hx : (x.f1 != 0) = false) :
    Calls Try.prog 37 #[.pointer (some ⟨g0, o, none⟩)] W fun e w' => e = .returned (.int .i64 0) ∧ w' = (W.setCell ⟨g0, o, none⟩ (.int .i64 0)).setCell ⟨g0, o + 1, none⟩ (.int .i64 0) := by
  have hu41 := Try.underlying41
  go_enter Try.func37, Try.ntmps37
  go_wp2
  go_ret
  exact ⟨rfl, rfl⟩
set_option maxHeartbeats 1000000 in
theorem cPlace_no (g0 o pb : Nat) (p : Int) (x : S41) (W : World) (h0 : W.cell? ⟨g0, o, none⟩ = some (.int .i64 x.f0)) (h1 : W.cell? ⟨g0, o + 1, none⟩ = some (.int .i64 x.f1)) (hp : W.cell? ⟨pb, 0, none⟩ = some (.int .i64 p)) (hx : p < 1 ∨ 3 < p) :
    Calls Try.prog 40 #[.pointer (some ⟨g0, o, none⟩), .pointer (some ⟨pb, 0, none⟩)] W fun e w' => e = .returned (.int .i64 1) ∧ Drawn0 W w' := by
  have hu41 := Try.underlying41
  by_cases c : p < 1
  · have c0 : decide (p < 1) = true := decide_eq_true c
    clear c hx
    go_enter Try.func40, Try.ntmps40
    go_wp2
    repeat (go_quiet (fail); try go_wp2)
    go_ret
    exact ⟨rfl, by repeat (first | exact Drawn0.refl _ | apply Drawn0.step)⟩
  · have c0 : decide (p < 1) = false := decide_eq_false c
    have c1 : decide (3 < p) = true := decide_eq_true (by omega)
    clear c hx
    go_enter Try.func40, Try.ntmps40
    go_wp2
    repeat (go_quiet (fail); try go_wp2)
    go_ret
    exact ⟨rfl, by repeat (first | exact Drawn0.refl _ | apply Drawn0.step)⟩
set_option maxHeartbeats 1000000 in
theorem cPlace_yes (g0 o pb : Nat) (p : Int) (x : S41) (W : World) (h0 : W.cell? ⟨g0, o, none⟩ = some (.int .i64 x.f0)) (h1 : W.cell? ⟨g0, o + 1, none⟩ = some (.int .i64 x.f1)) (hp : W.cell? ⟨pb, 0, none⟩ = some (.int .i64 p)) (f0 : W.frozen? ⟨g0, o, none⟩ = false) (f1 : W.frozen? ⟨g0, o + 1, none⟩ = false)
    (hx0 : decide (p < 1) = false) (hx1 : decide (3 < p) = false) :
    Calls Try.prog 40 #[.pointer (some ⟨g0, o, none⟩), .pointer (some ⟨pb, 0, none⟩)] W fun e w' => e = .returned (.int .i64 0) ∧ w' = W.setCell ⟨g0, o, none⟩ (.int .i64 p) := by
  have hu41 := Try.underlying41
  go_enter Try.func40, Try.ntmps40
  go_wp2
  repeat (go_quiet (fail); try go_wp2)
  go_ret
  exact ⟨rfl, rfl⟩
set_option maxHeartbeats 1000000 in
theorem cDrop_no (g0 o hb fb : Nat) (held : Bool) (x : S41) (W : World) (h0 : W.cell? ⟨g0, o, none⟩ = some (.int .i64 x.f0)) (h1 : W.cell? ⟨g0, o + 1, none⟩ = some (.int .i64 x.f1)) (hx : (x.f1 == 0) = true) :
    Calls Try.prog 36 #[.pointer (some ⟨g0, o, none⟩), .pointer (some ⟨hb, 0, none⟩), .pointer (some ⟨fb, 0, none⟩)] W fun e w' => e = .returned (.int .i64 11) ∧ w' = W := by
  have hu41 := Try.underlying41
  go_enter Try.func36, Try.ntmps36
  go_wp2
  go_ret
  exact ⟨rfl, rfl⟩
set_option maxHeartbeats 1000000 in
theorem cDrop_left (g0 o hb fb : Nat) (held : Bool) (x : S41) (W : World) (h0 : W.cell? ⟨g0, o, none⟩ = some (.int .i64 x.f0)) (h1 : W.cell? ⟨g0, o + 1, none⟩ = some (.int .i64 x.f1)) (f0 : W.frozen? ⟨g0, o, none⟩ = false) (f1 : W.frozen? ⟨g0, o + 1, none⟩ = false)
    (hh : W.cell? ⟨hb, 0, none⟩ = some (.bool held)) (ne1 : g0 ≠ hb) (ne2 : g0 ≠ fb)
    (b0 : 0 ≤ x.f1) (b1 : x.f1 ≤ 1048576)
    (hx : (x.f1 == 0) = false) (hy : ((x.f1 - 1) == 0) = false) :
    Calls Try.prog 36 #[.pointer (some ⟨g0, o, none⟩), .pointer (some ⟨hb, 0, none⟩), .pointer (some ⟨fb, 0, none⟩)] W fun e w' => e = .returned (.int .i64 0) ∧ w' = W.setCell ⟨g0, o + 1, none⟩ (.int .i64 (x.f1 - 1)) := by
  have hu41 := Try.underlying41
  go_enter Try.func36, Try.ntmps36
  go_wp2
  repeat (go_quiet (fail); try go_wp2)
  go_ret
  exact ⟨rfl, rfl⟩
set_option maxHeartbeats 1000000 in
theorem cDrop_held (g0 o hb fb : Nat) (x : S41) (W : World) (h0 : W.cell? ⟨g0, o, none⟩ = some (.int .i64 x.f0)) (h1 : W.cell? ⟨g0, o + 1, none⟩ = some (.int .i64 x.f1)) (f0 : W.frozen? ⟨g0, o, none⟩ = false) (f1 : W.frozen? ⟨g0, o + 1, none⟩ = false)
    (hh : W.cell? ⟨hb, 0, none⟩ = some (.bool true)) (ne1 : g0 ≠ hb) (ne2 : g0 ≠ fb)
    (b0 : 0 ≤ x.f1) (b1 : x.f1 ≤ 1048576)
    (hx : (x.f1 == 0) = false) (hy : ((x.f1 - 1) == 0) = true) :
    Calls Try.prog 36 #[.pointer (some ⟨g0, o, none⟩), .pointer (some ⟨hb, 0, none⟩), .pointer (some ⟨fb, 0, none⟩)] W fun e w' => e = .returned (.int .i64 0) ∧ w' = W.setCell ⟨g0, o + 1, none⟩ (.int .i64 (x.f1 - 1)) := by
  have hu41 := Try.underlying41
  go_enter Try.func36, Try.ntmps36
  go_wp2
  repeat (go_quiet (fail); try go_wp2)
  go_ret
  exact ⟨rfl, rfl⟩
set_option maxHeartbeats 1000000 in
theorem cDrop_free (g0 o hb fb : Nat) (x : S41) (W : World) (h0 : W.cell? ⟨g0, o, none⟩ = some (.int .i64 x.f0)) (h1 : W.cell? ⟨g0, o + 1, none⟩ = some (.int .i64 x.f1)) (f0 : W.frozen? ⟨g0, o, none⟩ = false) (f1 : W.frozen? ⟨g0, o + 1, none⟩ = false)
    (hh : W.cell? ⟨hb, 0, none⟩ = some (.bool false)) (hf : W.cell? ⟨fb, 0, none⟩ = some (.bool false)) (hff : W.frozen? ⟨fb, 0, none⟩ = false) (ne1 : g0 ≠ hb) (ne2 : g0 ≠ fb)
    (b0 : 0 ≤ x.f1) (b1 : x.f1 ≤ 1048576)
    (hx : (x.f1 == 0) = false) (hy : ((x.f1 - 1) == 0) = true) :
    Calls Try.prog 36 #[.pointer (some ⟨g0, o, none⟩), .pointer (some ⟨hb, 0, none⟩), .pointer (some ⟨fb, 0, none⟩)] W fun e w' => e = .returned (.int .i64 0) ∧ w' = (((W.setCell ⟨g0, o + 1, none⟩ (.int .i64 (x.f1 - 1))).setCell ⟨g0, o, none⟩ (.int .i64 0)).setCell ⟨g0, o + 1, none⟩ (.int .i64 0)).setCell ⟨fb, 0, none⟩ (.bool true) := by
  have hu41 := Try.underlying41
  go_enter Try.func36, Try.ntmps36
  go_wp2
  repeat (go_quiet (fail); try go_wp2)
  go_ret
  exact ⟨rfl, rfl⟩

/-- A slot whose numbers are out of range. -/
def bad (s : S41) : Bool := decide (s.f0 < 0) || decide (3 < s.f0) || decide (s.f1 < 0) || decide (1048576 < s.f1)
/-- A free slot that is referenced. -/
def lone (s : S41) : Bool := s.f0 == 0 && s.f1 != 0
/-- The error of a list of slots. -/
def chk (l : List S41) : Int := if 64 < l.length then 9 else if l.any bad = true then 2 else if l.any lone = true then 11 else 0

theorem idxFrom_any (p : S41 → Bool) : ∀ (l : List S41) (k : Int), 0 ≤ k → (decide (0 ≤ idxFrom p l k) = l.any p)
  | [], k, h => by simp [idxFrom]
  | x :: l, k, h => by
    simp only [idxFrom, List.any_cons]
    by_cases hp : p x = true
    · simp [h, hp]
    · simp only [hp, if_neg, Bool.false_or]
      simpa [hp] using idxFrom_any p l (k + 1) (by omega)

set_option maxHeartbeats 1000000 in
theorem lone_calls (x : S41) (w W : World) (hb : Below w.heap.size w W) :
    Calls Try.prog 30 (#[.agg #[.int .i64 x.f0, .int .i64 x.f1]] ++ #[]) W fun e w' => e = .returned (.bool (lone x)) ∧ Below w.heap.size w w' := by
  have hu41 := Try.underlying41
  show Calls Try.prog 30 #[.agg #[.int .i64 x.f0, .int .i64 x.f1]] W _
  have HB := Aside0.mk hb
  clear hb
  cases h0 : x.f0 == 0 with
  | true =>
    cases h1 : x.f1 != 0 with
    | true =>
      have HR : Aside0 (lone x = true) := ⟨by unfold lone; rw [h0, h1]; rfl⟩
      go_enter Try.func30, Try.ntmps30
      go_wp2
      repeat (go_quiet (fail); try go_wp2)
      go_ret
      exact ⟨by rw [HR.out]; rfl, by repeat (first | exact HB.out | apply below_alloc | apply pw_below_drewN | apply below_drew1)⟩
    | false =>
      have HR : Aside0 (lone x = false) := ⟨by unfold lone; rw [h0, h1]; rfl⟩
      go_enter Try.func30, Try.ntmps30
      go_wp2
      repeat (go_quiet (fail); try go_wp2)
      go_ret
      exact ⟨by rw [HR.out]; rfl, by repeat (first | exact HB.out | apply below_alloc | apply pw_below_drewN | apply below_drew1)⟩
  | false =>
    have HR : Aside0 (lone x = false) := ⟨by unfold lone; rw [h0]; rfl⟩
    go_enter Try.func30, Try.ntmps30
    go_wp2
    repeat (go_quiet (fail); try go_wp2)
    go_ret
    exact ⟨by rw [HR.out]; rfl, by repeat (first | exact HB.out | apply below_alloc | apply pw_below_drewN | apply below_drew1)⟩

set_option maxHeartbeats 1000000 in
theorem containsFunc_calls (p : S41 → Bool) (g : Nat) (cb : Array Value) (eg : ∀ args w, (callFunc g args).run Try.prog w = .ok (.enter g args) w) (A0 : Option Addr) (c0 : Nat) (l0 : List S41) (w : World) (hr0 : Kd.C k41 w A0 l0.length l0) (hn : l0.length ≤ 9223372036854775807)
    (hp : ∀ (W : World) (x : S41), Below w.heap.size w W → Calls Try.prog g (#[.agg #[.int .i64 x.f0, .int .i64 x.f1]] ++ cb) W fun e w' => e = .returned (.bool (p x)) ∧ Below w.heap.size w w') :
    Calls Try.prog 29 #[.slice A0 l0.length c0, .func (.func g) #[] cb] w fun e w' => e = .returned (.bool (l0.any p)) ∧ Below w.heap.size w w' := by
  have HC := Aside0.mk (indexFunc_calls p g cb eg A0 c0 l0 w hr0 hn hp)
  have HE : Aside0 (decide (0 ≤ idx p l0) = l0.any p) := ⟨idxFrom_any p l0 0 (by omega)⟩
  clear hr0 hp eg
  generalize idx p l0 = r at HC HE
  go_enter Try.func29, Try.ntmps29
  go_wp2_with (fail)
  refine HC.out.mono ?_
  rintro e w' ⟨rfl, hb'⟩
  go_wp2
  go_ret
  refine ⟨?_, hb'⟩
  rw [← HE.out]; rfl

theorem any_drop (p : S41 → Bool) (l : List S41) (k : Nat) (h : k < l.length) : (l.drop k).any p = (p (rd_T41 l k) || (l.drop (k + 1)).any p) := by
  have : rd_T41 l k = l[k] := by unfold rd_T41; simp [List.getD_eq_getElem?_getD, h]
  rw [this, ← List.any_cons, ← List.drop_eq_getElem_cons h]

def slots_Check.f (l : List S41) : Option Int := some (chk l)
theorem chk_long (l : List S41) (h : 64 < l.length) : chk l = 9 := by unfold chk; rw [if_pos h]
theorem chk_bad (l : List S41) (h : ¬ 64 < l.length) (hb : l.any bad = true) : chk l = 2 := by unfold chk; rw [if_neg h, if_pos hb]
theorem chk_lone (l : List S41) (h : ¬ 64 < l.length) (hb : l.any bad = false) (hl : l.any lone = true) : chk l = 11 := by unfold chk; rw [if_neg h, if_neg (by simp [hb]), if_pos hl]
theorem chk_ok (l : List S41) (h : ¬ 64 < l.length) (hb : l.any bad = false) (hl : l.any lone = false) : chk l = 0 := by unfold chk; rw [if_neg h, if_neg (by simp [hb]), if_neg (by simp [hl])]

set_option maxHeartbeats 1000000 in
theorem slots_Check.calls (A0 : Option Addr) (c0 : Nat) (l0 : List S41) (r : Int) (w : World) (hr0 : Kd.C k41 w A0 l0.length l0) (hc0 : l0.length ≤ c0) (h : slots_Check.f l0 = some r) :
    Calls Try.prog 13 #[.slice A0 l0.length c0] w fun e w' => e = .returned (.int .i64 r) ∧ Below w.heap.size w w' := by
  obtain rfl := Option.some.inj h
  clear h
  have hu41 := Try.underlying41
  have HR := Aside0.mk hr0
  by_cases hlen : 64 < l0.length
  · have HC := Aside0.mk (chk_long l0 hlen)
    have c1 : decide ((64 : Int) < (l0.length : Int)) = true := decide_eq_true (by omega)
    clear hr0 hc0
    go_enter Try.func13, Try.ntmps13
    go_wp2
    go_ret
    exact ⟨by rw [HC.out]; rfl, Below.refl _ _⟩
  · have c1 : decide ((64 : Int) < (l0.length : Int)) = false := decide_eq_false (by omega)
    have hn : l0.length ≤ 64 := by omega
    clear hr0 hc0
    go_enter Try.func13, Try.ntmps13
    go_wp2
    go_loopg [4, 10] l0.length (fun gg _ s10 wr => ∃ kk : Nat, kk ≤ l0.length ∧ l0.length - kk ≤ gg ∧ s10 = .int .i64 kk ∧ Aside0 (Below w.heap.size w wr) ∧ Aside0 (l0.any bad = (l0.drop kk).any bad))
    case atStart => exact ⟨0, Nat.zero_le _, by omega, rfl, ⟨Below.refl _ w⟩, ⟨rfl⟩⟩
    case round =>
      obtain ⟨kk, hkk, hg, rfl, BW, A⟩ := hrel
      by_cases hlt : kk < l0.length
      · have hltz : (kk : Int) < (l0.length : Int) := by omega
        obtain ⟨ad, e0, hx0, hx1⟩ := at_T41 (Kd.C_below HR.out BW.out) (kk : Int) (by omega) hltz
        cases e0
        have hs := any_drop bad l0 kk hlt
        simp only [Int.toNat_natCast] at hx0 hx1
        have HS : Aside0 (l0.any bad = (bad (rd_T41 l0 kk) || (l0.drop (kk + 1)).any bad)) := ⟨A.out.trans hs⟩
        clear hs A
        generalize rd_T41 l0 kk = x at hx0 hx1 HS
        cases t0 : decide (x.f0 < 0) with
        | true =>
          have HC : Aside0 (chk l0 = 2) := ⟨chk_bad l0 hlen (by rw [HS.out]; unfold bad; simp [t0])⟩
          go_wp2
          repeat (go_quiet (fail); try go_wp2)
          go_ret
          exact ⟨by rw [HC.out]; rfl, by repeat (first | exact BW.out | apply below_alloc | apply pw_below_drewN | apply below_drew1)⟩
        | false =>
          cases t1 : decide (3 < x.f0) with
          | true =>
            have HC : Aside0 (chk l0 = 2) := ⟨chk_bad l0 hlen (by rw [HS.out]; unfold bad; simp [t0, t1])⟩
            go_wp2
            repeat (go_quiet (fail); try go_wp2)
            go_ret
            exact ⟨by rw [HC.out]; rfl, by repeat (first | exact BW.out | apply below_alloc | apply pw_below_drewN | apply below_drew1)⟩
          | false =>
            cases t2 : decide (x.f1 < 0) with
            | true =>
              have HC : Aside0 (chk l0 = 2) := ⟨chk_bad l0 hlen (by rw [HS.out]; unfold bad; simp [t0, t1, t2])⟩
              go_wp2
              repeat (go_quiet (fail); try go_wp2)
              go_ret
              exact ⟨by rw [HC.out]; rfl, by repeat (first | exact BW.out | apply below_alloc | apply pw_below_drewN | apply below_drew1)⟩
            | false =>
              cases t3 : decide (1048576 < x.f1) with
              | true =>
                have HC : Aside0 (chk l0 = 2) := ⟨chk_bad l0 hlen (by rw [HS.out]; unfold bad; simp [t0, t1, t2, t3])⟩
                go_wp2
                repeat (go_quiet (fail); try go_wp2)
                go_ret
                exact ⟨by rw [HC.out]; rfl, by repeat (first | exact BW.out | apply below_alloc | apply pw_below_drewN | apply below_drew1)⟩
              | false =>
                have A : Aside0 (l0.any bad = (l0.drop (kk + 1)).any bad) := ⟨by rw [HS.out]; unfold bad; simp [t0, t1, t2, t3]⟩
                clear HS
                go_wp2
                repeat (go_quiet (fail); try go_wp2)
                go_roundg (l0.length - (kk + 1))
                case measure => omega
                case rel => exact ⟨kk + 1, by omega, by omega, by go_num, ⟨by repeat (first | exact BW.out | apply below_alloc | apply pw_below_drewN | apply below_drew1)⟩, A⟩
      · have hltz : ¬ (kk : Int) < (l0.length : Int) := by omega
        have : kk = l0.length := by omega
        subst this
        have hb : l0.any bad = false := by rw [A.out]; simp
        have HL := Aside0.mk (containsFunc_calls lone 30 #[] (entered Try.func30 (by kernel_rfl) rfl) A0 c0 l0 wr (Kd.C_below HR.out BW.out) (by omega) (fun W x hb => lone_calls x wr W hb))
        cases hl : l0.any lone with
        | true =>
          have HC : Aside0 (chk l0 = 11) := ⟨chk_lone l0 hlen hb hl⟩
          rw [hl] at HL
          clear hb hl A
          go_wp2_with (go_at_call 29; refine HL.out.mono ?_; rintro e w' ⟨rfl, hb'⟩)
          go_ret
          exact ⟨by rw [HC.out]; rfl, below_step BW.out hb'⟩
        | false =>
          have HC : Aside0 (chk l0 = 0) := ⟨chk_ok l0 hlen hb hl⟩
          rw [hl] at HL
          clear hb hl A
          go_wp2_with (go_at_call 29; refine HL.out.mono ?_; rintro e w' ⟨rfl, hb'⟩)
          go_ret
          exact ⟨by rw [HC.out]; rfl, below_step BW.out hb'⟩

set_option maxHeartbeats 1000000 in
theorem clone_calls (A0 : Option Addr) (c0 : Nat) (l0 : List S41) (w : World) (hr0 : Kd.C k41 w A0 l0.length l0) (hc0 : l0.length ≤ c0) (hn : l0.length ≤ 64) :
    Calls Try.prog 33 #[.slice A0 l0.length c0] w fun e w' => ∃ v0_ : Value, e = .returned v0_ ∧ Kd.R k41 41 w' w.heap.size (fun _ => True) v0_ l0 ∧ Below w.heap.size w w' := by
  have hu41 := Try.underlying41
  have q22 : ∀ (w : World) (a : Option Addr) (n c n' c' : Nat), (binOp .eql 22 (.slice a n c) (.slice none n' c')).run Try.prog w = .ok (.bool a.isNone) w := fun w a n c n' c' => Lib.run_eql_slice_nil w _ _ a n c n' c' Try.underlying22
  cases A0 with
  | none =>
    have h0 : l0 = [] := by
      cases l0 with
      | nil => rfl
      | cons x l => obtain ⟨ad, e, _⟩ := at_T41 hr0 0 (by omega) (by simp); cases e
    subst h0
    clear hr0
    go_enter Try.func33, Try.ntmps33
    go_wp2
    go_ret
    exact ⟨_, rfl, Kd.R_nil _ _ _ _ _, Below.refl _ _⟩
  | some ad =>
    have HR0 := Aside0.mk hr0
    have HC0 := Aside0.mk hc0
    have HN0 := Aside0.mk hn
    clear hr0 hc0 hn
    have HB := Aside0.mk (Below.refl w.heap.size w)
    go_enter Try.func33, Try.ntmps33
    go_wp2_with (first | ((with_reducible refine gate_dst (N := 5) rfl ?_); refine Kd.R_lit k41 _ 41 ?hg (N := 5) ?hd (xs := ([] : List S41)) (inner := []) (ok := fun _ => True) (okp := fun _ => True) ?hr ?hp (fun _ hk => hk) trivial (Below.refl _ _) (Nat.le_refl _) (by simp) ?_; (case hd => rfl); (case hg => rfl); (case hr => first | (go_simp; done) | (go_simp; rfl)); (case hp => exact (Reps.none _ _)); intro v206 w3 ho4 hb hg_ hnew_; clear hg_ hnew_; have n0_ := Aside0.mk (Kd.R_lower ho4 (below_size HB.out)); have n1_ := Aside0.mk (below_step HB.out hb); clear HB; have HO207 := n0_; have HB := n1_; clear n0_ n1_; clear hb ho4) | ((with_reducible refine gate_builtin (b := .append) (xs := #[.tmp 5, .tmp 6]) rfl ?_); at_builtin; go_must (refine Kd.R_append_rows k41 (Rr := fun x cs => cs = [Value.int .i64 x.f0, Value.int .i64 x.f1]) (w0 := w) w.heap.size rfl (.tmp 5) (.tmp 6) 22 41 (.agg #[(.int .i64 0), (.int .i64 0)]) 16 rfl Try.underlying22 info41 rfl (by decide) (by omega) v206 [] l0 _ _ _ (fun _ => True) (fun _ => False) rfl rfl ?aO ?aR ?aK (fun _ h => h.elim) ?aF ?aB ?aS ?aL ?_); (case aR => exact (Kd.C_below HR0.out HB.out).imp_ (Below.refl _ _) (fun _ _ hp => k41_open hp)); (case aK => intro x cs h; subst h; exact k41_mkM _ _ _ x); (case aB => exact HB.out); (case aF => exact (fun _ _ => trivial)); (case aO => exact HO207.out); (case aS => exact (below_size HB.out)); (case aL => have := HN0.out; simp; omega); intro v209 w5 ho hb hg hat; have n0_ := Aside0.mk (hb); have n1_ := Aside0.mk (ho); clear HB; clear HO207; have HB := n0_; have HO210 := n1_; clear n0_ n1_; clear ho hb hg hat))
    go_ret
    exact ⟨_, rfl, by have := HO210.out; simpa using this, HB.out⟩

def freeS (s : S41) : Bool := s.f0 == 0
set_option maxHeartbeats 1000000 in
theorem free_calls (x : S41) (w W : World) (hb : Below w.heap.size w W) :
    Calls Try.prog 32 (#[.agg #[.int .i64 x.f0, .int .i64 x.f1]] ++ #[]) W fun e w' => e = .returned (.bool (freeS x)) ∧ Below w.heap.size w w' := by
  have hu41 := Try.underlying41
  show Calls Try.prog 32 #[.agg #[.int .i64 x.f0, .int .i64 x.f1]] W _
  have HB := Aside0.mk hb
  clear hb
  cases h0 : x.f0 == 0 with
  | true =>
    have HR : Aside0 (freeS x = true) := ⟨by unfold freeS; rw [h0]⟩
    go_enter Try.func32, Try.ntmps32
    go_wp2
    go_ret
    exact ⟨by rw [HR.out]; rfl, by repeat (first | exact HB.out | apply below_alloc | apply pw_below_drewN | apply below_drew1)⟩
  | false =>
    have HR : Aside0 (freeS x = false) := ⟨by unfold freeS; rw [h0]⟩
    go_enter Try.func32, Try.ntmps32
    go_wp2
    go_ret
    exact ⟨by rw [HR.out]; rfl, by repeat (first | exact HB.out | apply below_alloc | apply pw_below_drewN | apply below_drew1)⟩

section
variable {W : World} {base g n cap : Nat} {xs : List S41}
theorem row_at (h : Kd.R k41 41 W base (fun _ => True) (.slice (some ⟨g, 0, none⟩) n cap) xs) (i : Int) (h0 : 0 ≤ i) (h1 : i < n) :
    W.cell? ⟨g, i.toNat * 2, none⟩ = some (.int .i64 (rd_T41 xs i).f0) ∧ W.cell? ⟨g, i.toNat * 2 + 1, none⟩ = some (.int .i64 (rd_T41 xs i).f1) ∧ W.frozen? ⟨g, i.toNat * 2, none⟩ = false ∧ W.frozen? ⟨g, i.toNat * 2 + 1, none⟩ = false := by
  obtain ⟨c, hcl, hM, hcc, hfr⟩ := Kd.R_elem h z41 i h0 h1
  obtain rfl := k41_openM hM
  exact ⟨hcc 0 _ rfl, hcc 1 _ rfl, hfr 0, hfr 1⟩
theorem row_put0 (h : Kd.R k41 41 W base (fun _ => True) (.slice (some ⟨g, 0, none⟩) n cap) xs) (i : Int) (h0 : 0 ≤ i) (h1 : i < n) (a : Int) :
    Kd.R k41 41 (W.setCell ⟨g, i.toNat * 2, none⟩ (.int .i64 a)) base (fun _ => True) (.slice (some ⟨g, 0, none⟩) n cap) (xs.set i.toNat ⟨a, (rd_T41 xs i).f1⟩) := by
  obtain ⟨c, hcl, hM, hcc, hfr⟩ := Kd.R_elem h z41 i h0 h1
  obtain rfl := k41_openM hM
  exact (Kd.R_seg h i h0 h1 (seg := [.int .i64 a]) (j := 0) hcl hcc (show 1 ≤ 2 from by decide) (x' := (⟨a, (rd_T41 xs i).f1⟩ : S41)) (k41_mkM _ _ _ (⟨a, (rd_T41 xs i).f1⟩ : S41)) (fun _ hk => hk)).1
theorem row_put1 (h : Kd.R k41 41 W base (fun _ => True) (.slice (some ⟨g, 0, none⟩) n cap) xs) (i : Int) (h0 : 0 ≤ i) (h1 : i < n) (a : Int) :
    Kd.R k41 41 (W.setCell ⟨g, i.toNat * 2 + 1, none⟩ (.int .i64 a)) base (fun _ => True) (.slice (some ⟨g, 0, none⟩) n cap) (xs.set i.toNat ⟨(rd_T41 xs i).f0, a⟩) := by
  obtain ⟨c, hcl, hM, hcc, hfr⟩ := Kd.R_elem h z41 i h0 h1
  obtain rfl := k41_openM hM
  exact (Kd.R_seg h i h0 h1 (seg := [.int .i64 a]) (j := 1) hcl hcc (show 2 ≤ 2 from by decide) (x' := (⟨(rd_T41 xs i).f0, a⟩ : S41)) (k41_mkM _ _ _ (⟨(rd_T41 xs i).f0, a⟩ : S41)) (fun _ hk => hk)).1
theorem row_put (h : Kd.R k41 41 W base (fun _ => True) (.slice (some ⟨g, 0, none⟩) n cap) xs) (i : Int) (h0 : 0 ≤ i) (h1 : i < n) (a b : Int) :
    Kd.R k41 41 ((W.setCell ⟨g, i.toNat * 2, none⟩ (.int .i64 a)).setCell ⟨g, i.toNat * 2 + 1, none⟩ (.int .i64 b)) base (fun _ => True) (.slice (some ⟨g, 0, none⟩) n cap) (xs.set i.toNat ⟨a, b⟩) := by
  obtain ⟨c, hcl, hM, hcc, hfr⟩ := Kd.R_elem h z41 i h0 h1
  obtain rfl := k41_openM hM
  exact (Kd.R_seg h i h0 h1 (seg := [.int .i64 a, .int .i64 b]) (j := 0) hcl hcc (show 2 ≤ 2 from by decide) (x' := (⟨a, b⟩ : S41)) (k41_mkM _ _ _ (⟨a, b⟩ : S41)) (fun _ hk => hk)).1
end

def NilErr (w : World) (E : Int) (e : Ending) (w' : World) : Prop := e = .returned (.tuple #[.slice none 0 0, .int .i64 E]) ∧ Below w.heap.size w w'

set_option maxHeartbeats 1000000 in
theorem with_err (g : Nat) (cb : Array Value) (A0 : Option Addr) (c0 : Nat) (l0 : List S41) (a1 : Int) (w : World) (hr0 : Kd.C k41 w A0 l0.length l0) (hc0 : l0.length ≤ c0) (hk : chk l0 ≠ 0) :
    Calls Try.prog 34 #[.slice A0 l0.length c0, .int .i64 a1, .func (.func g) #[] cb] w (NilErr w (chk l0)) := by
  have HC := Aside0.mk (slots_Check.calls A0 c0 l0 (chk l0) w hr0 hc0 rfl)
  clear hr0 hc0
  have c1 : (chk l0 != 0) = true := bne_iff_ne.mpr hk
  clear hk
  generalize chk l0 = r at HC c1
  go_enter Try.func34, Try.ntmps34
  go_wp2_with (go_at_call 13; refine HC.out.mono ?_; rintro e w' ⟨rfl, hb'⟩)
  go_ret2
  exact ⟨rfl, hb'⟩

set_option maxHeartbeats 1000000 in
theorem with_none (g : Nat) (cb : Array Value) (A0 : Option Addr) (c0 : Nat) (l0 : List S41) (a1 : Int) (w : World) (hr0 : Kd.C k41 w A0 l0.length l0) (hc0 : l0.length ≤ c0) (hk : chk l0 = 0) (ha : a1 < 0 ∨ l0.length ≤ a1 ∨ (0 ≤ a1 ∧ a1 < l0.length ∧ (rd_T41 l0 a1).f0 = 0)) :
    Calls Try.prog 34 #[.slice A0 l0.length c0, .int .i64 a1, .func (.func g) #[] cb] w (NilErr w 6) := by
  have HC := Aside0.mk (slots_Check.calls A0 c0 l0 0 w hr0 hc0 (by unfold slots_Check.f; rw [hk]))
  have hu41 := Try.underlying41
  have HR := Aside0.mk hr0
  clear hr0 hc0 hk
  by_cases h1 : a1 < 0
  · have c1 : decide (a1 < 0) = true := decide_eq_true h1
    clear ha h1
    go_enter Try.func34, Try.ntmps34
    go_wp2_with (go_at_call 13; refine HC.out.mono ?_; rintro e w' ⟨rfl, hb'⟩)
    repeat (go_quiet (fail); try go_wp2)
    go_ret2
    exact ⟨rfl, by repeat (first | exact hb' | apply pw_below_drewN)⟩
  · have c1 : decide (a1 < 0) = false := decide_eq_false h1
    by_cases h2 : l0.length ≤ a1
    · have c2 : decide ((l0.length : Int) ≤ a1) = true := decide_eq_true h2
      clear ha h1 h2
      go_enter Try.func34, Try.ntmps34
      go_wp2_with (go_at_call 13; refine HC.out.mono ?_; rintro e w' ⟨rfl, hb'⟩)
      repeat (go_quiet (fail); try go_wp2)
      go_ret2
      exact ⟨rfl, by repeat (first | exact hb' | apply pw_below_drewN)⟩
    · have c2 : decide ((l0.length : Int) ≤ a1) = false := decide_eq_false h2
      have h3 : (rd_T41 l0 a1).f0 = 0 := by omega
      have c3 : ((rd_T41 l0 a1).f0 == 0) = true := beq_iff_eq.mpr h3
      have p1 : 0 ≤ a1 := by omega
      have p2 : a1 < (l0.length : Int) := by omega
      clear ha h1 h2 h3
      go_enter Try.func34, Try.ntmps34
      go_wp2_with (go_at_call 13; refine HC.out.mono ?_; rintro e w' ⟨rfl, hb'⟩; obtain ⟨ad, e0, hx0, hx1⟩ := at_T41 (Kd.C_below HR.out hb') a1 p1 p2; cases e0)
      repeat (go_quiet (fail); try go_wp2)
      go_ret2
      exact ⟨rfl, by repeat (first | exact hb' | apply pw_below_drewN)⟩

def Done (w : World) (l0 : List S41) (Rel : World → Nat → World → Prop) (e : Ending) (w' : World) : Prop :=
  ∃ (W : World) (b cap : Nat), e = .returned (.tuple #[.slice (some ⟨b, 0, none⟩) l0.length cap, .int .i64 0]) ∧ w.heap.size ≤ b ∧ Kd.R k41 41 W w.heap.size (fun _ => True) (.slice (some ⟨b, 0, none⟩) l0.length cap) l0 ∧ Below w.heap.size w W ∧ Rel W b w'
def Not (w : World) (E : Int) (Rel : World → Nat → World → Prop) (e : Ending) (w' : World) : Prop :=
  e = .returned (.tuple #[.slice none 0 0, .int .i64 E]) ∧ ∃ (W : World) (b : Nat), w.heap.size ≤ b ∧ Below w.heap.size w W ∧ Rel W b w'
def Pays (w : World) (g : Nat) (cb : Array Value) (l0 : List S41) (a1 : Int) (E : Int) (Rel : World → Nat → World → Prop) : Prop :=
  ∀ (W : World) (b : Nat), Below w.heap.size w W → w.heap.size ≤ b →
    W.cell? ⟨b, a1.toNat * 2, none⟩ = some (.int .i64 (rd_T41 l0 a1).f0) → W.cell? ⟨b, a1.toNat * 2 + 1, none⟩ = some (.int .i64 (rd_T41 l0 a1).f1) → W.frozen? ⟨b, a1.toNat * 2, none⟩ = false → W.frozen? ⟨b, a1.toNat * 2 + 1, none⟩ = false →
    Calls Try.prog g (#[.pointer (some ⟨b, a1.toNat * 2, none⟩)] ++ cb) W fun e w' => e = .returned (.int .i64 E) ∧ Rel W b w'

theorem chk_len {l : List S41} (h : chk l = 0) : l.length ≤ 64 := by
  unfold chk at h; split at h <;> simp at h <;> omega

set_option maxHeartbeats 1000000 in
theorem with_done (g : Nat) (cb : Array Value) (eg : ∀ args w, (callFunc g args).run Try.prog w = .ok (.enter g args) w) (A0 : Option Addr) (c0 : Nat) (l0 : List S41) (a1 : Int) (w : World) (hr0 : Kd.C k41 w A0 l0.length l0) (hc0 : l0.length ≤ c0) (hk : chk l0 = 0)
    (p1 : 0 ≤ a1) (p2 : a1 < (l0.length : Int)) (h3 : (rd_T41 l0 a1).f0 ≠ 0) (E : Int) (Rel : World → Nat → World → Prop) (hp : Pays w g cb l0 a1 E Rel) (hE : E = 0) :
    Calls Try.prog 34 #[.slice A0 l0.length c0, .int .i64 a1, .func (.func g) #[] cb] w (Done w l0 Rel) := by
  subst hE
  have HC := Aside0.mk (slots_Check.calls A0 c0 l0 0 w hr0 hc0 (by unfold slots_Check.f; rw [hk]))
  have hu41 := Try.underlying41
  have HR := Aside0.mk hr0
  have HC0 := Aside0.mk hc0
  have HN := Aside0.mk (chk_len hk)
  have c1 : decide (a1 < 0) = false := decide_eq_false (by omega)
  have c2 : decide ((l0.length : Int) ≤ a1) = false := decide_eq_false (by omega)
  have c3 : ((rd_T41 l0 a1).f0 == 0) = false := beq_eq_false_iff_ne.mpr h3
  clear hr0 hc0 hk h3
  go_enter Try.func34, Try.ntmps34
  go_wp2_with (first | (go_at_call 13; refine HC.out.mono ?_; rintro e w' ⟨rfl, hb'⟩; obtain ⟨ad, e0, hx0, hx1⟩ := at_T41 (Kd.C_below HR.out hb') a1 p1 p2; cases e0))
  repeat (go_quiet (fail); try go_wp2_with (fail))
  refine (clone_calls _ c0 l0 _ (Kd.C_below HR.out (by repeat (first | exact hb' | apply pw_below_drewN))) HC0.out HN.out).mono ?_
  rintro e w1 ⟨v, rfl, ho, hb1⟩
  have HB := Aside0.mk (below_step (by repeat (first | exact hb' | apply pw_below_drewN) : Below w.heap.size w _) hb1)
  have HO := Aside0.mk (Kd.R_lower ho (by have := hb'.size; simpa using this))
  clear hb' hb1 ho
  obtain ⟨b, cap, rfl, gb, gl, _⟩ := Kd.R_form HO.out (by omega)
  obtain ⟨hx0', hx1', hf0, hf1⟩ := row_at HO.out a1 p1 p2
  have HP := Aside0.mk (hp w1 b HB.out gb hx0' hx1' hf0 hf1)
  clear hp hx0' hx1' hf0 hf1 hx0 hx1
  go_wp2_with (fail)
  refine HP.out.mono ?_
  rintro e w2 ⟨rfl, hrel⟩
  have HL := Aside0.mk hrel
  clear hrel HP
  go_wp2
  go_ret2
  exact ⟨w1, b, cap, rfl, gb, HO.out, HB.out, HL.out⟩
set_option maxHeartbeats 1000000 in
theorem with_not (g : Nat) (cb : Array Value) (eg : ∀ args w, (callFunc g args).run Try.prog w = .ok (.enter g args) w) (A0 : Option Addr) (c0 : Nat) (l0 : List S41) (a1 : Int) (w : World) (hr0 : Kd.C k41 w A0 l0.length l0) (hc0 : l0.length ≤ c0) (hk : chk l0 = 0)
    (p1 : 0 ≤ a1) (p2 : a1 < (l0.length : Int)) (h3 : (rd_T41 l0 a1).f0 ≠ 0) (E : Int) (Rel : World → Nat → World → Prop) (hp : Pays w g cb l0 a1 E Rel) (hE : E ≠ 0) :
    Calls Try.prog 34 #[.slice A0 l0.length c0, .int .i64 a1, .func (.func g) #[] cb] w (Not w E Rel) := by
  have cE : (E != 0) = true := bne_iff_ne.mpr hE
  clear hE
  have HC := Aside0.mk (slots_Check.calls A0 c0 l0 0 w hr0 hc0 (by unfold slots_Check.f; rw [hk]))
  have hu41 := Try.underlying41
  have HR := Aside0.mk hr0
  have HC0 := Aside0.mk hc0
  have HN := Aside0.mk (chk_len hk)
  have c1 : decide (a1 < 0) = false := decide_eq_false (by omega)
  have c2 : decide ((l0.length : Int) ≤ a1) = false := decide_eq_false (by omega)
  have c3 : ((rd_T41 l0 a1).f0 == 0) = false := beq_eq_false_iff_ne.mpr h3
  clear hr0 hc0 hk h3
  go_enter Try.func34, Try.ntmps34
  go_wp2_with (first | (go_at_call 13; refine HC.out.mono ?_; rintro e w' ⟨rfl, hb'⟩; obtain ⟨ad, e0, hx0, hx1⟩ := at_T41 (Kd.C_below HR.out hb') a1 p1 p2; cases e0))
  repeat (go_quiet (fail); try go_wp2_with (fail))
  refine (clone_calls _ c0 l0 _ (Kd.C_below HR.out (by repeat (first | exact hb' | apply pw_below_drewN))) HC0.out HN.out).mono ?_
  rintro e w1 ⟨v, rfl, ho, hb1⟩
  have HB := Aside0.mk (below_step (by repeat (first | exact hb' | apply pw_below_drewN) : Below w.heap.size w _) hb1)
  have HO := Aside0.mk (Kd.R_lower ho (by have := hb'.size; simpa using this))
  clear hb' hb1 ho
  obtain ⟨b, cap, rfl, gb, gl, _⟩ := Kd.R_form HO.out (by omega)
  obtain ⟨hx0', hx1', hf0, hf1⟩ := row_at HO.out a1 p1 p2
  have HP := Aside0.mk (hp w1 b HB.out gb hx0' hx1' hf0 hf1)
  clear hp hx0' hx1' hf0 hf1 hx0 hx1
  go_wp2_with (fail)
  refine HP.out.mono ?_
  rintro e w2 ⟨rfl, hrel⟩
  have HL := Aside0.mk hrel
  clear hrel HP
  go_wp2
  go_ret2
  exact ⟨rfl, w1, b, gb, HB.out, HL.out⟩

theorem chk_good {l : List S41} (h : chk l = 0) (i : Int) (h0 : 0 ≤ i) (h1 : i < l.length) : 0 ≤ (rd_T41 l i).f0 ∧ (rd_T41 l i).f0 ≤ 3 ∧ 0 ≤ (rd_T41 l i).f1 ∧ (rd_T41 l i).f1 ≤ 1048576 ∧ ((rd_T41 l i).f0 = 0 → (rd_T41 l i).f1 = 0) := by
  have hl : i.toNat < l.length := by omega
  have hm : rd_T41 l i ∈ l := by
    unfold rd_T41
    rw [List.getD_eq_getElem?_getD, List.getElem?_eq_getElem hl]
    exact List.getElem_mem hl
  unfold chk at h
  split at h
  · simp at h
  · split at h
    · simp at h
    · split at h
      · simp at h
      · rename_i h2 h3
        have hb : bad (rd_T41 l i) = false := by
          cases e : bad (rd_T41 l i) with
          | false => rfl
          | true => exact absurd (List.any_eq_true.2 ⟨_, hm, e⟩) h2
        have hl : lone (rd_T41 l i) = false := by
          cases e : lone (rd_T41 l i) with
          | false => rfl
          | true => exact absurd (List.any_eq_true.2 ⟨_, hm, e⟩) h3
        unfold bad at hb
        unfold lone at hl
        simp only [Bool.or_eq_false_iff, decide_eq_false_iff_not] at hb
        refine ⟨by omega, by omega, by omega, by omega, fun e => ?_⟩
        simp [e] at hl
        exact hl

/-- Is there such a slot, and is it in use? -/
def here (l : List S41) (a : Int) : Bool := decide (0 ≤ a) && decide (a < (l.length : Int)) && !((rd_T41 l a).f0 == 0)
theorem here_iff (l : List S41) (a : Int) : here l a = true ↔ 0 ≤ a ∧ a < (l.length : Int) ∧ (rd_T41 l a).f0 ≠ 0 := by unfold here; simp [and_assoc]
/-- What 'with' does: the list's error, ErrNone, or what F says of the slot. -/
def wth (l : List S41) (a : Int) (F : S41 → Int × S41) : List S41 × Int :=
  if chk l ≠ 0 then ([], chk l) else if here l a = false then ([], 6) else if (F (rd_T41 l a)).1 ≠ 0 then ([], (F (rd_T41 l a)).1) else (l.set a.toNat (F (rd_T41 l a)).2, 0)

/-- The four ways through a call of 'with'. -/
theorem with_calls (g : Nat) (cb : Array Value) (eg : ∀ args w, (callFunc g args).run Try.prog w = .ok (.enter g args) w) (A0 : Option Addr) (c0 : Nat) (l0 : List S41) (a1 : Int) (w : World) (hr0 : Kd.C k41 w A0 l0.length l0) (hc0 : l0.length ≤ c0)
    (F : S41 → Int × S41) (Rel : World → Nat → World → Prop)
    (hp : chk l0 = 0 → 0 ≤ a1 → a1 < (l0.length : Int) → (rd_T41 l0 a1).f0 ≠ 0 → Pays w g cb l0 a1 (F (rd_T41 l0 a1)).1 Rel) :
    Calls Try.prog 34 #[.slice A0 l0.length c0, .int .i64 a1, .func (.func g) #[] cb] w fun e w' =>
      (((chk l0 ≠ 0 ∨ here l0 a1 = false) ∧ NilErr w (wth l0 a1 F).2 e w' ∧ (wth l0 a1 F).1 = []) ∨
       (chk l0 = 0 ∧ here l0 a1 = true ∧ (F (rd_T41 l0 a1)).1 ≠ 0 ∧ Not w (wth l0 a1 F).2 Rel e w' ∧ wth l0 a1 F = ([], (F (rd_T41 l0 a1)).1)) ∨
       (chk l0 = 0 ∧ here l0 a1 = true ∧ (F (rd_T41 l0 a1)).1 = 0 ∧ Done w l0 Rel e w' ∧ wth l0 a1 F = (l0.set a1.toNat (F (rd_T41 l0 a1)).2, 0))) := by
  by_cases h1 : chk l0 = 0
  · cases h2 : here l0 a1 with
    | false =>
      refine (with_none g cb A0 c0 l0 a1 w hr0 hc0 h1 ?_).mono fun e w' h => .inl ⟨.inr rfl, ?_, ?_⟩
      · by_cases q : 0 ≤ a1 ∧ a1 < l0.length ∧ (rd_T41 l0 a1).f0 ≠ 0
        · rw [(here_iff l0 a1).2 q] at h2; cases h2
        · by_cases q1 : a1 < 0
          · exact .inl q1
          · by_cases q2 : (l0.length : Int) ≤ a1
            · exact .inr (.inl q2)
            · exact .inr (.inr ⟨by omega, by omega, by
                by_cases q3 : (rd_T41 l0 a1).f0 = 0
                · exact q3
                · exact absurd ⟨by omega, by omega, q3⟩ q⟩)
      · unfold wth; rw [if_neg (by simp [h1]), if_pos h2]; exact h
      · unfold wth; rw [if_neg (by simp [h1]), if_pos h2]
    | true =>
      obtain ⟨p1, p2, p3⟩ := (here_iff l0 a1).1 h2
      by_cases h3 : (F (rd_T41 l0 a1)).1 = 0
      · refine (with_done g cb eg A0 c0 l0 a1 w hr0 hc0 h1 p1 p2 p3 _ Rel (hp h1 p1 p2 p3) h3).mono fun e w' h => .inr (.inr ⟨h1, rfl, h3, h, ?_⟩)
        unfold wth; rw [if_neg (by simp [h1]), if_neg (by simp [h2]), if_neg (by simp [h3])]
      · refine (with_not g cb eg A0 c0 l0 a1 w hr0 hc0 h1 p1 p2 p3 _ Rel (hp h1 p1 p2 p3) h3).mono fun e w' h => .inr (.inl ⟨h1, rfl, h3, ?_, ?_⟩)
        · unfold wth; rw [if_neg (by simp [h1]), if_neg (by simp [h2]), if_pos h3]; exact h
        · unfold wth; rw [if_neg (by simp [h1]), if_neg (by simp [h2]), if_pos h3]
  · refine (with_err g cb A0 c0 l0 a1 w hr0 hc0 h1).mono fun e w' h => .inl ⟨.inl h1, ?_, ?_⟩
    · unfold wth; rw [if_pos h1]; exact h
    · unfold wth; rw [if_pos h1]

/-- What the closures without captured variables do. -/
def RelF (l0 : List S41) (a1 : Int) (F : S41 → Int × S41) (W : World) (b : Nat) (w' : World) : Prop :=
  ((F (rd_T41 l0 a1)).1 ≠ 0 → Below W.heap.size W w') ∧ ((F (rd_T41 l0 a1)).1 = 0 → ∀ (base n cap : Nat), Kd.R k41 41 W base (fun _ => True) (.slice (some ⟨b, 0, none⟩) n cap) l0 → a1 < n → Kd.R k41 41 w' base (fun _ => True) (.slice (some ⟨b, 0, none⟩) n cap) (l0.set a1.toNat (F (rd_T41 l0 a1)).2) ∧ ∀ w0 : World, Below w0.heap.size w0 W → w0.heap.size ≤ b → Below w0.heap.size w0 w')

/-- A call of 'with' whose closure turns nothing but the slot. -/
def Plain (w : World) (r1 : List S41) (r2 : Int) (e : Ending) (w' : World) : Prop := ∃ v0_ : Value, e = .returned (.tuple #[v0_, .int .i64 r2]) ∧ Kd.R k41 41 w' w.heap.size (fun _ => True) v0_ r1 ∧ Below w.heap.size w w'
theorem with_plain (g : Nat) (cb : Array Value) (eg : ∀ args w, (callFunc g args).run Try.prog w = .ok (.enter g args) w) (A0 : Option Addr) (c0 : Nat) (l0 : List S41) (a1 : Int) (w : World) (hr0 : Kd.C k41 w A0 l0.length l0) (hc0 : l0.length ≤ c0)
    (F : S41 → Int × S41) (hp : chk l0 = 0 → 0 ≤ a1 → a1 < (l0.length : Int) → (rd_T41 l0 a1).f0 ≠ 0 → Pays w g cb l0 a1 (F (rd_T41 l0 a1)).1 (RelF l0 a1 F)) :
    Calls Try.prog 34 #[.slice A0 l0.length c0, .int .i64 a1, .func (.func g) #[] cb] w (Plain w (wth l0 a1 F).1 (wth l0 a1 F).2) := by
  refine (with_calls g cb eg A0 c0 l0 a1 w hr0 hc0 F _ hp).mono fun e w' h => ?_
  rcases h with ⟨_, ⟨rfl, hb⟩, h1⟩ | ⟨_, _, hE, ⟨rfl, W, b, hb, hB, hrel⟩, h1⟩ | ⟨_, hh, hE, ⟨W, b, cap, rfl, hb, hR, hB, hrel⟩, h1⟩
  · exact ⟨_, rfl, by rw [h1]; exact Kd.R_nil _ _ _ _ _, hb⟩
  · refine ⟨_, rfl, by rw [h1]; exact Kd.R_nil _ _ _ _ _, below_step hB (hrel.1 hE)⟩
  · obtain ⟨k1, k2⟩ := hrel.2 hE _ _ _ hR ((here_iff l0 a1).1 hh).2.1
    exact ⟨_, by rw [h1], by rw [h1]; exact k1, k2 w hB hb⟩

def dupF (s : S41) : Int × S41 := if s.f1 = 1048576 then (9, s) else (0, ⟨s.f0, s.f1 + 1⟩)
def slots_Dup.f (l : List S41) (a : Int) : Option (List S41 × Int) := some (wth l a dupF)
theorem dup_pays (l0 : List S41) (a1 : Int) (w : World) (h : chk l0 = 0) (p1 : 0 ≤ a1) (p2 : a1 < (l0.length : Int)) (p3 : (rd_T41 l0 a1).f0 ≠ 0) : Pays w 35 #[] l0 a1 (dupF (rd_T41 l0 a1)).1 (RelF l0 a1 dupF) := by
  intro W b hB hb h0 h1 f0 f1
  show Calls Try.prog 35 #[.pointer (some ⟨b, a1.toNat * 2, none⟩)] W _
  obtain ⟨_, _, g0, g1, _⟩ := chk_good h a1 p1 p2
  by_cases q : (rd_T41 l0 a1).f1 = 1048576
  · have e1 : dupF (rd_T41 l0 a1) = (9, rd_T41 l0 a1) := by unfold dupF; rw [if_pos q]
    refine (cDup_no b _ _ W h0 h1 (beq_iff_eq.2 q)).mono ?_
    rintro e w' ⟨rfl, rfl⟩
    exact ⟨by rw [e1], fun _ => Below.refl _ _, fun h => by rw [e1] at h; cases h⟩
  · have e1 : dupF (rd_T41 l0 a1) = (0, ⟨(rd_T41 l0 a1).f0, (rd_T41 l0 a1).f1 + 1⟩) := by unfold dupF; rw [if_neg q]
    refine (cDup_yes b _ _ W h0 h1 f0 f1 (beq_eq_false_iff_ne.2 q) g0 g1).mono ?_
    rintro e w' ⟨rfl, rfl⟩
    refine ⟨by rw [e1], fun h => absurd (by rw [e1]) h, fun _ base n cap hR hn => ⟨?_, fun w0 hw hb0 => below_set hw hb0⟩⟩
    rw [e1]
    exact row_put1 hR a1 p1 hn _

set_option maxHeartbeats 1000000 in
theorem slots_Dup.calls (A0 : Option Addr) (c0 : Nat) (l0 : List S41) (a1 : Int) (r1 : List S41) (r2 : Int) (w : World) (hr0 : Kd.C k41 w A0 l0.length l0) (hc0 : l0.length ≤ c0) (h : slots_Dup.f l0 a1 = some (r1, r2)) :
    Calls Try.prog 20 #[.slice A0 l0.length c0, .int .i64 a1] w fun e w' => ∃ v0_ : Value, e = .returned (.tuple #[v0_, .int .i64 r2]) ∧ Kd.R k41 41 w' w.heap.size (fun _ => True) v0_ r1 ∧ Below w.heap.size w w' := by
  have hw := Option.some.inj h
  have HC := Aside0.mk (with_plain 35 #[] (entered Try.func35 (by kernel_rfl) rfl) A0 c0 l0 a1 w hr0 hc0 dupF (fun h p1 p2 p3 => dup_pays l0 a1 w h p1 p2 p3))
  rw [hw] at HC
  clear hr0 hc0 h hw
  go_enter Try.func20, Try.ntmps20
  go_wp2_with (fail)
  refine HC.out.mono ?_
  rintro e w' ⟨v, rfl, hR, hb⟩
  have HR := Aside0.mk hR
  clear hR
  go_wp2
  go_ret2
  exact ⟨_, rfl, HR.out, hb⟩

def relF (s : S41) : Int × S41 := if s.f1 ≠ 0 then (21, s) else (0, ⟨0, 0⟩)
def slots_Release.f (l : List S41) (a : Int) : Option (List S41 × Int) := some (wth l a relF)
theorem release_pays (l0 : List S41) (a1 : Int) (w : World) (h : chk l0 = 0) (p1 : 0 ≤ a1) (p2 : a1 < (l0.length : Int)) (p3 : (rd_T41 l0 a1).f0 ≠ 0) : Pays w 37 #[] l0 a1 (relF (rd_T41 l0 a1)).1 (RelF l0 a1 relF) := by
  intro W b hB hb h0 h1 f0 f1
  show Calls Try.prog 37 #[.pointer (some ⟨b, a1.toNat * 2, none⟩)] W _
  by_cases q : (rd_T41 l0 a1).f1 ≠ 0
  · have e1 : relF (rd_T41 l0 a1) = (21, rd_T41 l0 a1) := by unfold relF; rw [if_pos q]
    refine (cRelease_no b _ _ W h0 h1 (bne_iff_ne.2 q)).mono ?_
    rintro e w' ⟨rfl, rfl⟩
    exact ⟨by rw [e1], fun _ => Below.refl _ _, fun h => by rw [e1] at h; cases h⟩
  · have e1 : relF (rd_T41 l0 a1) = (0, ⟨0, 0⟩) := by unfold relF; rw [if_neg q]
    refine (cRelease_yes b _ _ W h0 h1 f0 f1 (by simpa using q)).mono ?_
    rintro e w' ⟨rfl, rfl⟩
    refine ⟨by rw [e1], fun h => absurd (by rw [e1]) h, fun _ base n cap hR hn => ⟨?_, fun w0 hw hb0 => below_set (below_set hw hb0) hb0⟩⟩
    rw [e1]
    exact row_put hR a1 p1 hn _ _

set_option maxHeartbeats 1000000 in
theorem slots_Release.calls (A0 : Option Addr) (c0 : Nat) (l0 : List S41) (a1 : Int) (r1 : List S41) (r2 : Int) (w : World) (hr0 : Kd.C k41 w A0 l0.length l0) (hc0 : l0.length ≤ c0) (h : slots_Release.f l0 a1 = some (r1, r2)) :
    Calls Try.prog 22 #[.slice A0 l0.length c0, .int .i64 a1] w fun e w' => ∃ v0_ : Value, e = .returned (.tuple #[v0_, .int .i64 r2]) ∧ Kd.R k41 41 w' w.heap.size (fun _ => True) v0_ r1 ∧ Below w.heap.size w w' := by
  have hw := Option.some.inj h
  have HC := Aside0.mk (with_plain 37 #[] (entered Try.func37 (by kernel_rfl) rfl) A0 c0 l0 a1 w hr0 hc0 relF (fun h p1 p2 p3 => release_pays l0 a1 w h p1 p2 p3))
  rw [hw] at HC
  clear hr0 hc0 h hw
  go_enter Try.func22, Try.ntmps22
  go_wp2_with (fail)
  refine HC.out.mono ?_
  rintro e w' ⟨v, rfl, hR, hb⟩
  have HR := Aside0.mk hR
  clear hR
  go_wp2
  go_ret2
  exact ⟨_, rfl, HR.out, hb⟩

def plcF (p : Int) (s : S41) : Int × S41 := if p < 1 ∨ 3 < p then (1, s) else (0, ⟨p, s.f1⟩)
def slots_Place.f (l : List S41) (a p : Int) : Option (List S41 × Int) := some (wth l a (plcF p))
theorem place_pays (l0 : List S41) (a1 p : Int) (pb : Nat) (w : World) (hpb : pb < w.heap.size) (hpc : w.cell? ⟨pb, 0, none⟩ = some (.int .i64 p)) (h : chk l0 = 0) (p1 : 0 ≤ a1) (p2 : a1 < (l0.length : Int)) (p3 : (rd_T41 l0 a1).f0 ≠ 0) : Pays w 40 #[.pointer (some ⟨pb, 0, none⟩)] l0 a1 (plcF p (rd_T41 l0 a1)).1 (RelF l0 a1 (plcF p)) := by
  intro W b hB hb h0 h1 f0 f1
  show Calls Try.prog 40 #[.pointer (some ⟨b, a1.toNat * 2, none⟩), .pointer (some ⟨pb, 0, none⟩)] W _
  have hc : W.cell? ⟨pb, 0, none⟩ = some (.int .i64 p) := (hB.cell (p := ⟨pb, 0, none⟩) hpb).trans hpc
  by_cases q : p < 1 ∨ 3 < p
  · have e1 : plcF p (rd_T41 l0 a1) = (1, rd_T41 l0 a1) := by unfold plcF; rw [if_pos q]
    refine (cPlace_no b _ pb p _ W h0 h1 hc q).mono ?_
    rintro e w' ⟨rfl, hd⟩
    exact ⟨by rw [e1], fun _ => hd.below, fun h => by rw [e1] at h; cases h⟩
  · have e1 : plcF p (rd_T41 l0 a1) = (0, ⟨p, (rd_T41 l0 a1).f1⟩) := by unfold plcF; rw [if_neg q]
    refine (cPlace_yes b _ pb p _ W h0 h1 hc f0 f1 (decide_eq_false (by omega)) (decide_eq_false (by omega))).mono ?_
    rintro e w' ⟨rfl, rfl⟩
    refine ⟨by rw [e1], fun h => absurd (by rw [e1]) h, fun _ base n cap hR hn => ⟨?_, fun w0 hw hb0 => below_set hw hb0⟩⟩
    rw [e1]
    exact row_put0 hR a1 p1 hn _

set_option maxHeartbeats 1000000 in
theorem slots_Place.calls (A0 : Option Addr) (c0 : Nat) (l0 : List S41) (a1 a2 : Int) (r1 : List S41) (r2 : Int) (w : World) (hr0 : Kd.C k41 w A0 l0.length l0) (hc0 : l0.length ≤ c0) (h : slots_Place.f l0 a1 a2 = some (r1, r2)) :
    Calls Try.prog 27 #[.slice A0 l0.length c0, .int .i64 a1, .int .i64 a2] w fun e w' => ∃ v0_ : Value, e = .returned (.tuple #[v0_, .int .i64 r2]) ∧ Kd.R k41 41 w' w.heap.size (fun _ => True) v0_ r1 ∧ Below w.heap.size w w' := by
  have hw := Option.some.inj h
  have HC := Aside0.mk (with_plain 40 #[.pointer (some ⟨w.heap.size, 0, none⟩)] (entered Try.func40 (by kernel_rfl) rfl) A0 c0 l0 a1 (w.alloc (.cells #[.int .i64 a2] 3)) (Kd.C_alloc hr0 _) hc0 (plcF a2) (fun h p1 p2 p3 => place_pays l0 a1 a2 w.heap.size _ (by simp) (by simp) h p1 p2 p3))
  rw [hw] at HC
  clear hr0 hc0 h hw
  go_enter Try.func27, Try.ntmps27
  go_wp2_with (fail)
  refine HC.out.mono ?_
  rintro e w' ⟨v, rfl, hR, hb⟩
  have HR := Aside0.mk hR
  have HB := Aside0.mk hb
  clear hR hb
  go_wp2
  go_ret2
  exact ⟨_, rfl, Kd.R_lower HR.out (by simp), ((Below.refl _ w).alloc (Nat.le_refl _) _).trans (HB.out.mono (by simp))⟩

def dropF (held : Bool) (s : S41) : Int × S41 := if s.f1 = 0 then (11, s) else if s.f1 = 1 ∧ held = false then (0, ⟨0, 0⟩) else (0, ⟨s.f0, s.f1 - 1⟩)
/-- Does a Drop free the slot? -/
def drops (l : List S41) (a : Int) (held : Bool) : Bool := decide (chk l = 0) && here l a && (rd_T41 l a).f1 == 1 && !held
def slots_Drop.f (l : List S41) (a : Int) (held : Bool) : Option (List S41 × Bool × Int) := some ((wth l a (dropF held)).1, drops l a held, (wth l a (dropF held)).2)

theorem cell_other (W : World) {g o fb : Nat} (h : g ≠ fb) (v : Value) : (W.setCell ⟨g, o, none⟩ v).cell? ⟨fb, 0, none⟩ = W.cell? ⟨fb, 0, none⟩ :=
  World.cell?_setCell_other W _ _ v (fun e => by injection e with e1 _; exact h e1)

def RelD (l0 : List S41) (a1 : Int) (held : Bool) (fb : Nat) (W : World) (b : Nat) (w' : World) : Prop :=
  ((dropF held (rd_T41 l0 a1)).1 ≠ 0 → w' = W) ∧
  ((dropF held (rd_T41 l0 a1)).1 = 0 → w'.cell? ⟨fb, 0, none⟩ = some (.bool ((rd_T41 l0 a1).f1 == 1 && !held)) ∧ w'.heap.size = W.heap.size ∧
    ∀ (base n cap : Nat), Kd.R k41 41 W base (fun k => True) (.slice (some ⟨b, 0, none⟩) n cap) l0 → a1 < n → Kd.R k41 41 w' base (fun _ => True) (.slice (some ⟨b, 0, none⟩) n cap) (l0.set a1.toNat (dropF held (rd_T41 l0 a1)).2) ∧ ∀ w0 : World, Below w0.heap.size w0 W → w0.heap.size ≤ b → w0.heap.size ≤ fb → Below w0.heap.size w0 w')

theorem R_far_cell {W : World} {base b n cap fb : Nat} {xs : List S41} (h : Kd.R k41 41 W base (fun _ => True) (.slice (some ⟨b, 0, none⟩) n cap) xs) (hne : b ≠ fb) (v : Value) :
    Kd.R k41 41 (W.setCell ⟨fb, 0, none⟩ v) base (fun _ => True) (.slice (some ⟨b, 0, none⟩) n cap) xs := by
  obtain ⟨_, inner, ho, hr⟩ := h
  refine ⟨fun _ _ => trivial, inner, own_move ho (fun k hk => ?_), ⟨hr.1, fun i x hx => ?_⟩⟩
  · have : b = k := by simpa [Value.ownBlock] using hk
    subst this
    exact Below.heap_setCell W _ v b hne
  · obtain hM := hr.2 i x hx
    have e := k41_openM hM
    rw [e]
    exact k41_mkM _ _ _ x

set_option maxHeartbeats 1000000 in
theorem drop_pays (l0 : List S41) (a1 : Int) (held : Bool) (hb fb : Nat) (w : World) (hhb : hb < w.heap.size) (hfb : fb < w.heap.size) (hne : hb ≠ fb) (hhc : w.cell? ⟨hb, 0, none⟩ = some (.bool held)) (hfc : w.cell? ⟨fb, 0, none⟩ = some (.bool false)) (hff : w.frozen? ⟨fb, 0, none⟩ = false)
    (h : chk l0 = 0) (p1 : 0 ≤ a1) (p2 : a1 < (l0.length : Int)) (p3 : (rd_T41 l0 a1).f0 ≠ 0) :
    Pays w 36 #[.pointer (some ⟨hb, 0, none⟩), .pointer (some ⟨fb, 0, none⟩)] l0 a1 (dropF held (rd_T41 l0 a1)).1 (RelD l0 a1 held fb) := by
  intro W b hB hbb h0 h1 f0 f1
  show Calls Try.prog 36 #[.pointer (some ⟨b, a1.toNat * 2, none⟩), .pointer (some ⟨hb, 0, none⟩), .pointer (some ⟨fb, 0, none⟩)] W _
  obtain ⟨_, _, g0, g1, _⟩ := chk_good h a1 p1 p2
  have hc : W.cell? ⟨hb, 0, none⟩ = some (.bool held) := (hB.cell (p := ⟨hb, 0, none⟩) hhb).trans hhc
  have fc : W.cell? ⟨fb, 0, none⟩ = some (.bool false) := (hB.cell (p := ⟨fb, 0, none⟩) hfb).trans hfc
  have ff : W.frozen? ⟨fb, 0, none⟩ = false := (hB.frozen (p := ⟨fb, 0, none⟩) hfb).trans hff
  have n1 : b ≠ hb := by omega
  have n2 : b ≠ fb := by omega
  by_cases q : (rd_T41 l0 a1).f1 = 0
  · have e1 : dropF held (rd_T41 l0 a1) = (11, rd_T41 l0 a1) := by unfold dropF; rw [if_pos q]
    refine (cDrop_no b _ hb fb held _ W h0 h1 (beq_iff_eq.2 q)).mono ?_
    rintro e w' ⟨rfl, rfl⟩
    exact ⟨by rw [e1], fun _ => rfl, fun h => by rw [e1] at h; cases h⟩
  · by_cases q1 : (rd_T41 l0 a1).f1 = 1
    · cases held with
      | true =>
        have e1 : dropF true (rd_T41 l0 a1) = (0, ⟨(rd_T41 l0 a1).f0, (rd_T41 l0 a1).f1 - 1⟩) := by unfold dropF; rw [if_neg q, if_neg (by simp)]
        refine (cDrop_held b _ hb fb _ W h0 h1 f0 f1 hc n1 n2 g0 g1 (beq_eq_false_iff_ne.2 q) (beq_iff_eq.2 (by omega))).mono ?_
        rintro e w' ⟨rfl, rfl⟩
        refine ⟨by rw [e1], fun h => absurd (by rw [e1]) h, fun _ => ⟨by rw [cell_other W n2, fc]; simp, by simp, fun base n cap hR hn => ⟨?_, fun w0 hw hb0 _ => below_set hw hb0⟩⟩⟩
        rw [e1]
        exact row_put1 hR a1 p1 hn _
      | false =>
        have e1 : dropF false (rd_T41 l0 a1) = (0, ⟨0, 0⟩) := by unfold dropF; rw [if_neg q, if_pos ⟨q1, rfl⟩]
        refine (cDrop_free b _ hb fb _ W h0 h1 f0 f1 hc fc ff n1 n2 g0 g1 (beq_eq_false_iff_ne.2 q) (beq_iff_eq.2 (by omega))).mono ?_
        rintro e w' ⟨rfl, rfl⟩
        refine ⟨by rw [e1], fun h => absurd (by rw [e1]) h, fun _ => ⟨?_, by simp, fun base n cap hR hn => ⟨?_, fun w0 hw hb0 hb1 => below_set (below_set (below_set (below_set hw hb0) hb0) hb0) hb1⟩⟩⟩
        · rw [q1]
          have hlt : ∃ v, ((((W.setCell ⟨b, a1.toNat * 2 + 1, none⟩ (.int .i64 ((1 : Int) - 1))).setCell ⟨b, a1.toNat * 2, none⟩ (.int .i64 0)).setCell ⟨b, a1.toNat * 2 + 1, none⟩ (.int .i64 0)).cell? ⟨fb, 0, none⟩) = some v := ⟨.bool false, by rw [cell_other _ n2, cell_other _ n2, cell_other _ n2, fc]⟩
          obtain ⟨v, hv⟩ := hlt
          rw [World.cell?_setCell_same _ _ _ hv]
          simp
        · rw [e1]
          have k1 := row_put1 hR a1 p1 hn ((rd_T41 l0 a1).f1 - 1)
          have k2 := row_put k1 a1 p1 hn 0 0
          rw [List.set_set] at k2
          exact R_far_cell k2 n2 _
    · have e1 : dropF held (rd_T41 l0 a1) = (0, ⟨(rd_T41 l0 a1).f0, (rd_T41 l0 a1).f1 - 1⟩) := by unfold dropF; rw [if_neg q, if_neg (by simp [q1])]
      refine (cDrop_left b _ hb fb held _ W h0 h1 f0 f1 hc n1 n2 g0 g1 (beq_eq_false_iff_ne.2 q) (beq_eq_false_iff_ne.2 (by omega))).mono ?_
      rintro e w' ⟨rfl, rfl⟩
      refine ⟨by rw [e1], fun h => absurd (by rw [e1]) h, fun _ => ⟨by rw [cell_other W n2, fc]; simp [q1], by simp, fun base n cap hR hn => ⟨?_, fun w0 hw hb0 _ => below_set hw hb0⟩⟩⟩
      rw [e1]
      exact row_put1 hR a1 p1 hn _

def Three (w : World) (fb : Nat) (r1 : List S41) (r2 : Bool) (r3 : Int) (w1 : World) (e : Ending) (w' : World) : Prop :=
  ∃ v0_ : Value, e = .returned (.tuple #[v0_, .int .i64 r3]) ∧ w'.cell? ⟨fb, 0, none⟩ = some (.bool r2) ∧ Kd.R k41 41 w' w1.heap.size (fun _ => True) v0_ r1 ∧ Below w.heap.size w w'

theorem with_drop (held : Bool) (A0 : Option Addr) (c0 : Nat) (l0 : List S41) (a1 : Int) (w w1 : World) (hr0 : Kd.C k41 w1 A0 l0.length l0) (hc0 : l0.length ≤ c0) (hb fb : Nat) (hhb : hb < w1.heap.size) (hfb : fb < w1.heap.size) (hne : hb ≠ fb) (hhc : w1.cell? ⟨hb, 0, none⟩ = some (.bool held)) (hfc : w1.cell? ⟨fb, 0, none⟩ = some (.bool false)) (hff : w1.frozen? ⟨fb, 0, none⟩ = false)
    (hw1 : Below w.heap.size w w1) (hwf : w.heap.size ≤ fb) :
    Calls Try.prog 34 #[.slice A0 l0.length c0, .int .i64 a1, .func (.func 36) #[] #[.pointer (some ⟨hb, 0, none⟩), .pointer (some ⟨fb, 0, none⟩)]] w1 (Three w fb (wth l0 a1 (dropF held)).1 (drops l0 a1 held) (wth l0 a1 (dropF held)).2 w1) := by
  refine (with_calls 36 _ (entered Try.func36 (by kernel_rfl) rfl) A0 c0 l0 a1 w1 hr0 hc0 (dropF held) (RelD l0 a1 held fb) (fun h p1 p2 p3 => drop_pays l0 a1 held hb fb w1 hhb hfb hne hhc hfc hff h p1 p2 p3)).mono fun e w' h => ?_
  rcases h with ⟨hk, ⟨rfl, hb⟩, h1⟩ | ⟨hk, hh, hE, ⟨rfl, W, b, hb, hB, hrel⟩, h1⟩ | ⟨hk, hh, hE, ⟨W, b, cap, rfl, hb, hR, hB, hrel⟩, h1⟩
  · refine ⟨_, rfl, ?_, by rw [h1]; exact Kd.R_nil _ _ _ _ _, below_step hw1 hb⟩
    have : drops l0 a1 held = false := by unfold drops; rcases hk with hk | hk <;> simp [hk]
    rw [this]
    exact (hb.cell (p := ⟨fb, 0, none⟩) hfb).trans hfc
  · obtain rfl := hrel.1 hE
    refine ⟨_, rfl, ?_, by rw [h1]; exact Kd.R_nil _ _ _ _ _, below_step hw1 hB⟩
    have : drops l0 a1 held = false := by
      unfold drops
      have q : (rd_T41 l0 a1).f1 = 0 := by
        unfold dropF at hE
        split at hE
        · assumption
        · split at hE <;> simp at hE
      simp [q]
    rw [this]
    exact (hB.cell (p := ⟨fb, 0, none⟩) hfb).trans hfc
  · obtain ⟨k0, _, k3⟩ := hrel.2 hE
    obtain ⟨k1, k2⟩ := k3 _ _ _ hR ((here_iff l0 a1).1 hh).2.1
    refine ⟨_, by rw [h1], ?_, by rw [h1]; exact k1, k2 w (below_step hw1 hB) (Nat.le_trans hw1.size hb) hwf⟩
    rw [k0]
    unfold drops
    simp [hk, hh]

set_option maxHeartbeats 1000000 in
theorem slots_Drop.calls (A0 : Option Addr) (c0 : Nat) (l0 : List S41) (a1 : Int) (a2 : Bool) (r1 : List S41) (r2 : Bool) (r3 : Int) (w : World) (hr0 : Kd.C k41 w A0 l0.length l0) (hc0 : l0.length ≤ c0) (h : slots_Drop.f l0 a1 a2 = some (r1, r2, r3)) :
    Calls Try.prog 21 #[.slice A0 l0.length c0, .int .i64 a1, .bool a2] w fun e w' => ∃ v0_ : Value, e = .returned (.tuple #[v0_, .bool r2, .int .i64 r3]) ∧ Kd.R k41 41 w' w.heap.size (fun _ => True) v0_ r1 ∧ Below w.heap.size w w' := by
  have hw := Option.some.inj h
  have HC := Aside0.mk (with_drop a2 A0 c0 l0 a1 w ((w.alloc (.cells #[.bool a2] 4)).alloc (.cells #[.bool false] 4)) (Kd.C_alloc (Kd.C_alloc hr0 _) _) hc0 w.heap.size (w.heap.size + 1) (by simp; omega) (by simp) (by omega) (by simp) (by simp) (by simp) (below_alloc (below_alloc (Below.refl _ w) _) _) (by omega))
  simp only [Prod.mk.injEq] at hw
  obtain ⟨rfl, rfl, rfl⟩ := hw
  generalize (wth l0 a1 (dropF a2)).1 = r1 at HC
  generalize (wth l0 a1 (dropF a2)).2 = r3 at HC
  generalize drops l0 a1 a2 = r2 at HC
  clear hr0 hc0 h
  go_enter Try.func21, Try.ntmps21
  go_wp2_with (fail)
  refine HC.out.mono ?_
  rintro e w' ⟨v, rfl, hcell, hR, hb⟩
  have HR := Aside0.mk hR
  have HB := Aside0.mk hb
  clear hR hb
  go_wp2
  repeat (go_quiet (fail); try go_wp2)
  go_ret3
  exact ⟨_, rfl, by repeat (first | exact Kd.R_lower HR.out (by simp; omega) | apply Kd.R_drewN | apply Kd.R_drew), by repeat (first | exact HB.out | apply pw_below_drewN | apply below_drew1)⟩

theorem idxFrom_lt (p : S41 → Bool) : ∀ (l : List S41) (k : Int), 0 ≤ k → (idxFrom p l k = -1 ∨ (k ≤ idxFrom p l k ∧ idxFrom p l k < k + l.length))
  | [], k, h => .inl rfl
  | x :: l, k, h => by
    simp only [idxFrom]
    by_cases hp : p x = true
    · rw [if_pos hp]; right; simp; omega
    · rw [if_neg hp]
      rcases idxFrom_lt p l (k + 1) (by omega) with h1 | h1
      · exact .inl h1
      · right; simp; omega
theorem idx_lt (p : S41 → Bool) (l : List S41) : idx p l = -1 ∨ (0 ≤ idx p l ∧ idx p l < l.length) := by
  have := idxFrom_lt p l 0 (by omega); unfold idx; simpa using this

def allocF (l : List S41) : List S41 × Int × Int := if chk l ≠ 0 then ([], 0, chk l) else if idx freeS l < 0 then ([], 0, 8) else (l.set (idx freeS l).toNat ⟨1, 0⟩, idx freeS l, 0)
def slots_Alloc.f (l : List S41) : Option (List S41 × Int × Int) := some (allocF l)

set_option maxHeartbeats 1000000 in
theorem slots_Alloc.calls (A0 : Option Addr) (c0 : Nat) (l0 : List S41) (r1 : List S41) (r2 r3 : Int) (w : World) (hr0 : Kd.C k41 w A0 l0.length l0) (hc0 : l0.length ≤ c0) (h : slots_Alloc.f l0 = some (r1, r2, r3)) :
    Calls Try.prog 19 #[.slice A0 l0.length c0] w fun e w' => ∃ v0_ : Value, e = .returned (.tuple #[v0_, .int .i64 r2, .int .i64 r3]) ∧ Kd.R k41 41 w' w.heap.size (fun _ => True) v0_ r1 ∧ Below w.heap.size w w' := by
  have hw := Option.some.inj h
  clear h
  have hu41 := Try.underlying41
  have HR := Aside0.mk hr0
  have HC0 := Aside0.mk hc0
  have HC := Aside0.mk (slots_Check.calls A0 c0 l0 (chk l0) w hr0 hc0 rfl)
  unfold allocF at hw
  by_cases h1 : chk l0 = 0
  · rw [if_neg (by simp [h1])] at hw
    rw [h1] at HC
    have HN := Aside0.mk (chk_len h1)
    have HI : Aside0 (∀ W : World, Below w.heap.size w W → Calls Try.prog 31 #[.slice A0 l0.length c0, .func (.func 32) #[] #[]] W fun e w' => e = .returned (.int .i64 (idx freeS l0)) ∧ Below W.heap.size W w') :=
      ⟨fun W hW => indexFunc_calls freeS 32 #[] (entered Try.func32 (by kernel_rfl) rfl) A0 c0 l0 W (Kd.C_below hr0 hW) (by have := HN.out; omega) (fun W' x hb => free_calls x W W' hb)⟩
    have hlt := idx_lt freeS l0
    clear hr0 hc0 h1
    generalize hi : idx freeS l0 = i at HI hlt hw
    clear hi
    by_cases h2 : i < 0
    · rw [if_pos h2] at hw
      simp only [Prod.mk.injEq] at hw
      obtain ⟨rfl, rfl, rfl⟩ := hw
      have c2 : decide (i < 0) = true := decide_eq_true h2
      clear hlt h2
      go_enter Try.func19, Try.ntmps19
      go_wp2_with (go_at_call 13; refine HC.out.mono ?_; rintro e w' ⟨rfl, hb'⟩)
      refine (HI.out _ hb').mono ?_
      rintro e w2 ⟨rfl, hb2⟩
      have HB := Aside0.mk (below_step hb' hb2)
      clear hb' hb2
      go_wp2
      go_ret3
      exact ⟨_, rfl, Kd.R_nil _ _ _ _ _, HB.out⟩
    · rw [if_neg h2] at hw
      simp only [Prod.mk.injEq] at hw
      obtain ⟨rfl, rfl, rfl⟩ := hw
      have c2 : decide (i < 0) = false := decide_eq_false h2
      have p1 : 0 ≤ i := by omega
      have p2 : i < (l0.length : Int) := by omega
      clear hlt h2
      go_enter Try.func19, Try.ntmps19
      go_wp2_with (go_at_call 13; refine HC.out.mono ?_; rintro e w' ⟨rfl, hb'⟩)
      refine (HI.out _ hb').mono ?_
      rintro e w2 ⟨rfl, hb2⟩
      have HB := Aside0.mk (below_step hb' hb2)
      clear hb' hb2
      go_wp2_with (fail)
      refine (clone_calls _ c0 l0 _ (Kd.C_below HR.out HB.out) HC0.out HN.out).mono ?_
      rintro e w1 ⟨v, rfl, ho, hb1⟩
      have HO := Aside0.mk (Kd.R_lower ho HB.out.size)
      have HB1 := Aside0.mk (below_step HB.out hb1)
      clear hb1 ho HB
      obtain ⟨b, cap, rfl, gb, gl, _⟩ := Kd.R_form HO.out (by omega)
      obtain ⟨hx0, hx1, hf0, hf1⟩ := row_at HO.out i p1 p2
      go_wp2
      go_ret3
      exact ⟨_, rfl, row_put HO.out i p1 p2 1 0, below_set (below_set HB1.out gb) gb⟩
  · rw [if_pos h1] at hw
    have c1 : (chk l0 != 0) = true := bne_iff_ne.mpr h1
    generalize chk l0 = r at HC c1 hw h1
    simp only [Prod.mk.injEq] at hw
    obtain ⟨rfl, rfl, rfl⟩ := hw
    clear hr0 hc0 h1
    go_enter Try.func19, Try.ntmps19
    go_wp2_with (go_at_call 13; refine HC.out.mono ?_; rintro e w' ⟨rfl, hb'⟩)
    go_ret3
    exact ⟨_, rfl, Kd.R_nil _ _ _ _ _, hb'⟩
end Go.Proofs.Ytjaondnglmimaaa.X
