/- The walks of package durable, and their lists: find, the map of ids, apply, run, Check, bytes.Clone. -/
import Derived.Test.YtghmkmpgfpkfmaaX0
import Derived.WalkSpells
import Derived.MapKept
import Derived.Deep.RegionLaw
import Derived.Lib.SliceRun
import Derived.Deep.Upon
namespace Go.Proofs.Ytghmkmpgfpkfmaa.X
open Go.RowKit Go.Proofs.YtghmkmpgfpkfmaaW.PrintWords Go.Proofs.YtghmkmpgfpkfmaaW.PrintLast Go.Proofs.YtghmkmpgfpkfmaaW.PrintMore
set_option linter.unusedVariables false
set_option linter.unusedSimpArgs false

theorem entered {P : Program} {f : FuncId} {fn : Func} {c : Code} (hf : P.funcs[f]? = some fn) (hn : (fn.name == "runtime.NumGoroutine") = false) (hb : fn.body = some c) (args : Array Value) (w : World) : (callFunc f args).run P w = .ok (.enter f args) w := by
  have h1 : fn.name ≠ "runtime.NumGoroutine" := by simpa using hn
  simp [callFunc, hf, h1, hb, mark]

/-- A content: a slice value, and what it holds. -/
structure Pg where
  A : Option Addr
  c : Nat
  b : List Int
def Pg.v (p : Pg) : Value := .slice p.A p.b.length p.c
def kP : Kd Pg := Kd.scalar Pg.v (fun _ => rfl)
def zP : Pg := ⟨none, 0, []⟩
/-- An outstanding write. -/
structure Ou where
  id : Int
  blk : Int
  pg : Pg
def zO : Ou := ⟨0, 0, zP⟩
def kO : Kd Ou := Kd.iso (Kd.pair (Kd.int .i64) (Kd.pair (Kd.int .i64) kP)) (fun x : Ou => (x.id, x.blk, x.pg))
theorem kO_open {w : World} {x : Ou} {cs : List Value} (h : kO.K w x cs) : cs = [.int .i64 x.id, .int .i64 x.blk, x.pg.v] := by
  obtain ⟨_, _, rfl, rfl, ⟨_, _, rfl, rfl, rfl⟩⟩ := h
  rfl
theorem kO_mkM (w : World) (base : Nat) (ok : Nat → Prop) (x : Ou) : kO.M w base ok x [.int .i64 x.id, .int .i64 x.blk, x.pg.v] := ⟨[.int .i64 x.id], [.int .i64 x.blk, x.pg.v], rfl, rfl, ⟨[.int .i64 x.blk], [x.pg.v], rfl, rfl, rfl⟩⟩
def rd_O (xs : List Ou) (i : Int) : Ou := xs.getD i.toNat zO
theorem at_O {w : World} {A : Option Addr} {n : Nat} {xs : List Ou} (h : Kd.C kO w A n xs) (i : Int) (h0 : 0 ≤ i) (h1 : i < n) : ∃ ad, A = some ad ∧ w.cell? (ad.add (i.toNat * 3)) = some (.int .i64 (rd_O xs i).id) ∧ w.cell? ⟨(ad.add (i.toNat * 3)).block, (ad.add (i.toNat * 3)).off + 1, none⟩ = some (.int .i64 (rd_O xs i).blk) ∧ w.cell? ⟨(ad.add (i.toNat * 3)).block, (ad.add (i.toNat * 3)).off + 2, none⟩ = some (.slice (rd_O xs i).pg.A (rd_O xs i).pg.b.length (rd_O xs i).pg.c) := by
  obtain ⟨ad, c, e, _, hK, hc0⟩ := Kd.C_get h zO i h0 h1
  have hc : ∀ j u, c[j]? = some u → w.cell? (ad.add (i.toNat * 3 + j)) = some u := hc0
  have := kO_open hK
  subst this
  exact ⟨ad, e, hc 0 _ rfl, by rw [← add_field _ _ 1 (by omega)]; exact hc 1 _ rfl, by rw [← add_field _ _ 2 (by omega)]; exact hc 2 _ rfl⟩
def rd_P (xs : List Pg) (i : Int) : Pg := xs.getD i.toNat zP
theorem at_P {w : World} {A : Option Addr} {n : Nat} {xs : List Pg} (h : Kd.C kP w A n xs) (i : Int) (h0 : 0 ≤ i) (h1 : i < n) : ∃ ad, A = some ad ∧ w.cell? (ad.add i.toNat) = some (.slice (rd_P xs i).A (rd_P xs i).b.length (rd_P xs i).c) := by
  obtain ⟨ad, c, e, _, hK, hc0⟩ := Kd.C_get h zP i h0 h1
  have hc : ∀ j u, c[j]? = some u → w.cell? (ad.add (i.toNat * 1 + j)) = some u := hc0
  have : c = [Pg.v (rd_P xs i)] := hK
  subst this
  exact ⟨ad, e, by have hq := hc 0 _ rfl; rwa [Nat.mul_one, Nat.add_zero] at hq⟩
theorem rd_O_nat (l : List Ou) (i : Nat) (h : i < l.length) : rd_O l i = l[i] := by unfold rd_O; simp [List.getD_eq_getElem?_getD, h]
theorem rd_P_nat (l : List Pg) (i : Nat) (h : i < l.length) : rd_P l i = l[i] := by unfold rd_P; simp [List.getD_eq_getElem?_getD, h]

/-- The place of the first outstanding write with an id, from k on, or -1. -/
def idFrom (id : Int) : List Ou → Int → Int
  | [], _ => -1
  | x :: l, k => if x.id == id then k else idFrom id l (k + 1)
def idAt (id : Int) (l : List Ou) : Int := idFrom id l 0
theorem idFrom_drop (id : Int) (l : List Ou) (k : Nat) (h : k < l.length) : idFrom id (l.drop k) k = if (rd_O l k).id == id then (k : Int) else idFrom id (l.drop (k + 1)) ((k : Int) + 1) := by
  rw [rd_O_nat l k h, List.drop_eq_getElem_cons h]
  simp only [idFrom]

set_option maxHeartbeats 1000000 in
theorem find1_calls (x : Ou) (id : Int) (B : Nat) (W : World) (hc : W.cell? ⟨B, 0, none⟩ = some (.int .i64 id)) :
    Calls Try.prog 60 #[.agg #[.int .i64 x.id, .int .i64 x.blk, .slice x.pg.A x.pg.b.length x.pg.c], .pointer (some ⟨B, 0, none⟩)] W fun e w' => e = .returned (.bool (x.id == id)) ∧ Below W.heap.size W w' := by
  have HC := fun o => pw_cell_below (below_alloc (Below.refl _ W) o) hc
  clear hc
  have hu := Try.underlying71
  go_enter Try.func60, Try.ntmps60
  go_wp2
  go_ret
  exact ⟨rfl, below_alloc (Below.refl _ _) _⟩

set_option maxHeartbeats 1000000 in
theorem indexO_calls (id : Int) (B : Nat) (A0 : Option Addr) (c0 : Nat) (l0 : List Ou) (w : World) (hr0 : Kd.C kO w A0 l0.length l0) (hn : l0.length ≤ 9223372036854775807) (hc : w.cell? ⟨B, 0, none⟩ = some (.int .i64 id)) :
    Calls Try.prog 59 #[.slice A0 l0.length c0, .func (.func 60) #[] #[.pointer (some ⟨B, 0, none⟩)]] w fun e w' => e = .returned (.int .i64 (idAt id l0)) ∧ Below w.heap.size w w' := by
  have HR := Aside0.mk hr0
  have HP := Aside0.mk (fun (W : World) (x : Ou) (hb : Below w.heap.size w W) => (find1_calls x id B W (pw_cell_below hb hc)).mono (fun e w' (h : e = _ ∧ Below W.heap.size W w') => show e = _ ∧ Below w.heap.size w w' from ⟨h.1, hb.trans (h.2.mono hb.size)⟩))
  clear hr0 hc
  have hu71 := Try.underlying71
  have eg : ∀ args w, (callFunc 60 args).run Try.prog w = .ok (.enter 60 args) w := entered Try.func60 (by kernel_rfl) rfl
  go_enter Try.func59, Try.ntmps59
  go_wp2
  go_loopg [5, 8] l0.length (fun gg _ s8 wr => ∃ kk : Nat, kk ≤ l0.length ∧ l0.length - kk ≤ gg ∧ s8 = .int .i64 kk ∧ Aside0 (Below w.heap.size w wr) ∧ Aside0 (idAt id l0 = idFrom id (l0.drop kk) kk))
  case atStart => exact ⟨0, Nat.zero_le _, by omega, rfl, ⟨Below.refl _ w⟩, ⟨rfl⟩⟩
  case round =>
    obtain ⟨kk, hkk, hg, rfl, BW, A⟩ := hrel
    by_cases hlt : kk < l0.length
    · have hltz : (kk : Int) < (l0.length : Int) := by omega
      obtain ⟨ad, e0, hx0, hx1, hx2⟩ := at_O (Kd.C_below HR.out BW.out) (kk : Int) (by omega) hltz
      cases e0
      have hcall := HP.out wr (rd_O l0 kk) BW.out
      simp only [Int.toNat_natCast] at hx0 hx1 hx2
      have HA := A.out
      rw [idFrom_drop id l0 kk hlt] at HA
      cases hq : ((rd_O l0 kk).id == id) with
      | true =>
        rw [hq] at hcall
        have HS : Aside0 (idAt id l0 = kk) := ⟨by rw [HA, hq, if_pos rfl]⟩
        clear hq A HA
        generalize rd_O l0 kk = x at hx0 hx1 hx2 hcall
        go_wp2_with (fail)
        refine hcall.mono ?_
        rintro e w' ⟨rfl, hb'⟩
        clear hcall hx0 hx1 hx2
        go_wp2
        go_ret
        refine ⟨?_, hb'⟩
        rw [HS.out]; rfl
      | false =>
        rw [hq] at hcall
        have HS : Aside0 (idAt id l0 = idFrom id (l0.drop (kk + 1)) ((kk : Int) + 1)) := ⟨by rw [HA, hq, if_neg (by simp)]⟩
        clear hq A HA
        generalize rd_O l0 kk = x at hx0 hx1 hx2 hcall
        go_wp2_with (fail)
        refine hcall.mono ?_
        rintro e w' ⟨rfl, hb'⟩
        clear hcall hx0 hx1 hx2
        go_wp2
        go_roundg (l0.length - (kk + 1))
        case measure => omega
        case rel =>
          exact ⟨kk + 1, by omega, by omega, by go_num, ⟨hb'⟩, ⟨by rw [HS.out]; simp⟩⟩
    · have hltz : ¬ (kk : Int) < (l0.length : Int) := by omega
      have : kk = l0.length := by omega
      subst this
      go_wp2
      go_ret
      refine ⟨?_, BW.out⟩
      rw [A.out]; simp [idFrom]

set_option maxHeartbeats 1000000 in
theorem find_calls (S : Nat) (v1 v2 : Value) (A0 : Option Addr) (c0 : Nat) (l0 : List Ou) (id : Int) (w : World) (hs : w.heap[S]? = some (.cells #[v1, v2, .slice A0 l0.length c0] 61 (0, 0))) (hr0 : Kd.C kO w A0 l0.length l0) (hn : l0.length ≤ 9223372036854775807) :
    Calls Try.prog 56 #[.pointer (some ⟨S, 0, none⟩), .int .i64 id] w fun e w' => e = .returned (.int .i64 (idAt id l0)) ∧ Below w.heap.size w w' := by
  have hc := cell_of_row w S 2 _ _ _ hs
  have HX := fun o => pw_cell_below (below_alloc (Below.refl _ w) o) hc
  have HR := Aside0.mk hr0
  clear hs hr0 hc
  have eg : ∀ args w, (callFunc 60 args).run Try.prog w = .ok (.enter 60 args) w := entered Try.func60 (by kernel_rfl) rfl
  go_enter Try.func56, Try.ntmps56
  go_wp2_with (fail)
  refine (indexO_calls id w.heap.size A0 c0 l0 _ (Kd.C_below HR.out (below_alloc (Below.refl _ w) _)) hn ?_).mono ?_
  · have h_ := cell_of_row _ w.heap.size 0 _ _ _ (heap_alloc_new w (.cells #[.int .i64 id] 3)); rw [h_]; rfl
  · rintro e w' ⟨rfl, hb⟩
    have HB : Aside0 (Below w.heap.size w w') := ⟨(below_alloc (Below.refl _ w) _).trans (hb.mono (below_alloc (Below.refl _ w) (.cells #[.int .i64 id] 3)).size)⟩
    clear hb
    go_wp2
    go_ret
    exact ⟨rfl, HB.out⟩

/-- Block M is the map of ids. -/
def IdMap (w : World) (M : Nat) (ids : List Int) : Prop := ∃ es clock, w.heap[M]? = some (.map es clock) ∧ (∀ e ∈ es.toList, ∃ i, e.key = .int .i64 i ∧ e.val = .bool true) ∧ ∀ i : Int, i ∈ ids ↔ ∃ e ∈ es.toList, e.key = .int .i64 i
theorem IdMap.key {es : Array MapEntry} (h : ∀ e ∈ es.toList, ∃ i, e.key = .int .i64 i ∧ e.val = .bool true) : ∀ x ∈ es.toList, MapKept.IsKey (.int .i64) x.key := by
  intro x hx
  obtain ⟨i, h1, _⟩ := h x hx
  rw [h1]; simp [MapKept.IsKey]
theorem IdMap.lookup {w : World} {M : Nat} {ids : List Int} (h : IdMap w M ids) (i : Int) : (Instr.lookup 67 (.map (some M)) (.int .i64 i) false).run Try.prog w = .ok (.bool (decide (i ∈ ids))) w := by
  obtain ⟨es, clock, hb, hk, hi⟩ := h
  have hz : (zeroValue 4).run Try.prog w = .ok (.bool false) w := by go_simp
  have hkey : MapKept.IsKey (.int .i64) (.int .i64 i) := by simp [MapKept.IsKey]
  rcases MapKept.findNow_spec hkey es.toList 0 (IdMap.key hk) with ⟨h1, h2⟩ | ⟨j, e, h1, h2, h3⟩
  · have : ¬ i ∈ ids := by
      intro hm
      obtain ⟨e, he, hek⟩ := (hi i).1 hm
      exact h2 e he hek
    simp [Instr.lookup, run_underlying Try.underlying67, MapKept.run_getObj_map hb, MapKept.run_checkKey Try.underlying3 hkey, MapKept.run_findKey Try.underlying3 h1, hz, Result.andThen, this]
  · have hm : i ∈ ids := (hi i).2 ⟨e, List.mem_of_getElem? h2, h3⟩
    obtain ⟨_, _, hv⟩ := hk e (List.mem_of_getElem? h2)
    simp [Instr.lookup, run_underlying Try.underlying67, MapKept.run_getObj_map hb, MapKept.run_checkKey Try.underlying3 hkey, MapKept.run_findKey Try.underlying3 h1, Result.andThen, hm, hv]
theorem IdMap.update {w : World} {M : Nat} {ids : List Int} (h : IdMap w M ids) (i : Int) (hn : i ∉ ids) : ∃ o, (Instr.mapUpdate 67 (.map (some M)) (.int .i64 i) (.bool true)).run Try.prog w = .ok () { w with heap := w.heap.setIfInBounds M o } ∧ IdMap { w with heap := w.heap.setIfInBounds M o } M (ids ++ [i]) := by
  obtain ⟨es, clock, hb, hk, hi⟩ := h
  have hkey : MapKept.IsKey (.int .i64) (.int .i64 i) := by simp [MapKept.IsKey]
  rcases MapKept.findNow_spec hkey es.toList 0 (IdMap.key hk) with ⟨h1, h2⟩ | ⟨j, e, h1, h2, h3⟩
  · refine ⟨_, by simp [Instr.mapUpdate, run_underlying Try.underlying67, MapKept.run_getObj_map hb, MapKept.run_checkKey Try.underlying3 hkey, MapKept.run_findKey Try.underlying3 h1, MapKept.run_setObj_map _ hb, Result.andThen]; rfl, _, _, (MapKept.heap_set hb).1, ?_, ?_⟩
    · intro e he
      simp at he
      rcases he with he | rfl
      · exact hk e (by simpa using he)
      · exact ⟨i, rfl, rfl⟩
    · intro k
      simp only [List.mem_append, List.mem_singleton, hi k]
      constructor
      · rintro (⟨e, he, hek⟩ | rfl)
        · exact ⟨e, by simp at he ⊢; exact .inl he, hek⟩
        · exact ⟨_, by simp; exact .inr rfl, rfl⟩
      · rintro ⟨e, he, hek⟩
        simp at he
        rcases he with he | rfl
        · exact .inl ⟨e, by simpa using he, hek⟩
        · right; simp at hek; exact hek.symm
  · exact absurd ((hi i).2 ⟨e, List.mem_of_getElem? h2, h3⟩) hn
theorem IdMap.move {w w1 : World} {M : Nat} {ids : List Int} (h : IdMap w M ids) (hm : w1.heap[M]? = w.heap[M]?) : IdMap w1 M ids := by
  obtain ⟨es, clock, hb, r⟩ := h
  exact ⟨es, clock, hm.trans hb, r⟩
theorem IdMap.lt {w : World} {M : Nat} {ids : List Int} (h : IdMap w M ids) : M < w.heap.size := by
  obtain ⟨es, clock, hb, r⟩ := h
  exact (Array.getElem?_eq_some_iff.1 hb).1
theorem IdMap.below {w w1 : World} {M : Nat} {ids : List Int} (h : IdMap w M ids) (hb : Below w.heap.size w w1) : IdMap w1 M ids := h.move (hb.block M h.lt)

/-- An event. -/
structure Evt where
  k : Int
  id : Int
  blk : Int
  pg : Pg
def Evt.v (x : Evt) : Value := .agg #[.int .i64 x.k, .int .i64 x.id, .int .i64 x.blk, .slice x.pg.A x.pg.b.length x.pg.c]
/-- The error of an event; n: blocks; ids: the writes that were submitted before. -/
def wrongF (n : Nat) (ids : List Int) (out : List Ou) (x : Evt) : Int :=
  if x.k = 1 then (if x.blk < 0 ∨ (n : Int) ≤ x.blk then 2 else if (x.pg.b.length : Int) ≠ 32 then 3 else if x.id ∈ ids then 7 else 0)
  else if x.k = 2 then (if x.blk ≠ 0 ∨ (x.pg.b.length : Int) ≠ 0 then 1 else if idAt x.id out < 0 then 6 else 0)
  else if x.k = 3 then (if x.id ≠ 0 ∨ x.blk ≠ 0 ∨ (x.pg.b.length : Int) ≠ 0 then 1 else 0)
  else 1

set_option maxHeartbeats 2000000 in
theorem wrong_calls (S M : Nat) (AF : Option Addr) (n cF : Nat) (vC : Value) (A0 : Option Addr) (c0 : Nat) (out : List Ou) (ids : List Int) (x : Evt) (w : World) (hs : w.heap[S]? = some (.cells #[.slice AF n cF, vC, .slice A0 out.length c0] 61 (0, 0))) (hr0 : Kd.C kO w A0 out.length out) (hn : out.length ≤ 9223372036854775807) (hM : IdMap w M ids) :
    Calls Try.prog 49 #[.pointer (some ⟨S, 0, none⟩), x.v, .map (some M)] w fun e w' => e = .returned (.int .i64 (wrongF n ids out x)) ∧ Below w.heap.size w w' := by
  have hc := cell_of_row w S 0 _ _ _ hs
  have HX := fun o => pw_cell_below (below_alloc (Below.refl _ w) o) hc
  have HF := Aside0.mk (fun (W : World) (hb : Below w.heap.size w W) => (find_calls S _ _ A0 c0 out x.id W ((hb.block S (Array.getElem?_eq_some_iff.1 hs).1).trans hs) (Kd.C_below hr0 hb) hn).mono (fun e w' (h : e = _ ∧ Below W.heap.size W w') => show e = _ ∧ Below w.heap.size w w' from ⟨h.1, hb.trans (h.2.mono hb.size)⟩))
  have HM := Aside0.mk (fun (W : World) (hb : Below w.heap.size w W) => (hM.below hb).lookup x.id)
  have hu38 := Try.underlying38
  clear hs hr0 hc hM
  obtain ⟨k, id, blk, ⟨A, c, b⟩⟩ := x
  simp only [Evt.v, wrongF] at HF HM ⊢
  by_cases k1 : k = 1
  · subst k1
    rw [if_pos rfl]
    by_cases q0 : blk < 0
    · have d0 := decide_eq_true q0
      rw [if_pos (.inl q0)]
      clear HF HM
      go_enter Try.func49, Try.ntmps49
      go_wp2_with (fail)
      repeat (go_quiet (fail); try go_wp2_with (fail))
      go_ret
      exact ⟨rfl, by repeat (first | exact Below.refl _ _ | apply below_alloc | apply pw_below_drewN)⟩
    · have d0 := decide_eq_false q0
      by_cases q1 : (n : Int) ≤ blk
      · have d1 := decide_eq_true q1
        rw [if_pos (.inr q1)]
        clear HF HM
        go_enter Try.func49, Try.ntmps49
        go_wp2_with (fail)
        repeat (go_quiet (fail); try go_wp2_with (fail))
        go_ret
        exact ⟨rfl, by repeat (first | exact Below.refl _ _ | apply below_alloc | apply pw_below_drewN)⟩
      · have d1 := decide_eq_false q1
        rw [if_neg (fun h => h.elim q0 q1)]
        by_cases q2 : (b.length : Int) ≠ 32
        · have d2 : ((b.length : Int) != 32) = true := bne_iff_ne.mpr q2
          rw [if_pos q2]
          clear HF HM
          go_enter Try.func49, Try.ntmps49
          go_wp2_with (fail)
          repeat (go_quiet (fail); try go_wp2_with (fail))
          go_ret
          exact ⟨rfl, by repeat (first | exact Below.refl _ _ | apply below_alloc | apply pw_below_drewN)⟩
        · have d2 : ((b.length : Int) != 32) = false := by simpa using q2
          rw [if_neg q2]
          by_cases q3 : id ∈ ids
          · have d3 : decide (id ∈ ids) = true := decide_eq_true q3
            rw [if_pos q3]
            rw [d3] at HM
            clear q3 d3
            clear HF
            go_enter Try.func49, Try.ntmps49
            go_wp2_with (fail)
            repeat (go_quiet (fail); try go_wp2_with (fail))
            rw [HM.out _ (by repeat (first | exact Below.refl _ _ | apply below_alloc | apply pw_below_drewN))]
            clear HM
            go_wp2_with (fail)
            go_ret
            exact ⟨rfl, by repeat (first | exact Below.refl _ _ | apply below_alloc | apply pw_below_drewN)⟩
          · have d3 : decide (id ∈ ids) = false := decide_eq_false q3
            rw [if_neg q3]
            rw [d3] at HM
            clear q3 d3
            clear HF
            go_enter Try.func49, Try.ntmps49
            go_wp2_with (fail)
            repeat (go_quiet (fail); try go_wp2_with (fail))
            rw [HM.out _ (by repeat (first | exact Below.refl _ _ | apply below_alloc | apply pw_below_drewN))]
            clear HM
            go_wp2_with (fail)
            go_ret
            exact ⟨rfl, by repeat (first | exact Below.refl _ _ | apply below_alloc | apply pw_below_drewN)⟩
  · have e1 : (k == 1) = false := by simpa using k1
    rw [if_neg k1]
    by_cases k2 : k = 2
    · subst k2
      rw [if_pos rfl]
      by_cases q0 : blk ≠ 0
      · have d0 : (blk != 0) = true := bne_iff_ne.mpr q0
        rw [if_pos (.inl q0)]
        clear HF HM
        go_enter Try.func49, Try.ntmps49
        go_wp2_with (fail)
        repeat (go_quiet (fail); try go_wp2_with (fail))
        go_ret
        exact ⟨rfl, by repeat (first | exact Below.refl _ _ | apply below_alloc | apply pw_below_drewN)⟩
      · have d0 : (blk != 0) = false := by simpa using q0
        by_cases q1 : (b.length : Int) ≠ 0
        · have d1 : ((b.length : Int) != 0) = true := bne_iff_ne.mpr q1
          rw [if_pos (.inr q1)]
          clear HF HM
          go_enter Try.func49, Try.ntmps49
          go_wp2_with (fail)
          repeat (go_quiet (fail); try go_wp2_with (fail))
          go_ret
          exact ⟨rfl, by repeat (first | exact Below.refl _ _ | apply below_alloc | apply pw_below_drewN)⟩
        · have d1 : ((b.length : Int) != 0) = false := by simpa using q1
          rw [if_neg (fun h => h.elim q0 q1)]
          generalize idAt id out = r at HF ⊢
          by_cases q2 : r < 0
          · have d2 := decide_eq_true q2
            rw [if_pos q2]
            clear HM
            go_enter Try.func49, Try.ntmps49
            go_wp2_with (fail)
            repeat (go_quiet (fail); try go_wp2_with (fail))
            refine (HF.out _ (by repeat (first | exact Below.refl _ _ | apply below_alloc | apply pw_below_drewN))).mono ?_
            rintro e w' ⟨rfl, HB⟩
            clear HF
            go_wp2_with (fail)
            go_ret
            exact ⟨rfl, HB⟩
          · have d2 := decide_eq_false q2
            rw [if_neg q2]
            clear HM
            go_enter Try.func49, Try.ntmps49
            go_wp2_with (fail)
            repeat (go_quiet (fail); try go_wp2_with (fail))
            refine (HF.out _ (by repeat (first | exact Below.refl _ _ | apply below_alloc | apply pw_below_drewN))).mono ?_
            rintro e w' ⟨rfl, HB⟩
            clear HF
            go_wp2_with (fail)
            go_ret
            exact ⟨rfl, HB⟩
    · have e2 : (k == 2) = false := by simpa using k2
      rw [if_neg k2]
      by_cases k3 : k = 3
      · subst k3
        rw [if_pos rfl]
        by_cases q0 : id ≠ 0
        · have d0 : (id != 0) = true := bne_iff_ne.mpr q0
          rw [if_pos (.inl q0)]
          clear HF HM
          go_enter Try.func49, Try.ntmps49
          go_wp2_with (fail)
          repeat (go_quiet (fail); try go_wp2_with (fail))
          go_ret
          exact ⟨rfl, by repeat (first | exact Below.refl _ _ | apply below_alloc | apply pw_below_drewN)⟩
        · have d0 : (id != 0) = false := by simpa using q0
          by_cases q1 : blk ≠ 0
          · have d1 : (blk != 0) = true := bne_iff_ne.mpr q1
            rw [if_pos (.inr (.inl q1))]
            clear HF HM
            go_enter Try.func49, Try.ntmps49
            go_wp2_with (fail)
            repeat (go_quiet (fail); try go_wp2_with (fail))
            go_ret
            exact ⟨rfl, by repeat (first | exact Below.refl _ _ | apply below_alloc | apply pw_below_drewN)⟩
          · have d1 : (blk != 0) = false := by simpa using q1
            by_cases q2 : (b.length : Int) ≠ 0
            · have d2 : ((b.length : Int) != 0) = true := bne_iff_ne.mpr q2
              rw [if_pos (.inr (.inr q2))]
              clear HF HM
              go_enter Try.func49, Try.ntmps49
              go_wp2_with (fail)
              repeat (go_quiet (fail); try go_wp2_with (fail))
              go_ret
              exact ⟨rfl, by repeat (first | exact Below.refl _ _ | apply below_alloc | apply pw_below_drewN)⟩
            · have d2 : ((b.length : Int) != 0) = false := by simpa using q2
              rw [if_neg (fun h => h.elim q0 (fun h => h.elim q1 q2))]
              clear HF HM
              go_enter Try.func49, Try.ntmps49
              go_wp2_with (fail)
              repeat (go_quiet (fail); try go_wp2_with (fail))
              go_ret
              exact ⟨rfl, by repeat (first | exact Below.refl _ _ | apply below_alloc | apply pw_below_drewN)⟩
      · have e3 : (k == 3) = false := by simpa using k3
        rw [if_neg k3]
        clear HF HM
        go_enter Try.func49, Try.ntmps49
        go_wp2_with (fail)
        repeat (go_quiet (fail); try go_wp2_with (fail))
        go_ret
        exact ⟨rfl, by repeat (first | exact Below.refl _ _ | apply below_alloc | apply pw_below_drewN)⟩

/-- The cells of outstanding writes. -/
def encO : List Ou → List Value
  | [] => []
  | x :: l => .int .i64 x.id :: .int .i64 x.blk :: x.pg.v :: encO l
theorem encO_len : ∀ l : List Ou, (encO l).length = l.length * 3
  | [] => rfl
  | x :: l => by simp only [encO, List.length_cons, encO_len l]; omega
theorem encO_app : ∀ a b : List Ou, encO (a ++ b) = encO a ++ encO b
  | [], b => rfl
  | x :: a, b => by simp only [List.cons_append, encO, encO_app a b]
theorem encO_one : ∀ (l : List Ou), ∀ u ∈ encO l, u.oneCell' = true
  | [], u, h => by simp [encO] at h
  | x :: l, u, h => by
    simp only [encO, List.mem_cons] at h
    rcases h with rfl | rfl | rfl | h
    · rfl
    · rfl
    · rfl
    · exact encO_one l u h
theorem encO_take (l : List Ou) (i : Nat) (h : i ≤ l.length) : (encO l).take (i * 3) = encO (l.take i) := by
  conv => lhs; rw [← List.take_append_drop i l, encO_app]
  rw [List.take_append_of_le_length (by rw [encO_len, List.length_take]; omega), List.take_of_length_le (by rw [encO_len, List.length_take]; omega)]
theorem encO_drop (l : List Ou) (i : Nat) (h : i ≤ l.length) : (encO l).drop (i * 3) = encO (l.drop i) := by
  conv => lhs; rw [← List.take_append_drop i l, encO_app]
  rw [List.drop_append_of_le_length (by rw [encO_len, List.length_take]; omega), List.drop_of_length_le (by rw [encO_len, List.length_take]; omega), List.nil_append]
/-- Cells, written over. -/
def putA : Array Value → Nat → List Value → Array Value
  | a, _, [] => a
  | a, o, v :: r => putA (a.setIfInBounds o v) (o + 1) r
theorem putA_size : ∀ (vs : List Value) (a : Array Value) (o : Nat), (putA a o vs).size = a.size
  | [], a, o => rfl
  | v :: r, a, o => by rw [putA, putA_size r]; simp
theorem putA_list : ∀ (vs : List Value) (a : Array Value) (o : Nat), o + vs.length ≤ a.size → (putA a o vs).toList = a.toList.take o ++ vs ++ a.toList.drop (o + vs.length)
  | [], a, o, h => by simp [putA]
  | v :: r, a, o, h => by
    rw [List.length_cons] at h
    rw [putA, putA_list r _ (o + 1) (by simp; omega), Array.toList_setIfInBounds]
    have h1 : (a.toList.set o v).take (o + 1) = a.toList.take o ++ [v] := by
      apply List.ext_getElem?
      intro j
      rcases Nat.lt_trichotomy j o with c | c | c
      · rw [List.getElem?_append_left (by simp; omega), List.getElem?_take, if_pos (by omega), List.getElem?_set_ne (by omega), List.getElem?_take, if_pos c]
      · subst c
        rw [List.getElem?_take, if_pos (by omega), List.getElem?_set_self (by simp; omega), List.getElem?_append_right (by simp; omega)]
        have : (a.toList.take j).length = j := by simp; omega
        rw [this, Nat.sub_self]; rfl
      · rw [List.getElem?_take, if_neg (by omega), List.getElem?_eq_none]; simp; omega
    have h2 : (a.toList.set o v).drop (o + 1 + r.length) = a.toList.drop (o + 1 + r.length) := by
      rw [List.drop_set_of_lt (by omega)]
    rw [h1, h2, List.length_cons, show o + (r.length + 1) = o + 1 + r.length from by omega]; simp
theorem heap_setCells : ∀ (vs : List Value) (o : Nat) (w : World) (g : Nat) (a : Array Value) (t : TypeId), w.heap[g]? = some (.cells a t (0, 0)) → (w.setCells g o vs).heap[g]? = some (.cells (putA a o vs) t (0, 0))
  | [], o, w, g, a, t, h => h
  | v :: r, o, w, g, a, t, h => by
    rw [World.setCells, putA]
    exact heap_setCells r (o + 1) _ g _ t (by rw [heap_setCell_same w g o a t v h])
theorem row_cell {w : World} {g : Nat} {a : Array Value} {t : TypeId} (h : w.heap[g]? = some (.cells a t (0, 0))) (j : Nat) : w.cell? ⟨g, j, none⟩ = a.toList[j]? := by
  simp [World.cell?, h]
theorem row_frozen {w : World} {g : Nat} {a : Array Value} {t : TypeId} (h : w.heap[g]? = some (.cells a t (0, 0))) (j : Nat) : w.frozen? ⟨g, j, none⟩ = false := frozen_of_row w g j a t h
theorem info71 : (Try.prog.info? 71).map (fun i => (i.zero, i.size, i.bytes)) = some (some (.agg #[.int .i64 0, .int .i64 0, .slice none 0 0]), 3, 40) := by kernel_rfl
def zs3 : List Value := [.int .i64 0, .int .i64 0, .slice none 0 0]
theorem clear_run (w : World) (ty : TypeId) (g o c : Nat) (a : Array Value) (h : w.heap[g]? = some (.cells a 71 (0, 0))) (ho : o + 3 ≤ a.size) :
    (Builtin.clear_ #[59] ty #[.slice (some ⟨g, o, none⟩) 1 c]).run Try.prog w = .ok (.tuple #[]) (w.setCells g o zs3) := by
  have hz : (zeroValue 71).run Try.prog w = .ok (.agg #[.int .i64 0, .int .i64 0, .slice none 0 0]) w := by go_simp
  have hst := Go.run_storeCells_cells (P := Try.prog) g o zs3 0 w (fun j hj => by
      have hj3 : j < 3 := hj
      rw [row_cell h]; simp; omega) (fun j hj => row_frozen h _) (by intro v hv; simp [zs3] at hv; rcases hv with rfl | rfl | rfl <;> rfl)
  simp only [Nat.add_zero] at hst
  have hzc : (Builtin.zeroCells (Value.agg #[.int .i64 0, .int .i64 0, .slice none 0 0]).cells 1).toList = zs3 := by simp [Builtin.zeroCells, Value.cells, zs3, show List.range 3 = [0, 1, 2] from rfl]
  simp [Builtin.clear_, run_underlying Try.underlying59, hz, hzc, hst]

set_option maxHeartbeats 4000000 in
theorem delete_calls (g cap i j : Nat) (hj : j = i + 1) (xs : List Ou) (cur : Array Value) (w : World) (hg : w.heap[g]? = some (.cells cur 71 (0, 0))) (hcur : cur.size = cap * 3) (hcap : xs.length ≤ cap) (hm : cap ≤ 9223372036854775807) (hi : i < xs.length) (hx : cur.toList.take (xs.length * 3) = encO xs) :
    Calls Try.prog 57 #[.slice (some ⟨g, 0, none⟩) xs.length cap, .int .i64 i, .int .i64 j] w fun e w' => e = .returned (.slice (some ⟨g, 0, none⟩) (xs.length - 1) cap) ∧ w' = (w.drew.setCells g (i * 3) (encO (xs.drop j))).setCells g ((xs.length - 1) * 3) zs3 := by
  obtain ⟨i0, hi0, hz0, hz1, hz2⟩ := info_parts info71
  obtain ⟨n, hn⟩ : ∃ n, n = xs.length := ⟨_, rfl⟩
  obtain ⟨news, hnews⟩ : ∃ news, news = encO (xs.drop j) := ⟨_, rfl⟩
  have hlen : news.length = (n - j) * 3 := by rw [hnews, encO_len, List.length_drop, hn]
  obtain ⟨A, hA, hsrc⟩ : ∃ A : Addr, (if cap = j then some (⟨g, 0, none⟩ : Addr) else some ⟨g, j * 3, none⟩) = some A ∧ Hid (∀ t u, news[t]? = some u → w.drew.cell? (A.add t) = some u) := by
    by_cases h : cap = j
    · refine ⟨⟨g, 0, none⟩, by simp [h], fun t u hu => ?_⟩
      have h0 : news.length = 0 := by rw [hlen, hn]; omega
      rw [List.length_eq_zero_iff.1 h0] at hu
      simp at hu
    · refine ⟨⟨g, j * 3, none⟩, by simp [h], fun t u hu => ?_⟩
      have ht := (List.getElem?_eq_some_iff.1 hu).1
      rw [Addr.add_lit]
      have hg' : w.drew.heap[g]? = some (.cells cur 71 (0, 0)) := hg
      rw [row_cell hg']
      rw [hnews, ← encO_drop xs j (by omega), List.getElem?_drop, ← hx, List.getElem?_take] at hu
      split at hu
      · rw [← hu]
      · cases hu
  have s1 : Hid (news.length = (n - j) * 3) := hlen
  have s2 : Hid (∀ u ∈ news, u.oneCell' = true) := by rw [hnews]; exact encO_one _
  have hgd : w.drew.heap[g]? = some (.cells cur 71 (0, 0)) := hg
  have s3 : Hid (∀ t, t < news.length → (w.drew.cell? ⟨g, 0 + i * 3 + t, none⟩).isSome = true ∧ w.drew.frozen? ⟨g, 0 + i * 3 + t, none⟩ = false) := by
    intro t ht
    rw [hlen] at ht
    refine ⟨?_, row_frozen hgd _⟩
    rw [row_cell hgd]; simp; omega
  obtain ⟨W1, hW1⟩ : ∃ W1, W1 = w.drew.setCells g (0 + i * 3) news := ⟨_, rfl⟩
  have hH1 : W1.heap[g]? = some (.cells (putA cur (i * 3) news) 71 (0, 0)) := by rw [hW1, Nat.zero_add]; exact heap_setCells _ _ _ _ _ _ hgd
  have hcl : ∀ ty, (Builtin.clear_ #[59] ty #[.slice (some ⟨g, (i + (n - j)) * 3, none⟩) (n - (i + (n - j))) (cap - (i + (n - j)))]).run Try.prog W1 = .ok (.tuple #[]) (W1.setCells g ((i + (n - j)) * 3) zs3) := by
    intro ty
    rw [show n - (i + (n - j)) = 1 from by omega]
    exact clear_run W1 ty g _ _ _ hH1 (by rw [putA_size]; omega)
  have X : Aside (W1 = w.drew.setCells g (0 + i * 3) news) := hW1
  have hW : Hid (W1 = w.drew.setCells g (0 + i * 3) news) := hW1
  have XN : Aside (i + (n - j) = n - 1) := by show i + (n - j) = n - 1; omega
  have hic : i ≤ cap := by omega
  have hjc : j ≤ cap := by omega
  have hnz : n - (i + (n - j)) ≠ 0 := by omega
  have hij : i ≤ j := by omega
  have hjn : ((i : Int) == ((j : Nat) : Int)) = false := by simp; omega
  have hn1 : j ≤ n := by omega
  have hn2 : n ≤ cap := by omega
  have hn3 : i ≤ n := by omega
  rw [← hnews, ← hn]
  clear hj hW1 hH1 hnews hlen hx hg hgd hi hcur hcap hn
  go_enter Try.func57, Try.ntmps57
  go_wp2_with fail
  go_region_law (refine step_append_room rfl (.tmp 22) (.tmp 25) 59 rfl 71 i0 3 Try.underlying59 hi0 hz1 g 0 i cap (by simp [Act.eval, Act.put]) A (n - j) (cap - j) news (by simp [Act.eval, Act.put]) s1.out hsrc.out s2.out (by omega) s3.out ?_; rw [← hW.out])
  go_wp2
  go_ret
  have hx1 : i + (n - j) = n - 1 := XN
  have hx2 : W1 = w.drew.setCells g (0 + i * 3) news := X
  refine ⟨by rw [← hx1]; rfl, ?_⟩
  rw [hx1, hx2, Nat.zero_add]

theorem encO_chunk : ∀ (xs : List Ou) (j : Nat) (p : Ou), xs[j]? = some p → ((encO xs).drop (j * 3)).take 3 = [.int .i64 p.id, .int .i64 p.blk, p.pg.v]
  | [], j, p, h => by simp at h
  | x :: l, 0, p, h => by
    simp at h; subst h; simp [encO]
  | x :: l, j + 1, p, h => by
    have := encO_chunk l j p (by simpa using h)
    rw [show (j + 1) * 3 = 3 + j * 3 from by omega, ← List.drop_drop, encO]
    exact this
theorem encO_reps (w : World) (base : Nat) (ok : Nat → Prop) (xs : List Ou) : Reps (kO.M w base ok) 3 xs (encO xs) :=
  ⟨encO_len xs, fun j p h => by rw [encO_chunk xs j p h]; exact kO_mkM w base ok p⟩
theorem encO_of_reps {w : World} {base : Nat} {ok : Nat → Prop} : ∀ {xs : List Ou} {inner : List Value}, Reps (kO.M w base ok) 3 xs inner → inner = encO xs
  | [], inner, h => List.length_eq_zero_iff.1 (by have := h.1; simpa using this)
  | x :: l, inner, h => by
    have h0 := kO_open (kO.K_of_M (h.2 0 x rfl))
    have hl := h.1
    rw [List.length_cons] at hl
    rw [Nat.zero_mul, List.drop_zero] at h0
    have ih := encO_of_reps (xs := l) (inner := inner.drop 3) ⟨by rw [List.length_drop, hl]; omega, fun j p hj => by
      have := h.2 (j + 1) p (by simpa using hj)
      rwa [show (j + 1) * 3 = 3 + j * 3 from by omega, ← List.drop_drop] at this⟩
    rw [← List.take_append_drop 3 inner, h0, ih]; rfl
theorem eraseIdx_td (xs : List Ou) (i : Nat) (h : i < xs.length) : xs.eraseIdx i = xs.take i ++ xs.drop (i + 1) := List.eraseIdx_eq_take_drop_succ xs i
theorem grown_setCells (w0 : World) (g : Nat) : ∀ (vs : List Value) (o : Nat) (w : World), w0.grownBy w (some g) → w0.grownBy (w.setCells g o vs) (some g)
  | [], o, w, h => h
  | v :: r, o, w, h => grown_setCells w0 g r (o + 1) _ ⟨h.os, h.tape, h.output, by simpa [World.setCell] using h.size, fun k hk hne => (heap_setCell_other w ⟨g, o, none⟩ k v (fun e => hne (by rw [e]))).trans (h.block k hk hne)⟩
/-- Where the row is read and written. -/
theorem delete_R {w : World} {base : Nat} {ok : Nat → Prop} {v : Value} {xs : List Ou} (h : kO.R 71 w base ok v xs) (i j : Nat) (hj : j = i + 1) (hi : i < xs.length) :
    Calls Try.prog 57 #[v, .int .i64 i, .int .i64 j] w fun e w' => ∃ v', e = .returned v' ∧ kO.R 71 w' base ok v' (xs.eraseIdx i) ∧ v'.ownBlock = v.ownBlock ∧ w.grownBy w' v.ownBlock := by
  obtain ⟨h0, inner, ho, hr⟩ := h
  have hin := encO_of_reps hr
  subst hin
  have hsz : kO.sz = 3 := rfl
  rw [hsz] at ho hr
  obtain ⟨h1, h2⟩ := ho
  rcases h2 with ⟨_, h2⟩ | ⟨g, cap, cur, rfl, hg, hh, hn, hm, hs, ht⟩
  · omega
  · refine (delete_calls g cap i j hj xs cur w hh hs hn (by unfold maxLen at hm; exact hm) hi ht).mono ?_
    rintro e w' ⟨rfl, rfl⟩
    have hd : w.drew.heap[g]? = some (.cells cur 71 (0, 0)) := hh
    have b1 := heap_setCells (encO (xs.drop j)) (i * 3) _ _ _ _ hd
    have b2 := heap_setCells zs3 ((xs.length - 1) * 3) _ _ _ _ b1
    have hlt : g < w.heap.size := (Array.getElem?_eq_some_iff.1 hh).1
    have lc : cur.toList.length = cap * 3 := by simpa using hs
    have le : (encO (xs.drop j)).length = (xs.length - j) * 3 := by rw [encO_len, List.length_drop]
    refine ⟨_, rfl, ⟨h0, encO (xs.eraseIdx i), ⟨?_, .inr ⟨g, cap, _, ?_, hg, b2, ?_, hm, ?_, ?_⟩⟩, encO_reps _ _ _ _⟩, rfl, ?_⟩
    · rw [encO_len]; rfl
    · rw [List.length_eraseIdx, if_pos hi]
    · rw [List.length_eraseIdx, if_pos hi]; omega
    · rw [putA_size, putA_size, hs]; rfl
    · rw [hsz, List.length_eraseIdx, if_pos hi, putA_list _ _ _ (by rw [putA_size]; simp [zs3]; omega), putA_list _ _ _ (by rw [le]; omega)]
      rw [List.append_assoc, List.take_append_of_le_length (by simp [le]; omega), List.take_take, Nat.min_self, List.append_assoc, List.take_append, eraseIdx_td xs i hi, encO_app]
      have e1 : (cur.toList.take (i * 3)) = encO (xs.take i) := by
        rw [← encO_take xs i (by omega), ← ht, List.take_take, Nat.min_eq_left (by omega)]
      rw [e1, encO_len, List.length_take, Nat.min_eq_left (by omega), List.take_of_length_le (by rw [encO_len, List.length_take]; omega), hj]
      congr 1
      rw [← hj, List.take_append_of_le_length (by rw [le]; omega), List.take_of_length_le (by rw [le]; omega)]
    · exact grown_setCells w g _ _ _ (grown_setCells w g _ _ _ ⟨rfl, rfl, rfl, Nat.le_refl _, fun _ _ _ => rfl⟩)

structure St where
  firm : List Pg
  cache : List Pg
  out : List Ou
/-- Block S of w is the state st, made since w0. -/
def RS (w0 w : World) (S : Nat) (st : St) : Prop := ∃ vF vC vO, w.heap[S]? = some (.cells #[vF, vC, vO] 61 (0, 0)) ∧ w0.heap.size ≤ S ∧
  kP.R 36 w w0.heap.size (fun k => some k ≠ vC.ownBlock) vF st.firm ∧ kP.R 36 w w0.heap.size (fun k => some k ≠ vF.ownBlock) vC st.cache ∧ kO.R 71 w w0.heap.size (fun _ => True) vO st.out ∧ Below w0.heap.size w0 w
/-- Maps stay. -/
def KM (w w' : World) : Prop := w.heap.size ≤ w'.heap.size ∧ ∀ (M : Nat) (es : Array MapEntry) (clock : Nat), w.heap[M]? = some (Obj.map es clock) → w'.heap[M]? = some (Obj.map es clock)
theorem KM.refl (w : World) : KM w w := ⟨Nat.le_refl _, fun _ _ _ h => h⟩
theorem KM.trans {a b c : World} (h : KM a b) (k : KM b c) : KM a c := ⟨Nat.le_trans h.1 k.1, fun M es cl x => k.2 M es cl (h.2 M es cl x)⟩
theorem KM.below {w w' : World} (h : Below w.heap.size w w') : KM w w' := ⟨h.size, fun M es cl x => (h.block M (Array.getElem?_eq_some_iff.1 x).1).trans x⟩
theorem KM.alloc (w : World) (o : Obj) : KM w (w.alloc o) := KM.below (below_alloc (Below.refl _ w) o)
theorem KM.drew (w : World) : KM w w.drew := ⟨Nat.le_refl _, fun _ _ _ h => h⟩
theorem KM.drewN (w : World) (n : Nat) : KM w (w.drewN n) := ⟨Nat.le_refl _, fun _ _ _ h => h⟩
theorem KM.grown {α : Type} {d : Kd α} {e base : Nat} {W w1 : World} {ok : Nat → Prop} {v : Value} {xs : List α} (ho : d.R e W base ok v xs) (hg : W.grownBy w1 v.ownBlock) : KM W w1 := by
  refine ⟨hg.size, fun M es cl x => (hg.block M (Array.getElem?_eq_some_iff.1 x).1 (fun e1 => ?_)).trans x⟩
  obtain ⟨inner, hi⟩ := Kd.R_own ho
  obtain ⟨cells, hc⟩ := own_typed hi M e1.symm
  rw [x] at hc; cases hc
theorem KM.set {w : World} {g j : Nat} {cs : Array Value} {t : TypeId} (h : w.heap[g]? = some (.cells cs t (0, 0))) (v : Value) : KM w (w.setCell ⟨g, j, none⟩ v) := by
  refine ⟨by simp [World.setCell], fun M es cl x => (heap_setCell_other w _ M v (fun e1 => ?_)).trans x⟩
  subst e1
  rw [h] at x; cases x
theorem RS_put_out {w0 w1 : World} {S : Nat} {vF vC vO v1 : Value} {firm cache : List Pg} {out1 : List Ou} (hb : Below w0.heap.size w0 w1) (hS1 : w1.heap[S]? = some (.cells #[vF, vC, vO] 61 (0, 0))) (hS0 : w0.heap.size ≤ S)
    (hF : kP.R 36 w1 w0.heap.size (fun k => some k ≠ vC.ownBlock) vF firm) (hC : kP.R 36 w1 w0.heap.size (fun k => some k ≠ vF.ownBlock) vC cache) (ho : kO.R 71 w1 w0.heap.size (fun _ => True) v1 out1) :
    RS w0 (w1.setCell ⟨S, 2, none⟩ v1) S ⟨firm, cache, out1⟩ := by
  refine ⟨vF, vC, v1, ?_, hS0, Kd.R_set hF hS1 (by decide) 2 v1, Kd.R_set hC hS1 (by decide) 2 v1, Kd.R_set ho hS1 (by decide) 2 v1, below_set hb hS0⟩
  rw [heap_setCell_same w1 S 2 _ _ v1 hS1]; rfl
theorem size_ad (w : World) (o : Obj) : (w.alloc o).drew.heap.size = w.heap.size + 1 := Array.size_push _
/-- A row of outstanding writes has been written: the state's block stays. -/
theorem state_stays {W w1 : World} {base S : Nat} {ok : Nat → Prop} {v : Value} {xs : List Ou} {cs : Array Value} (ho : kO.R 71 W base ok v xs) (hS : W.heap[S]? = some (.cells cs 61 (0, 0))) (hg : W.grownBy w1 v.ownBlock) : w1.heap[S]? = some (.cells cs 61 (0, 0)) :=
  (hg.block S (Array.getElem?_eq_some_iff.1 hS).1 (Kd.R_ne ho hS (by decide))).trans hS

theorem ne7136 : ∀ q, q ∈ 36 :: kP.E → q ≠ 71 := by decide
theorem write_end {w0 w w1 : World} {S : Nat} {st : St} {vF vC : Value} {A A1 : Option Addr} {c c1 : Nat} {o : Obj} {y : Ou} (HF : kP.R 36 w w0.heap.size (fun k => some k ≠ vC.ownBlock) vF st.firm) (HC : kP.R 36 w w0.heap.size (fun k => some k ≠ vF.ownBlock) vC st.cache) (HO : kO.R 71 w w0.heap.size (fun _ => True) (.slice A st.out.length c) st.out)
    (HS0 : w0.heap.size ≤ S) (hg : (w.alloc o).drew.grownBy w1 (Value.slice A st.out.length c).ownBlock) (hb : Below w0.heap.size w0 w1) (hS1 : w1.heap[S]? = some (.cells #[vF, vC, .slice A st.out.length c] 61 (0, 0))) (ho : kO.R 71 w1 w0.heap.size (fun _ => True) (.slice A1 (st.out ++ [y]).length c1) (st.out ++ [y])) :
    RS w0 (w1.setCell ⟨S, 2, none⟩ (.slice A1 (st.out.length + 1) c1)) S ⟨st.firm, st.cache, st.out ++ [y]⟩ ∧ KM w (w1.setCell ⟨S, 2, none⟩ (.slice A1 (st.out.length + 1) c1)) := by
  have h1 := Kd.R_over (Kd.R_drew (Kd.R_alloc HF o)) (Kd.R_drew (Kd.R_alloc HO o)) ne7136 hg
  have h2 := Kd.R_over (Kd.R_drew (Kd.R_alloc HC o)) (Kd.R_drew (Kd.R_alloc HO o)) ne7136 hg
  have h3 := RS_put_out hb hS1 HS0 h1 h2 ho
  simp only [List.length_append, List.length_singleton] at h3
  exact ⟨h3, ((KM.alloc w _).trans ((KM.drew _).trans (KM.grown (Kd.R_drew (Kd.R_alloc HO _)) hg))).trans (KM.set hS1 _)⟩

set_option maxHeartbeats 2000000 in
theorem apply_write (w0 : World) (S : Nat) (st : St) (x : Evt) (w : World) (hk : x.k = 1) (hs : RS w0 w S st) (hl : st.out.length ≤ 1000000) :
    Calls Try.prog 50 #[.pointer (some ⟨S, 0, none⟩), x.v] w fun e w' => e = .returned (.tuple #[]) ∧ RS w0 w' S ⟨st.firm, st.cache, st.out ++ [⟨x.id, x.blk, x.pg⟩]⟩ ∧ KM w w' := by
  obtain ⟨vF, vC, vO, hS, hS0, hF, hC, hO, hB⟩ := hs
  have hc := cell_of_row w S 2 _ _ _ hS
  have HX := fun o => pw_cell_below (below_alloc (Below.refl _ w) o) hc
  have HX2 := fun o o2 => pw_cell_below (below_alloc (below_alloc (Below.refl _ w) o) o2) hc
  obtain ⟨A, c, eA⟩ := Kd.R_slice hO
  have HO := Aside0.mk hO
  have HB := Aside0.mk hB
  have HS := Aside0.mk hS
  have HS0 := Aside0.mk hS0
  have HF := Aside0.mk hF
  have HC := Aside0.mk hC
  clear hS hS0 hF hC hO hB hc
  subst eA
  obtain ⟨k, id, blk, ⟨a, cp, b⟩⟩ := x
  simp only [Evt.v] at hk ⊢
  subst hk
  have hu38 := Try.underlying38
  have hu71 := Try.underlying71
  go_enter Try.func50, Try.ntmps50
  go_wp2_with (fail)
  have HW : Aside0 (∀ o : Obj, (w.alloc o).drew.heap[S]? = some (.cells #[vF, vC, .slice A st.out.length c] 61 (0, 0))) := ⟨fun o => (Below.heap_alloc w o S (Array.getElem?_eq_some_iff.1 HS.out).1).trans HS.out⟩
  go_region_law (refine Kd.R_append_step kO (w0 := w0) (W := (w.alloc (.cells #[.int .i64 1, .int .i64 id, .int .i64 blk, .slice a b.length cp] 38)).drew) w0.heap.size (by rfl) (.tmp 15) (.tmp 23) 59 71 (.agg #[.int .i64 0, .int .i64 0, .slice none 0 0]) 40 (by rfl) Try.underlying59 info71 rfl (by decide) (by omega) (.slice A st.out.length c) st.out ⟨id, blk, ⟨a, cp, b⟩⟩ [.int .i64 id, .int .i64 blk, .slice a b.length cp] (fun _ => True) (fun _ => False) rfl (congrArg (fun n => Value.slice (some ⟨n, 0, none⟩) 1 1) (size_ad w _).symm) (kO_mkM _ _ _ _) (fun _ h => h.elim) (fun _ _ => trivial) (Kd.R_drew (Kd.R_alloc HO.out _)) (below_drew1 (below_alloc HB.out _)) (below_size (below_drew1 (below_alloc HB.out _))) (by omega) (fun v1 w1 ho hb hg hat => ?_); have hS1 := state_stays (Kd.R_drew (Kd.R_alloc HO.out _)) (HW.out _) hg; have hc1 := cell_of_row w1 S 2 _ _ _ hS1; have hf1 := frozen_of_row w1 S 2 _ _ hS1; obtain ⟨A1, c1, e1⟩ := Kd.R_slice ho; subst e1)
  all_goals
    go_end0
    exact ⟨rfl, write_end HF.out HC.out HO.out HS0.out hg hb hS1 ho⟩

theorem RS.below {w0 w w1 : World} {S : Nat} {st : St} (h : RS w0 w S st) (hb : Below w.heap.size w w1) : RS w0 w1 S st := by
  obtain ⟨vF, vC, vO, hS, hS0, hF, hC, hO, hB⟩ := h
  exact ⟨vF, vC, vO, (hb.block S (Array.getElem?_eq_some_iff.1 hS).1).trans hS, hS0, Kd.R_below hF hb, Kd.R_below hC hb, Kd.R_below hO hb, hB.trans (hb.mono hB.size)⟩
theorem idFrom_bd (id : Int) : ∀ (l : List Ou) (k : Int), idFrom id l k = -1 ∨ (k ≤ idFrom id l k ∧ idFrom id l k < k + l.length)
  | [], k => .inl rfl
  | x :: l, k => by
    unfold idFrom
    split
    · right; rw [List.length_cons]; omega
    · have := idFrom_bd id l (k + 1)
      rw [List.length_cons]; omega

theorem RS.drew {w0 w : World} {S : Nat} {st : St} (h : RS w0 w S st) : RS w0 w.drew S st := h.below (below_drew1 (Below.refl _ w))
theorem RS_set_cache {w0 w : World} {S g n cap : Nat} {vF vO : Value} {firm cache : List Pg} {out : List Ou} (hS : w.heap[S]? = some (.cells #[vF, .slice (some ⟨g, 0, none⟩) n cap, vO] 61 (0, 0))) (hS0 : w0.heap.size ≤ S)
    (hF : kP.R 36 w w0.heap.size (fun k => some k ≠ (Value.slice (some ⟨g, 0, none⟩) n cap).ownBlock) vF firm) (hC : kP.R 36 w w0.heap.size (fun k => some k ≠ vF.ownBlock) (.slice (some ⟨g, 0, none⟩) n cap) cache) (hO : kO.R 71 w w0.heap.size (fun _ => True) vO out)
    (hB : Below w0.heap.size w0 w) (gb : w0.heap.size ≤ g) (cells : Array Value) (hg : w.heap[g]? = some (.cells cells 36 (0, 0))) (i : Int) (p : Pg) : RS w0 (w.setCell ⟨g, i.toNat, none⟩ p.v) S ⟨firm, cache.set i.toNat p, out⟩ ∧ KM w (w.setCell ⟨g, i.toNat, none⟩ p.v) := by
  have hne : S ≠ g := by rintro rfl; rw [hS] at hg; injection hg with hg; injection hg with _ hg; exact absurd hg (by decide)
  refine ⟨⟨vF, _, vO, ?_, hS0, Kd.R_far hF (fun k hk e => hk (by rw [e]; rfl)) _, Kd.R_putn hC i p, Kd.R_set hO hg (by decide) _ _, below_set hB gb⟩, KM.set hg _⟩
  rw [heap_setCell_other w _ S _ hne]; exact hS
theorem RS_del {w0 w w1 : World} {S : Nat} {vF vC vO v1 : Value} {firm cache : List Pg} {out out1 : List Ou} (hS : w.heap[S]? = some (.cells #[vF, vC, vO] 61 (0, 0))) (hS0 : w0.heap.size ≤ S)
    (hF : kP.R 36 w w0.heap.size (fun k => some k ≠ vC.ownBlock) vF firm) (hC : kP.R 36 w w0.heap.size (fun k => some k ≠ vF.ownBlock) vC cache) (hO : kO.R 71 w w0.heap.size (fun _ => True) vO out)
    (hB : Below w0.heap.size w0 w) (hg : w.grownBy w1 vO.ownBlock) (ho : kO.R 71 w1 w0.heap.size (fun _ => True) v1 out1) : w1.heap[S]? = some (.cells #[vF, vC, vO] 61 (0, 0)) ∧ RS w0 (w1.setCell ⟨S, 2, none⟩ v1) S ⟨firm, cache, out1⟩ ∧ KM w (w1.setCell ⟨S, 2, none⟩ v1) := by
  have hS1 := state_stays hO hS hg
  have hb : Below w0.heap.size w0 w1 := hB.grown hg hB.size (own_base (Kd.R_own hO).choose_spec)
  exact ⟨hS1, RS_put_out hb hS1 hS0 (Kd.R_over hF hO ne7136 hg) (Kd.R_over hC hO ne7136 hg) ho, (KM.grown hO hg).trans (KM.set hS1 _)⟩

set_option maxHeartbeats 4000000 in
theorem apply_done (w0 : World) (S : Nat) (st : St) (x : Evt) (w : World) (hk : x.k = 2) (hs : RS w0 w S st) (hl : st.out.length ≤ 1000000) (hi : 0 ≤ idAt x.id st.out) (hb0 : 0 ≤ (rd_O st.out (idAt x.id st.out)).blk) (hb1 : (rd_O st.out (idAt x.id st.out)).blk < st.cache.length) :
    Calls Try.prog 50 #[.pointer (some ⟨S, 0, none⟩), x.v] w fun e w' => e = .returned (.tuple #[]) ∧ RS w0 w' S ⟨st.firm, st.cache.set (rd_O st.out (idAt x.id st.out)).blk.toNat (rd_O st.out (idAt x.id st.out)).pg, st.out.eraseIdx (idAt x.id st.out).toNat⟩ ∧ KM w w' := by
  have HF := Aside0.mk (fun (W : World) (hb : Below w.heap.size w W) => by
    obtain ⟨vF, vC, vO, hS, hS0, hF, hC, hO, hB⟩ := hs.below hb
    obtain ⟨A, c, eA⟩ := Kd.R_slice hO
    subst eA
    exact (find_calls S vF vC A c st.out x.id W hS (Kd.R_reads' hO).2.2 (by omega)).mono (fun e w' (h : e = _ ∧ Below W.heap.size W w') => show e = _ ∧ Below w.heap.size w w' from ⟨h.1, hb.trans (h.2.mono hb.size)⟩))
  have HS := Aside0.mk hs
  have hlt : idAt x.id st.out < st.out.length := by
    have := idFrom_bd x.id st.out 0
    unfold idAt at hi ⊢; omega
  clear hs
  obtain ⟨k, id, blk, ⟨a, cp, b⟩⟩ := x
  simp only [Evt.v] at hk hi hb0 hb1 hlt HF ⊢
  subst hk
  generalize idAt id st.out = at_ at *
  obtain ⟨i, rfl⟩ : ∃ i : Nat, at_ = i := ⟨at_.toNat, by omega⟩
  have hu38 := Try.underlying38
  go_enter Try.func50, Try.ntmps50
  go_wp2_with (fail)
  refine (HF.out _ (below_alloc (Below.refl _ w) _)).mono ?_
  rintro e w1 ⟨rfl, hb'⟩
  have HR := Aside0.mk (HS.out.below hb')
  have HK := Aside0.mk (KM.below hb')
  clear HS HF hb'
  obtain ⟨vF, vC, vO, hS, hS0, hF, hC, hO, hB⟩ := HR.out
  clear HR
  obtain ⟨A, c, eA⟩ := Kd.R_slice hO
  subst eA
  obtain ⟨g, cap, eC, gb, gl, cells, hcells⟩ := Kd.R_form hC (by omega)
  subst eC
  obtain ⟨ad, e0, hx0, hx1, hx2⟩ := at_O (Kd.R_reads' hO).2.2 (i : Int) (by omega) hlt
  subst e0
  simp only [Int.toNat_natCast] at hx0 hx1 hx2
  obtain ⟨ad0, e0, hy0⟩ := at_P (Kd.R_reads' hC).2.2 (rd_O st.out i).blk hb0 hb1
  cases e0
  simp only [add_plain] at hy0
  have hc1 := cell_of_row w1 S 1 _ _ _ hS
  have hc2 := cell_of_row w1 S 2 _ _ _ hS
  have hf0 : w1.frozen? ⟨g, (rd_O st.out i).blk.toNat, none⟩ = false := by
    obtain ⟨_, _, _, _, hf⟩ := Kd.R_elem hC zP (rd_O st.out i).blk hb0 hb1
    have h_ := hf 0
    rwa [show kP.sz = 1 from rfl, Nat.mul_one, Nat.add_zero] at h_
  have HSS := Aside0.mk hS
  have HFF := Aside0.mk hF
  have HCC := Aside0.mk hC
  have HOO := Aside0.mk hO
  have HBB := Aside0.mk hB
  have HS0 := Aside0.mk hS0
  clear hS hF hC hO hB hS0
  go_wp2_with (fail)
  go_region
  have H2 := RS_set_cache HSS.out HS0.out HFF.out HCC.out HOO.out HBB.out gb cells hcells (rd_O st.out i).blk (rd_O st.out i).pg
  have HR2 := Aside0.mk H2.1.drew
  have HK2 := Aside0.mk ((HK.out.trans H2.2).trans (KM.drew _))
  clear H2 HSS HFF HCC HOO HBB HS0 hx0 hx1 hx2 hy0 hc1 hc2 hf0 hcells HK
  simp only [Pg.v] at HR2 HK2
  generalize ((w1.setCell ⟨g, (rd_O st.out i).blk.toNat, none⟩ (.slice (rd_O st.out i).pg.A (rd_O st.out i).pg.b.length (rd_O st.out i).pg.c)).drew) = w2 at HR2 HK2 ⊢
  obtain ⟨vF2, vC2, vO2, hS, hS0, hF, hC, hO, hB⟩ := HR2.out
  clear HR2
  obtain ⟨A2, c2, eA⟩ := Kd.R_slice hO
  subst eA
  have hc2 := cell_of_row w2 S 2 _ _ _ hS
  dsimp only at hF hC hO hc2 hS
  have hd := delete_R hO i (i + 1) rfl (by omega)
  rw [show ((i + 1 : Nat) : Int) = (i : Int) + 1 from by omega] at hd
  have HD := Aside0.mk hd
  have HDL := Aside0.mk (fun w1 v1 hg ho => RS_del (w1 := w1) (v1 := v1) (out1 := st.out.eraseIdx i) hS hS0 hF hC hO hB hg ho)
  clear hd
  clear hS hS0 hF hC hO hB
  go_wp2_with (fail)
  refine HD.out.mono ?_
  rintro e w3 ⟨v3, rfl, ho, hob, hg⟩
  have H3 := HDL.out w3 v3 hg ho
  have HS3 := Aside0.mk H3.1
  have HR3 := Aside0.mk H3.2.1
  have HK3 := Aside0.mk (HK2.out.trans H3.2.2)
  obtain ⟨A3, c3, e3⟩ := Kd.R_slice ho
  subst e3
  have hc3 := cell_of_row w3 S 2 _ _ _ HS3.out
  have hf3 := frozen_of_row w3 S 2 _ _ HS3.out
  clear H3 HD HDL ho hob hg hc2 HK2
  go_wp2_with (fail)
  go_end0
  exact ⟨rfl, HR3.out, HK3.out⟩

/-- One block is flushed. -/
def flS (st : St) (i : Nat) : St := if (rd_P st.cache i).A.isSome then ⟨st.firm.set i (rd_P st.cache i), st.cache.set i zP, st.out⟩ else st
def flN : Nat → Nat → St → St
  | 0, _, st => st
  | d + 1, i, st => flN d (i + 1) (flS st i)
theorem flS_len (st : St) (i : Nat) : (flS st i).firm.length = st.firm.length ∧ (flS st i).cache.length = st.cache.length := by unfold flS; split <;> simp
def RSv (w0 w : World) (S : Nat) (vF vC vO : Value) (st : St) : Prop := w.heap[S]? = some (.cells #[vF, vC, vO] 61 (0, 0)) ∧ w0.heap.size ≤ S ∧
  kP.R 36 w w0.heap.size (fun k => some k ≠ vC.ownBlock) vF st.firm ∧ kP.R 36 w w0.heap.size (fun k => some k ≠ vF.ownBlock) vC st.cache ∧ kO.R 71 w w0.heap.size (fun _ => True) vO st.out ∧ Below w0.heap.size w0 w
theorem RSv.rs {w0 w : World} {S : Nat} {vF vC vO : Value} {st : St} (h : RSv w0 w S vF vC vO st) : RS w0 w S st := ⟨vF, vC, vO, h⟩
theorem RSv.below {w0 w w1 : World} {S : Nat} {vF vC vO : Value} {st : St} (h : RSv w0 w S vF vC vO st) (hb : Below w.heap.size w w1) : RSv w0 w1 S vF vC vO st := by
  obtain ⟨hS, hS0, hF, hC, hO, hB⟩ := h
  exact ⟨(hb.block S (Array.getElem?_eq_some_iff.1 hS).1).trans hS, hS0, Kd.R_below hF hb, Kd.R_below hC hb, Kd.R_below hO hb, hB.trans (hb.mono hB.size)⟩
theorem q36 (w : World) (a : Option Addr) (n c n' c' : Nat) : (binOp .neq 36 (.slice a n c) (.slice none n' c')).run Try.prog w = .ok (.bool a.isSome) w := by
  have := Lib.run_equalIn_slice_nil (P := Try.prog) w 9999 36 5 a n c n' c' Try.underlying36
  simp only [binOp]
  simp [Op.equal, Op.maxDepth, this]
theorem RSv_flush {w0 w : World} {S g1 n1 c1 g2 n2 c2 : Nat} {vO : Value} {firm cache : List Pg} {out : List Ou} (h : RSv w0 w S (.slice (some ⟨g1, 0, none⟩) n1 c1) (.slice (some ⟨g2, 0, none⟩) n2 c2) vO ⟨firm, cache, out⟩) (h1 : w0.heap.size ≤ g1) (h2 : w0.heap.size ≤ g2)
    (k1 : ∃ cells, w.heap[g1]? = some (.cells cells 36 (0, 0))) (k2 : ∃ cells, w.heap[g2]? = some (.cells cells 36 (0, 0))) (i : Int) (p q : Pg) :
    g1 ≠ g2 ∧ RSv w0 ((w.setCell ⟨g1, i.toNat, none⟩ p.v).setCell ⟨g2, i.toNat, none⟩ q.v) S (.slice (some ⟨g1, 0, none⟩) n1 c1) (.slice (some ⟨g2, 0, none⟩) n2 c2) vO ⟨firm.set i.toNat p, cache.set i.toNat q, out⟩ ∧ KM w ((w.setCell ⟨g1, i.toNat, none⟩ p.v).setCell ⟨g2, i.toNat, none⟩ q.v) := by
  obtain ⟨hS, hS0, hF, hC, hO, hB⟩ := h
  obtain ⟨x1, k1⟩ := k1
  obtain ⟨x2, k2⟩ := k2
  have hne : g1 ≠ g2 := by intro e; exact hF.1 g1 rfl (by rw [e]; rfl)
  have a1 : S ≠ g1 := by rintro rfl; rw [hS] at k1; injection k1 with k1; injection k1 with _ k1; exact absurd k1 (by decide)
  have a2 : S ≠ g2 := by rintro rfl; rw [hS] at k2; injection k2 with k2; injection k2 with _ k2; exact absurd k2 (by decide)
  have m2 : (w.setCell ⟨g1, i.toNat, none⟩ p.v).heap[g2]? = some (.cells x2 36 (0, 0)) := (heap_setCell_other w _ g2 _ (Ne.symm hne)).trans k2
  refine ⟨hne, ⟨?_, hS0, ?_, ?_, Kd.R_set (Kd.R_set hO k1 (by decide) _ _) m2 (by decide) _ _, below_set (below_set hB h1) h2⟩, (KM.set k1 _).trans (KM.set m2 _)⟩
  · exact (heap_setCell_other _ _ S _ a2).trans ((heap_setCell_other _ _ S _ a1).trans hS)
  · exact Kd.R_far (Kd.R_putn hF i p) (fun k hk e => hk (by rw [e]; rfl)) _
  · exact Kd.R_putn (Kd.R_far hC (fun k hk e => hk (by rw [e]; rfl)) _) i q

set_option maxHeartbeats 4000000 in
theorem apply_flush (w0 : World) (S : Nat) (st : St) (x : Evt) (w : World) (hk : x.k = 3) (hs : RS w0 w S st) (hl : st.cache.length ≤ 1000000) (hfl : st.firm.length = st.cache.length) :
    Calls Try.prog 50 #[.pointer (some ⟨S, 0, none⟩), x.v] w fun e w' => e = .returned (.tuple #[]) ∧ RS w0 w' S (flN st.cache.length 0 st) ∧ KM w w' := by
  obtain ⟨vF, vC, vO, hv⟩ := hs
  obtain ⟨AC, cC, eC⟩ := Kd.R_slice hv.2.2.2.1
  obtain ⟨n, hn⟩ : ∃ n, n = st.cache.length := ⟨_, rfl⟩
  rw [← hn] at eC hl hfl ⊢
  subst eC
  have HS := Aside0.mk (show RSv w0 w S vF (.slice AC n cC) vO st from hv)
  have hc := cell_of_row w S 1 _ _ _ hv.1
  have HX := fun o => pw_cell_below (below_alloc (Below.refl _ w) o) hc
  clear hv hc
  obtain ⟨k, id, blk, ⟨a, cp, b⟩⟩ := x
  simp only [Evt.v] at hk ⊢
  subst hk
  have hu38 := Try.underlying38
  have HN := Aside0.mk hn
  have HFL := Aside0.mk hfl
  clear hn hfl
  go_enter Try.func50, Try.ntmps50
  go_wp2_with (fail)
  have H0 : Aside0 (RSv w0 (w.alloc (.cells #[.int .i64 3, .int .i64 id, .int .i64 blk, .slice a b.length cp] 38)) S vF (.slice AC n cC) vO st ∧ KM w (w.alloc (.cells #[.int .i64 3, .int .i64 id, .int .i64 blk, .slice a b.length cp] 38))) := ⟨HS.out.below (below_alloc (Below.refl _ w) _), KM.alloc w _⟩
  clear HS HX
  go_loopg [5, 6, 72] n (fun gg _ _ s72 wr => ∃ (kk : Nat) (st' : St), kk ≤ n ∧ n - kk ≤ gg ∧ s72 = .int .i64 kk ∧ Aside0 (RSv w0 wr S vF (.slice AC n cC) vO st' ∧ KM w wr) ∧ Aside0 (st'.cache.length = n ∧ st'.firm.length = n ∧ flN (n - kk) kk st' = flN n 0 st))
  case atStart => exact ⟨0, st, Nat.zero_le _, by omega, rfl, H0, ⟨HN.out.symm, HFL.out, rfl⟩⟩
  case round =>
    clear H0 HN HFL
    obtain ⟨kk, st', hkk, hg, rfl, HR, HL⟩ := hrel
    by_cases hlt : kk < n
    · have hltz : (kk : Int) < (n : Int) := by omega
      have hv := HR.out.1
      obtain ⟨g2, c2, e2, gb2, _, k2⟩ := Kd.R_form hv.2.2.2.1 (by have := HL.out.1; omega)
      obtain ⟨g1, c1, e1, gb1, _, k1⟩ := Kd.R_form hv.2.2.1 (by have := HL.out.2.1; omega)
      rw [HL.out.1] at e2
      rw [HL.out.2.1] at e1
      injection e2 with e2a _ e2c
      subst e2a
      subst e2c
      subst e1
      have hm1 := HL.out.1
      have hm2 := HL.out.2.1
      have hLL := HL.out.2.2
      rw [show n - kk = (n - (kk + 1)) + 1 from by omega, flN] at hLL
      obtain ⟨ad0, e0, hy0⟩ := at_P (Kd.R_reads' hv.2.2.2.1).2.2 (kk : Int) (by omega) (by omega)
      cases e0
      obtain ⟨ad0, e0, hz0⟩ := at_P (Kd.R_reads' hv.2.2.1).2.2 (kk : Int) (by omega) (by omega)
      cases e0
      simp only [add_plain, Int.toNat_natCast] at hy0 hz0
      have hf2 : wr.frozen? ⟨g2, kk, none⟩ = false := by
        obtain ⟨_, _, _, _, hf⟩ := Kd.R_elem hv.2.2.2.1 zP kk (by omega) (by omega)
        have h_ := hf 0
        rwa [show kP.sz = 1 from rfl, Nat.mul_one, Nat.add_zero, Int.toNat_natCast] at h_
      have hf1 : wr.frozen? ⟨g1, kk, none⟩ = false := by
        obtain ⟨_, _, _, _, hf⟩ := Kd.R_elem hv.2.2.1 zP kk (by omega) (by omega)
        have h_ := hf 0
        rwa [show kP.sz = 1 from rfl, Nat.mul_one, Nat.add_zero, Int.toNat_natCast] at h_
      have HV := Aside0.mk (RSv_flush (firm := st'.firm) (cache := st'.cache) (out := st'.out) hv gb1 gb2 k1 k2 kk (rd_P st'.cache kk) zP)
      have hne := HV.out.1
      have hne' := Ne.symm hne
      have hcS0 := cell_of_row wr S 0 _ _ _ hv.1
      have hcS1 := cell_of_row wr S 1 _ _ _ hv.1
      have HLN := Aside0.mk (flS_len st' kk)
      have HFS := Aside0.mk hLL
      have HLL := Aside0.mk (And.intro HL.out.1 HL.out.2.1)
      have HRR := Aside0.mk HR.out
      clear hv hLL HL HR k1 k2 gb1 gb2 hm1 hm2
      simp only [Int.toNat_natCast] at HV
      unfold flS at HFS
      have HQ := q36
      generalize hp : rd_P st'.cache kk = p at *
      obtain ⟨pA, pc, pb⟩ := p
      cases pA with
      | none =>
        clear HV
        go_wp2_with (fail)
        go_roundg (n - (kk + 1))
        case measure => omega
        case rel => exact ⟨kk + 1, st', by omega, by omega, by go_num, HRR, ⟨HLL.out.1, HLL.out.2, HFS.out⟩⟩
      | some pa =>
        go_wp2_with (fail)
        go_region
        go_wp2_with (fail)
        go_roundg (n - (kk + 1))
        case measure => omega
        case rel =>
          refine ⟨kk + 1, _, by omega, by omega, by go_num, ⟨HV.out.2.1.below (below_drew1 (Below.refl _ _)), (HRR.out.2.trans HV.out.2.2).trans (KM.drew _)⟩, ⟨by simp [HLL.out.1], by simp [HLL.out.2], HFS.out⟩⟩
    · have hltz : ¬ (kk : Int) < (n : Int) := by omega
      have : kk = n := by omega
      subst this
      go_wp2_with (fail)
      go_end0
      have hLL := HL.out.2.2
      rw [Nat.sub_self, flN] at hLL
      exact ⟨rfl, by rw [← hLL]; exact HR.out.1.rs, HR.out.2⟩

set_option maxHeartbeats 1000000 in
theorem cloneP_calls (A0 : Option Addr) (c0 : Nat) (l0 : List Pg) (w : World) (hr0 : Kd.C kP w A0 l0.length l0) (hn : l0.length ≤ 1000000) :
    Calls Try.prog 48 #[.slice A0 l0.length c0] w fun e w' => ∃ v0_ : Value, e = .returned v0_ ∧ kP.R 36 w' w.heap.size (fun _ => True) v0_ l0 ∧ Below w.heap.size w w' := by
  have q22 : ∀ (w : World) (a : Option Addr) (n c n' c' : Nat), (binOp .eql 22 (.slice a n c) (.slice none n' c')).run Try.prog w = .ok (.bool a.isNone) w := fun w a n c n' c' => Lib.run_eql_slice_nil w _ _ a n c n' c' Try.underlying22
  cases A0 with
  | none =>
    have h0 : l0 = [] := by
      cases l0 with
      | nil => rfl
      | cons x l => obtain ⟨ad, e, _⟩ := at_P hr0 0 (by omega) (by simp); cases e
    subst h0
    clear hr0
    go_enter Try.func48, Try.ntmps48
    go_wp2
    go_ret
    exact ⟨_, rfl, Kd.R_nil _ _ _ _ _, Below.refl _ _⟩
  | some ad =>
    have HR0 := Aside0.mk hr0
    have HN0 := Aside0.mk hn
    clear hr0 hn
    have HB := Aside0.mk (Below.refl w.heap.size w)
    go_enter Try.func48, Try.ntmps48
    go_wp2_with (first | ((with_reducible refine gate_dst (N := 5) rfl ?_); refine Kd.R_lit kP _ 36 ?hg (N := 5) ?hd (xs := ([] : List Pg)) (inner := []) (ok := fun _ => True) (okp := fun _ => True) ?hr ?hp (fun _ hk => hk) trivial (Below.refl _ _) (Nat.le_refl _) (by simp) ?_; (case hd => rfl); (case hg => rfl); (case hr => first | (go_simp; done) | (go_simp; rfl)); (case hp => exact (Reps.none _ _)); intro v206 w3 ho4 hb hg_ hnew_; clear hg_ hnew_; have n0_ := Aside0.mk (Kd.R_lower ho4 (below_size HB.out)); have n1_ := Aside0.mk (below_step HB.out hb); clear HB; have HO207 := n0_; have HB := n1_; clear n0_ n1_; clear hb ho4) | ((with_reducible refine gate_builtin (b := .append) (xs := #[.tmp 5, .tmp 6]) rfl ?_); at_builtin; refine Kd.R_append_rows kP (w0 := w) w.heap.size rfl (.tmp 5) (.tmp 6) 22 36 (.slice none 0 0) 24 rfl Try.underlying22 info36 rfl (by decide) (by omega) v206 [] l0 _ _ _ (fun _ => True) (fun _ => False) rfl rfl ?aO ?aR (fun _ _ h => h) (fun _ h => h.elim) ?aF ?aB ?aS ?aL ?_; (case aR => exact (Kd.C_below HR0.out HB.out)); (case aB => exact HB.out); (case aF => exact (fun _ _ => trivial)); (case aO => exact HO207.out); (case aS => exact (below_size HB.out)); (case aL => have := HN0.out; simp; omega); intro v209 w5 ho hb hg hat; have n0_ := Aside0.mk (hb); have n1_ := Aside0.mk (ho); clear HB; clear HO207; have HB := n0_; have HO210 := n1_; clear n0_ n1_; clear ho hb hg hat))
    go_ret
    exact ⟨_, rfl, by have := HO210.out; simpa using this, HB.out⟩

def mzP (n : Nat) : Array Value := (madeCells (Value.slice none 0 0).cells (n * 1)).toList.toArray
theorem make_run (n : Nat) (hn : n ≤ 1000000) (W : World) : (Instr.makeSlice 22 (.int .i64 n) (.int .i64 n)).run Try.prog W = .ok (.slice (some ⟨W.heap.size, 0, none⟩) n n) (W.alloc (.cells (mzP n) 36)) := by
  obtain ⟨i0, hi, hz0, hz1, hz2⟩ := info_parts info36
  have hr := run_make (P := Try.prog) W 22 36 i0 (.slice none 0 0) Try.underlying22 hi hz0 .i64 .i64 (n : Int) (n : Int) (by omega) (by omega)
    (by rw [hz2]; omega) (by omega)
  simp only [Int.toNat_natCast] at hr
  rw [hz1] at hr
  rw [hr]; rfl
theorem make_R (n : Nat) (hn : n ≤ 1000000) (W : World) (base : Nat) (hb : base ≤ W.heap.size) (ok : Nat → Prop) (hok : ok W.heap.size) : kP.R 36 (W.alloc (.cells (mzP n) 36)) base ok (.slice (some ⟨W.heap.size, 0, none⟩) n n) (List.replicate n zP) := by
  have hrep := fun (R : Pg → List Value → Prop) (h : R zP (Value.slice none 0 0).cells.toList) => Kd.reps_made (R := R) (z := .slice none 0 0) (size := 1) (z0 := zP) rfl (by decide) h n
  have hl : (mzP n).size = n * 1 := by have := (hrep (fun _ _ => True) trivial).1; simpa [mzP] using this
  refine ⟨fun k hk => ?_, (mzP n).toList, ⟨?_, .inr ⟨W.heap.size, n, mzP n, by rw [List.length_replicate], hb, heap_alloc_new W _, by simp, by unfold maxLen; omega, hl, ?_⟩⟩, ?_⟩
  · have : W.heap.size = k := by simpa [Value.ownBlock] using hk
    subst this; exact hok
  · rw [show kP.sz = 1 from rfl]; simpa using hl
  · rw [List.take_of_length_le]; rw [show kP.sz = 1 from rfl]; simp [hl]
  · exact hrep _ rfl

theorem RS_start1 {w W : World} {n : Nat} {A : Option Addr} {m c : Nat} {Bs : List Pg} (hn : n ≤ 1000000) (hF : kP.R 36 W w.heap.size (fun _ => True) (.slice A m c) Bs) (hb : Below w.heap.size w W) :
    RS w ((W.alloc (.cells (mzP n) 36)).alloc (.cells #[.slice A m c, .slice (some ⟨W.heap.size, 0, none⟩) n n, .slice none 0 0] 61)) (W.heap.size + 1) ⟨Bs, List.replicate n zP, []⟩ := by
  refine ⟨_, _, _, ?_, ?_, Kd.R_alloc (Kd.R_alloc (Kd.R_mono (Kd.R_bound hF) (fun k hk e => ?_)) _) _, Kd.R_alloc (make_R n hn W w.heap.size hb.size _ (fun e => ?_)) _, Kd.R_nil _ _ _ _ _, below_alloc (below_alloc hb _) _⟩
  · have := heap_alloc_new (W.alloc (.cells (mzP n) 36)) (.cells #[.slice A m c, .slice (some ⟨W.heap.size, 0, none⟩) n n, .slice none 0 0] 61)
    rwa [show (W.alloc (.cells (mzP n) 36)).heap.size = W.heap.size + 1 from Array.size_push _] at this
  · have := hb.size; omega
  · have h1 := hk.2.2.1
    have : k = W.heap.size := by simpa [Value.ownBlock] using e
    omega
  · obtain ⟨_, inner, ho, _⟩ := hF
    have := own_lt ho _ e.symm
    omega
theorem RS_start2 {w W0 W : World} {n : Nat} {A : Option Addr} {m c : Nat} {Bs : List Pg} (hn : n ≤ 1000000) (hb0 : Below w.heap.size w W0) (hF : kP.R 36 W (W0.alloc (.cells (mzP n) 36)).heap.size (fun _ => True) (.slice A m c) Bs) (hb : Below (W0.alloc (.cells (mzP n) 36)).heap.size (W0.alloc (.cells (mzP n) 36)) W) :
    RS w (W.alloc (.cells #[.slice A m c, .slice (some ⟨W0.heap.size, 0, none⟩) n n, .slice none 0 0] 61)) W.heap.size ⟨Bs, List.replicate n zP, []⟩ := by
  have hs : (W0.alloc (.cells (mzP n) 36)).heap.size = W0.heap.size + 1 := Array.size_push _
  have hb2 : Below w.heap.size w W := (below_alloc hb0 _).trans (hb.mono (below_alloc hb0 (.cells (mzP n) 36)).size)
  refine ⟨_, _, _, heap_alloc_new W _, hb2.size, Kd.R_alloc (Kd.R_lower (Kd.R_mono (Kd.R_bound hF) (fun k hk e => ?_)) ?_) _, Kd.R_alloc (Kd.R_below (make_R n hn W0 w.heap.size hb0.size _ (fun e => ?_)) hb) _, Kd.R_nil _ _ _ _ _, below_alloc hb2 _⟩
  · have h1 := hk.2.1
    have : k = W0.heap.size := by simpa [Value.ownBlock] using e
    omega
  · have := hb0.size; omega
  · obtain ⟨_, inner, ho, _⟩ := hF
    have := own_base ho _ e.symm
    omega
theorem R_offmap {α : Type} {d : Kd α} {e base : Nat} {w w1 : World} {ok : Nat → Prop} {v : Value} {xs : List α} {M : Nat} {es : Array MapEntry} {cl : Nat} (h : d.R e w base ok v xs) (hM : w.heap[M]? = some (Obj.map es cl)) (hm : ∀ k, k ≠ M → w1.heap[k]? = w.heap[k]?) : d.R e w1 base ok v xs := by
  refine Kd.R_mono (Kd.R_move (Kd.R_bound h) (fun k hk => hm k (fun e1 => ?_))) (fun _ hk => hk.1)
  obtain ⟨_, _, _, _, _, cells, hc⟩ := hk
  rw [e1, hM] at hc; cases hc
/-- A map has been written. -/
theorem RS.offmap {w0 w : World} {S M : Nat} {st : St} {o : Obj} {ids : List Int} (h : RS w0 w S st) (hM : IdMap w M ids) (hM0 : w0.heap.size ≤ M) : RS w0 { w with heap := w.heap.setIfInBounds M o } S st := by
  obtain ⟨vF, vC, vO, hS, hS0, hF, hC, hO, hB⟩ := h
  obtain ⟨es, cl, hm, _⟩ := hM
  have hk : ∀ k, k ≠ M → ({ w with heap := w.heap.setIfInBounds M o } : World).heap[k]? = w.heap[k]? := fun k hk => by simp [Ne.symm hk]
  have hSM : S ≠ M := by rintro rfl; rw [hS] at hm; cases hm
  exact ⟨vF, vC, vO, (hk S hSM).trans hS, hS0, R_offmap hF hm hk, R_offmap hC hm hk, R_offmap hO hm hk, ⟨hB.os, hB.tape, hB.output, by simpa using hB.size, fun k hk2 => (hk k (by omega)).trans (hB.block k hk2)⟩⟩
theorem IdMap.km {w w1 : World} {M : Nat} {ids : List Int} (h : IdMap w M ids) (k : KM w w1) : IdMap w1 M ids := by
  obtain ⟨es, cl, hm, r⟩ := h
  exact ⟨es, cl, k.2 M es cl hm, r⟩

def kE : Kd Evt := Kd.iso (Kd.pair (Kd.int .i64) (Kd.pair (Kd.int .i64) (Kd.pair (Kd.int .i64) kP))) (fun x : Evt => (x.k, x.id, x.blk, x.pg))
def zE : Evt := ⟨0, 0, 0, zP⟩
theorem kE_open {w : World} {x : Evt} {cs : List Value} (h : kE.K w x cs) : cs = [.int .i64 x.k, .int .i64 x.id, .int .i64 x.blk, x.pg.v] := by
  obtain ⟨_, _, rfl, rfl, ⟨_, _, rfl, rfl, ⟨_, _, rfl, rfl, rfl⟩⟩⟩ := h
  rfl
def rd_E (xs : List Evt) (i : Int) : Evt := xs.getD i.toNat zE
theorem at_E {w : World} {A : Option Addr} {n : Nat} {xs : List Evt} (h : Kd.C kE w A n xs) (i : Int) (h0 : 0 ≤ i) (h1 : i < n) : ∃ ad, A = some ad ∧ w.cell? (ad.add (i.toNat * 4)) = some (.int .i64 (rd_E xs i).k) ∧ w.cell? ⟨(ad.add (i.toNat * 4)).block, (ad.add (i.toNat * 4)).off + 1, none⟩ = some (.int .i64 (rd_E xs i).id) ∧ w.cell? ⟨(ad.add (i.toNat * 4)).block, (ad.add (i.toNat * 4)).off + 2, none⟩ = some (.int .i64 (rd_E xs i).blk) ∧ w.cell? ⟨(ad.add (i.toNat * 4)).block, (ad.add (i.toNat * 4)).off + 3, none⟩ = some (.slice (rd_E xs i).pg.A (rd_E xs i).pg.b.length (rd_E xs i).pg.c) := by
  obtain ⟨ad, c, e, _, hK, hc0⟩ := Kd.C_get h zE i h0 h1
  have hc : ∀ j u, c[j]? = some u → w.cell? (ad.add (i.toNat * 4 + j)) = some u := hc0
  have := kE_open hK
  subst this
  exact ⟨ad, e, hc 0 _ rfl, by rw [← add_field _ _ 1 (by omega)]; exact hc 1 _ rfl, by rw [← add_field _ _ 2 (by omega)]; exact hc 2 _ rfl, by rw [← add_field _ _ 3 (by omega)]; exact hc 3 _ rfl⟩
theorem rd_E_nat (l : List Evt) (i : Nat) (h : i < l.length) : rd_E l i = l[i] := by unfold rd_E; simp [List.getD_eq_getElem?_getD, h]
def badP (p : Pg) : Bool := (p.b.length : Int) != 32
theorem bad_drop (l : List Pg) (k : Nat) (h : k < l.length) : (l.drop k).any badP = (badP (rd_P l k) || (l.drop (k + 1)).any badP) := by
  rw [rd_P_nat l k h, ← List.any_cons, ← List.drop_eq_getElem_cons h]
/-- What an event makes of the state. -/
def applyS (st : St) (x : Evt) : St :=
  if x.k = 1 then ⟨st.firm, st.cache, st.out ++ [⟨x.id, x.blk, x.pg⟩]⟩
  else if x.k = 2 then ⟨st.firm, st.cache.set (rd_O st.out (idAt x.id st.out)).blk.toNat (rd_O st.out (idAt x.id st.out)).pg, st.out.eraseIdx (idAt x.id st.out).toNat⟩
  else flN st.cache.length 0 st
def evs (n : Nat) : List Evt → List Int → St → Int × St
  | [], _, st => (0, st)
  | x :: l, ids, st => if wrongF n ids st.out x ≠ 0 then (wrongF n ids st.out x, st) else evs n l (if x.k = 1 then ids ++ [x.id] else ids) (applyS st x)
def afterF (Bs : List Pg) (Es : List Evt) : Int × St := if Bs.any badP = true then (3, ⟨[], [], []⟩) else evs Bs.length Es [] ⟨Bs, List.replicate Bs.length zP, []⟩

/-- What holds of the state after j events, of n blocks. -/
def Inv (n j : Nat) (st : St) : Prop := st.firm.length = n ∧ st.cache.length = n ∧ st.out.length ≤ j ∧ ∀ o ∈ st.out, 0 ≤ o.blk ∧ o.blk < n

theorem wrong_RS {w0 w : World} {S M : Nat} {st : St} {ids : List Int} (x : Evt) (h : RS w0 w S st) (hM : IdMap w M ids) (hl : st.out.length ≤ 1000000) :
    Calls Try.prog 49 #[.pointer (some ⟨S, 0, none⟩), x.v, .map (some M)] w fun e w' => e = .returned (.int .i64 (wrongF st.firm.length ids st.out x)) ∧ Below w.heap.size w w' := by
  obtain ⟨vF, vC, vO, hS, hS0, hF, hC, hO, hB⟩ := h
  obtain ⟨AF, cF, eF⟩ := Kd.R_slice hF
  obtain ⟨AO, cO, eO⟩ := Kd.R_slice hO
  subst eF
  subst eO
  exact wrong_calls S M AF st.firm.length cF vC AO cO st.out ids x w hS (Kd.R_reads' hO).2.2 (by omega) hM
theorem wrong_zero {n : Nat} {ids : List Int} {out : List Ou} {x : Evt} (h : wrongF n ids out x = 0) : (x.k = 1 ∧ 0 ≤ x.blk ∧ x.blk < n ∧ x.id ∉ ids) ∨ (x.k = 2 ∧ 0 ≤ idAt x.id out) ∨ x.k = 3 := by
  unfold wrongF at h
  split at h
  · rename_i k1
    left
    split at h
    · exact absurd h (by decide)
    · split at h
      · exact absurd h (by decide)
      · split at h
        · exact absurd h (by decide)
        · rename_i a _ c; exact ⟨k1, by omega, by omega, c⟩
  · split at h
    · rename_i k2
      right; left
      split at h
      · exact absurd h (by decide)
      · split at h
        · exact absurd h (by decide)
        · rename_i _ c; exact ⟨k2, by omega⟩
    · split at h
      · rename_i k3; exact .inr (.inr k3)
      · exact absurd h (by decide)
theorem rd_O_mem {l : List Ou} {i : Int} (h0 : 0 ≤ i) (h1 : i < l.length) : rd_O l i ∈ l := by
  obtain ⟨k, rfl⟩ : ∃ k : Nat, i = k := ⟨i.toNat, by omega⟩
  rw [rd_O_nat l k (by omega)]; exact List.getElem_mem _
theorem idAt_lt {id : Int} {l : List Ou} (h : 0 ≤ idAt id l) : idAt id l < l.length := by
  have := idFrom_bd id l 0
  unfold idAt at h ⊢; omega
theorem flN_len : ∀ (d i : Nat) (st : St), (flN d i st).firm.length = st.firm.length ∧ (flN d i st).cache.length = st.cache.length ∧ (flN d i st).out = st.out
  | 0, i, st => ⟨rfl, rfl, rfl⟩
  | d + 1, i, st => by
    obtain ⟨h1, h2, h3⟩ := flN_len d (i + 1) (flS st i)
    have h4 := flS_len st i
    refine ⟨h1.trans h4.1, h2.trans h4.2, h3.trans ?_⟩
    unfold flS; split <;> rfl
theorem apply_RS {w0 w : World} {S n j : Nat} {st : St} {ids : List Int} (x : Evt) (h : RS w0 w S st) (hI : Inv n j st) (hj : j ≤ 1000000) (hn : n ≤ 1000000) (hz : wrongF n ids st.out x = 0) :
    Calls Try.prog 50 #[.pointer (some ⟨S, 0, none⟩), x.v] w fun e w' => e = .returned (.tuple #[]) ∧ RS w0 w' S (applyS st x) ∧ KM w w' := by
  obtain ⟨i1, i2, i3, i4⟩ := hI
  rcases wrong_zero hz with ⟨k, _, _, _⟩ | ⟨k, k1⟩ | k
  · have := apply_write w0 S st x w k h (by omega)
    unfold applyS; rw [if_pos k]; exact this
  · have hm := i4 _ (rd_O_mem k1 (idAt_lt k1))
    have := apply_done w0 S st x w k h (by omega) k1 hm.1 (by rw [i2]; exact hm.2)
    unfold applyS; rw [if_neg (by rw [k]; decide), if_pos k]; exact this
  · have := apply_flush w0 S st x w k h (by omega) (by omega)
    unfold applyS; rw [if_neg (by rw [k]; decide), if_neg (by rw [k]; decide)]; exact this
theorem Inv_step {n j : Nat} {st : St} {ids : List Int} {x : Evt} (hI : Inv n j st) (hz : wrongF n ids st.out x = 0) : Inv n (j + 1) (applyS st x) := by
  obtain ⟨i1, i2, i3, i4⟩ := hI
  rcases wrong_zero hz with ⟨k, k1, k2, _⟩ | ⟨k, k1⟩ | k
  · unfold applyS; rw [if_pos k]
    refine ⟨i1, i2, by simp; omega, fun o ho => ?_⟩
    rcases List.mem_append.1 ho with ho | ho
    · exact i4 o ho
    · rw [List.mem_singleton.1 ho]; exact ⟨k1, k2⟩
  · unfold applyS; rw [if_neg (by rw [k]; decide), if_pos k]
    refine ⟨i1, by simpa using i2, ?_, fun o ho => i4 o (List.mem_of_mem_eraseIdx ho)⟩
    have := List.length_eraseIdx_le st.out (idAt x.id st.out).toNat
    simp only; omega
  · unfold applyS; rw [if_neg (by rw [k]; decide), if_neg (by rw [k]; decide)]
    obtain ⟨f1, f2, f3⟩ := flN_len st.cache.length 0 st
    exact ⟨f1.trans i1, f2.trans i2, by rw [f3]; omega, by rw [f3]; exact i4⟩

set_option maxHeartbeats 4000000 in
theorem after_calls (A0 : Option Addr) (c0 : Nat) (Bs : List Pg) (A1 : Option Addr) (c1 : Nat) (Es : List Evt) (w : World) (hr0 : Kd.C kP w A0 Bs.length Bs) (hr1 : Kd.C kE w A1 Es.length Es) (hn0 : Bs.length ≤ 1000000) (hn1 : Es.length ≤ 1000000) :
    Calls Try.prog 32 #[.slice A0 Bs.length c0, .slice A1 Es.length c1] w fun e w' => Below w.heap.size w w' ∧ (((afterF Bs Es).1 ≠ 0 ∧ e = .returned (.tuple #[.pointer none, .int .i64 (afterF Bs Es).1])) ∨ ((afterF Bs Es).1 = 0 ∧ ∃ S, e = .returned (.tuple #[.pointer (some ⟨S, 0, none⟩), .int .i64 0]) ∧ RS w w' S (afterF Bs Es).2)) := by
  have HR0 := Aside0.mk hr0
  have HR1 := Aside0.mk hr1
  clear hr0 hr1
  obtain ⟨n, hn⟩ : ∃ n, n = Bs.length := ⟨_, rfl⟩
  have HN := Aside0.mk hn
  rw [← hn] at hn0 HR0 ⊢
  clear hn
  go_enter Try.func32, Try.ntmps32
  go_wp2
  go_loopg [7, 15] n (fun gg _ s15 wr => ∃ kk : Nat, kk ≤ n ∧ n - kk ≤ gg ∧ s15 = .int .i64 kk ∧ Aside0 (Below w.heap.size w wr) ∧ Aside0 (Bs.any badP = (Bs.drop kk).any badP))
  case atStart => exact ⟨0, Nat.zero_le _, by omega, rfl, ⟨Below.refl _ w⟩, ⟨rfl⟩⟩
  case round =>
    obtain ⟨kk, hkk, hg, rfl, BW, A⟩ := hrel
    by_cases hlt : kk < n
    · have hltz : (kk : Int) < (n : Int) := by omega
      obtain ⟨ad, e0, hx0⟩ := at_P (Kd.C_below HR0.out BW.out) (kk : Int) (by omega) hltz
      cases e0
      simp only [Int.toNat_natCast] at hx0
      have HA := A.out
      rw [bad_drop Bs kk (by rw [← HN.out]; exact hlt)] at HA
      by_cases hq : ((rd_P Bs kk).b.length : Int) ≠ 32
      · have d0 : (((rd_P Bs kk).b.length : Int) != 32) = true := bne_iff_ne.mpr hq
        have HE : Aside0 ((afterF Bs Es).1 = 3) := ⟨by unfold afterF; rw [HA, show badP (rd_P Bs kk) = true from d0]; rfl⟩
        clear HA A
        go_wp2_with (fail)
        go_ret2
        exact ⟨BW.out, .inl ⟨by rw [HE.out]; decide, by rw [HE.out]; rfl⟩⟩
      · have d0 : (((rd_P Bs kk).b.length : Int) != 32) = false := by simpa using hq
        have HE : Aside0 (Bs.any badP = (Bs.drop (kk + 1)).any badP) := ⟨by rw [HA, show badP (rd_P Bs kk) = false from d0, Bool.false_or]⟩
        clear HA A
        go_wp2_with (fail)
        go_roundg (n - (kk + 1))
        case measure => omega
        case rel => exact ⟨kk + 1, by omega, by omega, by go_num, BW, HE⟩
    · have hltz : ¬ (kk : Int) < (n : Int) := by omega
      have : kk = n := by omega
      subst this
      have HF : Aside0 (Bs.any badP = false) := ⟨by rw [A.out, HN.out, List.drop_length]; rfl⟩
      have HCl := Aside0.mk (fun (W : World) (hb : Below w.heap.size w W) => show Calls Try.prog 48 #[.slice A0 kk c0] W (fun e w' => ∃ v, e = .returned v ∧ kP.R 36 w' W.heap.size (fun _ => True) v Bs ∧ Below W.heap.size W w') from by
        have h_ := HN.out
        have hr := Kd.C_below HR0.out hb
        rw [h_] at hr hn0 ⊢
        exact cloneP_calls A0 c0 Bs W hr hn0)
      have HBW := Aside0.mk BW.out
      have HM := make_run kk hn0
      clear A
      go_wp2_with (fail)
      go_region_law (refine goes_ Try.func48 (by kernel_rfl) rfl #[.slice A0 kk c0] (by rfl) rfl rfl (by (try simp only [List.map_toArray, List.map_cons, List.map_nil]); first | done | rfl) ?_; refine (HCl.out _ (by repeat (first | exact HBW.out | apply below_drew1 | apply below_alloc))).mono ?_; rintro e w1 ⟨v1, rfl, ho, hb⟩; obtain ⟨Av, cv, ev⟩ := Kd.R_slice ho; subst ev; refine ⟨_, rfl, ?_⟩)
      obtain ⟨W, S, HRS, eW, eS⟩ : ∃ W S, Aside0 (RS w W S ⟨Bs, List.replicate kk zP, []⟩) ∧ ((w1.alloc (.cells (mzP kk) 36)).alloc (.cells #[.slice Av Bs.length cv, .slice (some ⟨w1.heap.size, 0, none⟩) kk kk, .slice none 0 0] 61)) = W ∧ w1.heap.size + 1 = S := ⟨_, _, ⟨RS_start1 hn0 (Kd.R_lower ho (below_drew1 HBW.out).size) ((below_drew1 HBW.out).trans (hb.mono (below_drew1 HBW.out).size))⟩, rfl, rfl⟩
      rw [eW, eS]
      clear eW eS ho hb
      rotate_left
      obtain ⟨W, S, HRS, eW, eS⟩ : ∃ W S, Aside0 (RS w W S ⟨Bs, List.replicate kk zP, []⟩) ∧ (w1.alloc (.cells #[.slice Av Bs.length cv, .slice (some ⟨wr.heap.size, 0, none⟩) kk kk, .slice none 0 0] 61)) = W ∧ w1.heap.size = S := ⟨_, _, ⟨RS_start2 (W0 := wr.drew) hn0 (below_drew1 HBW.out) ho hb⟩, rfl, rfl⟩
      rw [eW, eS]
      clear eW eS ho hb
      all_goals
        clear HM HCl HR0
        go_wp2_with (fail)
        rw [run_makeMap (P := Try.prog) 67 W]
        have HR2 := Aside0.mk (HRS.out.below (below_alloc (Below.refl _ W) (.map #[] 0)))
        have HI2 : Aside0 (IdMap (W.alloc (.map #[] 0)) W.heap.size []) := ⟨#[], 0, heap_alloc_new W _, by simp, by simp⟩
        have HM0 : Aside0 (w.heap.size ≤ W.heap.size) := ⟨by obtain ⟨_, _, _, _, _, _, _, _, hB⟩ := HRS.out; exact hB.size⟩
        clear HRS
        generalize W.heap.size = M at HI2 HM0 ⊢
        generalize W.alloc (.map #[] 0) = W2 at HR2 HI2 ⊢
        clear BW HBW
        go_wp2_with (fail)
        go_loopg [33] Es.length (fun gg s33 wr2 => ∃ (jj : Nat) (ids : List Int) (st : St), jj ≤ Es.length ∧ Es.length - jj ≤ gg ∧ s33 = .int .i64 jj ∧ Aside0 (RS w wr2 S st ∧ IdMap wr2 M ids) ∧ Aside0 (Inv kk jj st ∧ evs kk Es [] ⟨Bs, List.replicate kk zP, []⟩ = evs kk (Es.drop jj) ids st))
        case atStart => exact ⟨0, [], _, Nat.zero_le _, by omega, rfl, ⟨HR2.out, HI2.out⟩, ⟨⟨HN.out.symm, List.length_replicate .., Nat.le_refl _, fun o ho => by simp at ho⟩, rfl⟩⟩
        case round =>
          clear HR2 HI2
          obtain ⟨jj, ids, st, hjj, hgj, rfl, HR, HL⟩ := hrel
          by_cases hlj : jj < Es.length
          · have hljz : (jj : Int) < (Es.length : Int) := by omega
            have hbw : Below w.heap.size w wr := by obtain ⟨_, _, _, _, _, _, _, _, hB⟩ := HR.out.1; exact hB
            obtain ⟨ad, e0, hx0, hx1, hx2, hx3⟩ := at_E (Kd.C_below HR1.out hbw) (jj : Int) (by omega) hljz
            cases e0
            simp only [Int.toNat_natCast] at hx0 hx1 hx2 hx3
            have HD : Aside0 (Es.drop jj = rd_E Es jj :: Es.drop (jj + 1)) := ⟨by rw [rd_E_nat Es jj hlj]; exact List.drop_eq_getElem_cons hlj⟩
            generalize rd_E Es jj = x at hx0 hx1 hx2 hx3 HD
            have HB0 := Aside0.mk (below_alloc (Below.refl _ wr) (.cells #[.int .i64 x.k, .int .i64 x.id, .int .i64 x.blk, .slice x.pg.A x.pg.b.length x.pg.c] 38))
            have HW := Aside0.mk (wrong_RS x (HR.out.1.below HB0.out) (HR.out.2.below HB0.out) (by have := HL.out.1.2.2.1; omega))
            have hfn := HL.out.1.1
            rw [hfn] at HW
            clear hfn
            go_wp2_with (fail)
            refine HW.out.mono ?_
            rintro e w2 ⟨rfl, hb2⟩
            have hrow := (hb2.block wr.heap.size (by rw [show (wr.alloc (.cells #[.int .i64 x.k, .int .i64 x.id, .int .i64 x.blk, .slice x.pg.A x.pg.b.length x.pg.c] 38)).heap.size = wr.heap.size + 1 from Array.size_push _]; omega)).trans (heap_alloc_new wr _)
            have HROW := Aside0.mk hrow
            have HLT := Aside0.mk HR.out.2.lt
            have hy0 := cell_of_row w2 _ 0 _ _ _ hrow
            have hy1 := cell_of_row w2 _ 1 _ _ _ hrow
            have hy2 := cell_of_row w2 _ 2 _ _ _ hrow
            have hy3 := cell_of_row w2 _ 3 _ _ _ hrow
            have HR3 := Aside0.mk ((HR.out.1.below HB0.out).below hb2)
            have HI3 := Aside0.mk ((HR.out.2.below HB0.out).below hb2)
            clear HW HR HB0 hb2 hrow hx0 hx1 hx2 hx3 hbw
            have HL2 := HL.out.2
            rw [HD.out, evs] at HL2
            by_cases hz : wrongF kk ids st.out x ≠ 0
            · rw [if_pos hz] at HL2
              have HA : Aside0 ((afterF Bs Es).1 = wrongF kk ids st.out x) := ⟨by unfold afterF; rw [HF.out, if_neg (by decide), ← HN.out, HL2]⟩
              have d0 : (wrongF kk ids st.out x != 0) = true := bne_iff_ne.mpr hz
              clear HL HD HL2 hy0 hy1 hy2 hy3
              have HZ := Aside0.mk hz
              clear hz
              generalize wrongF kk ids st.out x = er at HA HZ d0 ⊢
              go_wp2_with (fail)
              go_ret2
              refine ⟨by obtain ⟨_, _, _, _, _, _, _, _, hB⟩ := HR3.out; exact hB, .inl ⟨by rw [HA.out]; exact HZ.out, by rw [HA.out]; rfl⟩⟩
            · rw [if_neg hz] at HL2
              have hz0 : wrongF kk ids st.out x = 0 := by omega
              have HIV := Aside0.mk (Inv_step HL.out.1 hz0)
              have HAP := Aside0.mk (fun (W' : World) (h : RS w W' S st) => apply_RS x h HL.out.1 (by omega) hn0 hz0)
              have HZ := Aside0.mk (wrong_zero hz0)
              have HL3 := Aside0.mk HL2
              rw [hz0]
              clear HL HL2 hz hz0 HD
              by_cases k1 : x.k = 1
              · have d1 : (x.k == 1) = true := by simpa using k1
                rw [if_pos k1] at HL3
                have hnot : x.id ∉ ids := by
                  rcases HZ.out with ⟨_, _, _, h⟩ | ⟨h, _⟩ | h
                  · exact h
                  · rw [k1] at h; exact absurd h (by decide)
                  · rw [k1] at h; exact absurd h (by decide)
                obtain ⟨o, hrun, hmap⟩ := HI3.out.update x.id hnot
                have HR4 := Aside0.mk (HR3.out.offmap (o := o) HI3.out HM0.out)
                have HMM := Aside0.mk hmap
                have hrow3 : ({ w2 with heap := w2.heap.setIfInBounds M o } : World).heap[wr.heap.size]? = _ := (show (w2.heap.setIfInBounds M o)[wr.heap.size]? = w2.heap[wr.heap.size]? from Array.getElem?_setIfInBounds_ne (by have := HLT.out; omega)).trans HROW.out
                clear hmap HZ hnot k1
                generalize ({ w2 with heap := w2.heap.setIfInBounds M o } : World) = W3 at hrun HR4 HMM hrow3
                have hz0 := cell_of_row W3 _ 0 _ _ _ hrow3
                have hz1 := cell_of_row W3 _ 1 _ _ _ hrow3
                have hz2 := cell_of_row W3 _ 2 _ _ _ hrow3
                have hz3 := cell_of_row W3 _ 3 _ _ _ hrow3
                clear hrow3
                go_wp2_with (fail)
                refine (HAP.out _ HR4.out).mono ?_
                rintro e w4 ⟨rfl, h4, h5⟩
                have HE4 : Aside0 (RS w w4 S (applyS st x) ∧ IdMap w4 M (ids ++ [x.id])) := ⟨h4, HMM.out.km h5⟩
                clear h4 h5 HR3 HI3 HAP hy0 hy1 hy2 hy3 hz0 hz1 hz2 hz3 hrun HR4 HMM
                go_wp2_with (fail)
                go_roundg (Es.length - (jj + 1))
                case measure => omega
                case rel => exact ⟨jj + 1, ids ++ [x.id], applyS st x, by omega, by omega, by go_num, HE4, ⟨HIV.out, HL3.out⟩⟩
              · have d1 : (x.k == 1) = false := by simpa using k1
                rw [if_neg k1] at HL3
                clear HZ k1
                go_wp2_with (fail)
                refine (HAP.out _ HR3.out).mono ?_
                rintro e w4 ⟨rfl, h4, h5⟩
                have HE4 : Aside0 (RS w w4 S (applyS st x) ∧ IdMap w4 M ids) := ⟨h4, HI3.out.km h5⟩
                clear h4 h5 HR3 HI3 HAP hy0 hy1 hy2 hy3
                go_wp2_with (fail)
                go_roundg (Es.length - (jj + 1))
                case measure => omega
                case rel => exact ⟨jj + 1, ids, applyS st x, by omega, by omega, by go_num, HE4, ⟨HIV.out, HL3.out⟩⟩
          · have hljz : ¬ (jj : Int) < (Es.length : Int) := by omega
            have : jj = Es.length := by omega
            subst this
            have HA : Aside0 (afterF Bs Es = (0, st)) := ⟨by unfold afterF; rw [HF.out, if_neg (by decide), ← HN.out, HL.out.2, List.drop_length]; rfl⟩
            clear HL
            go_wp2_with (fail)
            go_ret2
            refine ⟨by obtain ⟨_, _, _, _, _, _, _, _, hB⟩ := HR.out.1; exact hB, .inr ⟨by rw [HA.out], S, rfl, by rw [HA.out]; exact HR.out.1⟩⟩

theorem list_pick {α : Type} (Q : Nat → α → Prop) : ∀ n, (∀ i, i < n → ∃ y, Q i y) → ∃ l : List α, l.length = n ∧ ∀ j y, l[j]? = some y → Q j y
  | 0, _ => ⟨[], rfl, fun j y h => by simp at h⟩
  | n + 1, h => by
    obtain ⟨l, hl, hq⟩ := list_pick Q n (fun i hi => h i (by omega))
    obtain ⟨y, hy⟩ := h n (by omega)
    refine ⟨l ++ [y], by simp [hl], fun j z hz => ?_⟩
    by_cases hj : j < l.length
    · rw [List.getElem?_append_left hj] at hz
      exact hq j z hz
    · have hlt := (List.getElem?_eq_some_iff.1 hz).1
      have : j = l.length := by simp at hlt; omega
      subst this
      simp at hz
      subst hz
      rw [hl]; exact hy
/-- The same cells, read in another way. -/
theorem C_as {α β : Type} {d : Kd α} {d' : Kd β} {w : World} {A : Option Addr} {n : Nat} {xs : List α} (f : β → α) (Q : β → Prop) (hs : d.sz = d'.sz) (hd : ∀ x cs, d.K w x cs → ∃ y, d'.K w y cs ∧ f y = x ∧ Q y) (h : Kd.C d w A n xs) :
    ∃ ys : List β, ys.map f = xs ∧ Kd.C d' w A n ys ∧ ∀ y ∈ ys, Q y := by
  obtain ⟨h1, h2, h3⟩ := h
  by_cases h0 : 0 < n
  · obtain ⟨ad, eA, h4⟩ := h3 h0
    clear h3
    obtain ⟨ys, hl, hq⟩ := list_pick (fun j (y : β) => (∃ x, xs[j]? = some x ∧ f y = x) ∧ Q y ∧ ∃ cs, cs.length = d'.sz ∧ d'.K w y cs ∧ ∀ i u, cs[i]? = some u → w.cell? (ad.add (j * d'.sz + i)) = some u) n (fun j hj => by
      obtain ⟨cs, c1, c2, c3⟩ := h4 j xs[j] (List.getElem?_eq_getElem (by omega))
      obtain ⟨y, y1, y2, y3⟩ := hd _ _ c2
      exact ⟨y, ⟨_, List.getElem?_eq_getElem (by omega), y2⟩, y3, cs, c1.trans hs, y1, by rw [← hs]; exact c3⟩)
    refine ⟨ys, ?_, ⟨hl, h2, fun _ => ⟨ad, eA, fun j p hp => (hq j p hp).2.2⟩⟩, fun y hy => ?_⟩
    · apply List.ext_getElem?
      intro j
      rw [List.getElem?_map]
      by_cases hj : j < n
      · have hy := List.getElem?_eq_getElem (l := ys) (i := j) (by omega)
        rw [hy]
        obtain ⟨⟨x, x1, x2⟩, _⟩ := hq j _ hy
        rw [x1, ← x2]; rfl
      · rw [List.getElem?_eq_none (by omega), List.getElem?_eq_none (by omega)]; rfl
    · obtain ⟨j, hj⟩ := List.getElem?_of_mem hy
      exact (hq j y hj).2.1
  · have : n = 0 := by omega
    subst this
    have : xs = [] := List.length_eq_zero_iff.1 h1
    subst this
    exact ⟨[], rfl, ⟨rfl, h2, fun h => absurd h (by omega)⟩, fun y hy => by cases hy⟩
/-- A content's own bytes are what it says. -/
def Pok (w : World) (p : Pg) : Prop := p.b.length ≤ p.c ∧ (Kd.int .u8).C w p.A p.b.length p.b
theorem openB {w : World} {A : Option Addr} {n : Nat} {l : List (List Int)} (h : Kd.C (Kd.slice 5 (Kd.int .u8)) w A n l) : ∃ Bs : List Pg, Bs.map Pg.b = l ∧ Kd.C kP w A n Bs ∧ ∀ p ∈ Bs, Pok w p := by
  refine C_as Pg.b (Pok w) rfl (fun x cs hK => ?_) h
  obtain ⟨A, c, rfl, hl, hc⟩ := hK
  exact ⟨⟨A, c, x⟩, rfl, rfl, hl, hc⟩
def Evt.s (x : Evt) : S38 := ⟨x.k, x.id, x.blk, x.pg.b⟩
theorem openE {w : World} {A : Option Addr} {n : Nat} {l : List S38} (h : Kd.C k38 w A n l) : ∃ Es : List Evt, Es.map Evt.s = l ∧ Kd.C kE w A n Es ∧ ∀ x ∈ Es, Pok w x.pg := by
  refine C_as Evt.s (fun x => Pok w x.pg) rfl (fun x cs hK => ?_) h
  obtain ⟨A, c, rfl, hl, hc⟩ := k38_open hK
  exact ⟨⟨x.f0, x.f1, x.f2, ⟨A, c, x.f3⟩⟩, ⟨[.int .i64 x.f0], [.int .i64 x.f1, .int .i64 x.f2, .slice A x.f3.length c], rfl, rfl, ⟨[.int .i64 x.f1], [.int .i64 x.f2, .slice A x.f3.length c], rfl, rfl, ⟨[.int .i64 x.f2], [.slice A x.f3.length c], rfl, rfl, rfl⟩⟩⟩, rfl, hl, hc⟩
theorem Pok.below {w w1 : World} {p : Pg} (h : Pok w p) (hb : Below w.heap.size w w1) : Pok w1 p := ⟨h.1, Kd.C_below h.2 hb⟩
theorem Pok.some {w : World} {p : Pg} (h : Pok w p) (hp : p.b ≠ []) : p.A.isSome = true := by
  have hl : 0 < p.b.length := List.length_pos_iff.2 hp
  obtain ⟨ad, e, _⟩ := Kd.at_int h.2 0 (by omega) (by omega)
  rw [e]; rfl

/-! The contents of the state, as lists of bytes. -/
structure OuL where
  id : Int
  blk : Int
  b : List Int
structure StL where
  firm : List (List Int)
  cache : List (List Int)
  out : List OuL
def Ou.l (o : Ou) : OuL := ⟨o.id, o.blk, o.pg.b⟩
def St.l (st : St) : StL := ⟨st.firm.map Pg.b, st.cache.map Pg.b, st.out.map Ou.l⟩
def idFromL (id : Int) : List OuL → Int → Int
  | [], _ => -1
  | x :: l, k => if x.id == id then k else idFromL id l (k + 1)
def idAtL (id : Int) (l : List OuL) : Int := idFromL id l 0
theorem idFromL_map (id : Int) : ∀ (l : List Ou) (k : Int), idFromL id (l.map Ou.l) k = idFrom id l k
  | [], k => rfl
  | x :: l, k => by simp only [List.map_cons, idFromL, idFrom, idFromL_map id l]; rfl
def wrongL (n : Nat) (ids : List Int) (out : List OuL) (x : S38) : Int :=
  if x.f0 = 1 then (if x.f2 < 0 ∨ (n : Int) ≤ x.f2 then 2 else if (x.f3.length : Int) ≠ 32 then 3 else if x.f1 ∈ ids then 7 else 0)
  else if x.f0 = 2 then (if x.f2 ≠ 0 ∨ (x.f3.length : Int) ≠ 0 then 1 else if idAtL x.f1 out < 0 then 6 else 0)
  else if x.f0 = 3 then (if x.f1 ≠ 0 ∨ x.f2 ≠ 0 ∨ (x.f3.length : Int) ≠ 0 then 1 else 0)
  else 1
theorem wrongL_map (n : Nat) (ids : List Int) (out : List Ou) (x : Evt) : wrongL n ids (out.map Ou.l) x.s = wrongF n ids out x := by
  unfold wrongL wrongF idAtL idAt
  rw [idFromL_map]; rfl
/-- A flush. -/
def flL (st : StL) : StL := ⟨List.zipWith (fun c f => if c = [] then f else c) st.cache st.firm, st.cache.map (fun _ => []), st.out⟩
def zOL : OuL := ⟨0, 0, []⟩
def rd_OL (xs : List OuL) (i : Int) : OuL := xs.getD i.toNat zOL
def applyL (st : StL) (x : S38) : StL :=
  if x.f0 = 1 then ⟨st.firm, st.cache, st.out ++ [⟨x.f1, x.f2, x.f3⟩]⟩
  else if x.f0 = 2 then ⟨st.firm, st.cache.set (rd_OL st.out (idAtL x.f1 st.out)).blk.toNat (rd_OL st.out (idAtL x.f1 st.out)).b, st.out.eraseIdx (idAtL x.f1 st.out).toNat⟩
  else flL st
def evsL (n : Nat) : List S38 → List Int → StL → Int × StL
  | [], _, st => (0, st)
  | x :: l, ids, st => if wrongL n ids st.out x ≠ 0 then (wrongL n ids st.out x, st) else evsL n l (if x.f0 = 1 then ids ++ [x.f1] else ids) (applyL st x)
def badL (b : List Int) : Bool := (b.length : Int) != 32
def afterL (l0 : List (List Int)) (l1 : List S38) : Int × StL := if l0.any badL = true then (3, ⟨[], [], []⟩) else evsL l0.length l1 [] ⟨l0, List.replicate l0.length [], []⟩
/-- What is cached is nil exactly when it is empty. -/
def Nil (p : Pg) : Prop := p.A.isSome = !(p.b.isEmpty)
theorem rd_OL_map (l : List Ou) (i : Int) : rd_OL (l.map Ou.l) i = (rd_O l i).l := by
  unfold rd_OL rd_O
  rw [List.getD_eq_getElem?_getD, List.getD_eq_getElem?_getD, List.getElem?_map]
  cases l[i.toNat]? <;> rfl
theorem rd_P_set_ne (l : List Pg) (i j : Nat) (p : Pg) (h : j ≠ i) : rd_P (l.set i p) j = rd_P l j := by
  unfold rd_P
  rw [List.getD_eq_getElem?_getD, List.getD_eq_getElem?_getD, Int.toNat_natCast, List.getElem?_set_ne (Ne.symm h)]
theorem flN_get (n : Nat) : ∀ (d i : Nat) (st : St), st.firm.length = n → st.cache.length = n → i + d ≤ n →
    (∀ j : Nat, (flN d i st).firm[j]? = if i ≤ j ∧ j < i + d ∧ (rd_P st.cache j).A.isSome = true then some (rd_P st.cache j) else st.firm[j]?) ∧
    (∀ j : Nat, (flN d i st).cache[j]? = if i ≤ j ∧ j < i + d ∧ (rd_P st.cache j).A.isSome = true then some zP else st.cache[j]?)
  | 0, i, st, h1, h2, h3 => ⟨fun j => by rw [if_neg (by omega)]; rfl, fun j => by rw [if_neg (by omega)]; rfl⟩
  | d + 1, i, st, h1, h2, h3 => by
    have hl := flS_len st i
    obtain ⟨a, b⟩ := flN_get n d (i + 1) (flS st i) (hl.1.trans h1) (hl.2.trans h2) (by omega)
    rw [flN]
    by_cases c : (rd_P st.cache i).A.isSome = true
    · have e : flS st i = ⟨st.firm.set i (rd_P st.cache i), st.cache.set i zP, st.out⟩ := by unfold flS; rw [if_pos c]
      rw [e] at a b ⊢
      constructor
      · intro j
        rw [a j]
        by_cases hj : j = i
        · subst hj
          rw [if_neg (by omega), if_pos ⟨Nat.le_refl _, by omega, c⟩]
          exact List.getElem?_set_self (by omega)
        · rw [rd_P_set_ne _ _ _ _ hj, List.getElem?_set_ne (Ne.symm hj)]
          by_cases q : i + 1 ≤ j ∧ j < i + 1 + d ∧ (rd_P st.cache j).A.isSome = true
          · rw [if_pos q, if_pos ⟨by omega, by omega, q.2.2⟩]
          · rw [if_neg q, if_neg (fun h => q ⟨by omega, by omega, h.2.2⟩)]
      · intro j
        rw [b j]
        by_cases hj : j = i
        · subst hj
          rw [if_neg (by omega), if_pos ⟨Nat.le_refl _, by omega, c⟩]
          exact List.getElem?_set_self (by omega)
        · rw [rd_P_set_ne _ _ _ _ hj, List.getElem?_set_ne (Ne.symm hj)]
          by_cases q : i + 1 ≤ j ∧ j < i + 1 + d ∧ (rd_P st.cache j).A.isSome = true
          · rw [if_pos q, if_pos ⟨by omega, by omega, q.2.2⟩]
          · rw [if_neg q, if_neg (fun h => q ⟨by omega, by omega, h.2.2⟩)]
    · have e : flS st i = st := by unfold flS; rw [if_neg c]
      rw [e] at a b ⊢
      have key : ∀ j : Nat, (i + 1 ≤ j ∧ j < i + 1 + d ∧ (rd_P st.cache j).A.isSome = true) ↔ (i ≤ j ∧ j < i + (d + 1) ∧ (rd_P st.cache j).A.isSome = true) := by
        intro j
        constructor
        · rintro ⟨x, y, z⟩; exact ⟨by omega, by omega, z⟩
        · rintro ⟨x, y, z⟩
          have : j ≠ i := by rintro rfl; exact c z
          exact ⟨by omega, by omega, z⟩
      exact ⟨fun j => by rw [a j]; simp only [key j], fun j => by rw [b j]; simp only [key j]⟩
theorem flN_l (n : Nat) (st : St) (h1 : st.firm.length = n) (h2 : st.cache.length = n) (hN : ∀ p ∈ st.cache, Nil p) : (flN n 0 st).l = flL st.l ∧ ∀ p ∈ (flN n 0 st).cache, Nil p := by
  obtain ⟨a, b⟩ := flN_get n n 0 st h1 h2 (by omega)
  have hl := flN_len n 0 st
  have key : ∀ j : Nat, j < n → ((rd_P st.cache j).A.isSome = true ↔ ¬ (rd_P st.cache j).b = []) := by
    intro j hj
    have hm : rd_P st.cache j ∈ st.cache := by rw [rd_P_nat st.cache j (by omega)]; exact List.getElem_mem _
    have := hN _ hm
    unfold Nil at this
    rw [this]; simp
  constructor
  · have e1 : (flN n 0 st).firm.map Pg.b = List.zipWith (fun c f => if c = [] then f else c) (st.cache.map Pg.b) (st.firm.map Pg.b) := by
      apply List.ext_getElem?
      intro j
      rw [List.getElem?_map, a j, List.getElem?_zipWith]
      by_cases hj : j < n
      · have hc : st.cache[j]? = some (rd_P st.cache j) := by rw [rd_P_nat st.cache j (by omega)]; exact List.getElem?_eq_getElem (by omega)
        have hf : st.firm[j]? = some (rd_P st.firm j) := by rw [rd_P_nat st.firm j (by omega)]; exact List.getElem?_eq_getElem (by omega)
        rw [List.getElem?_map, List.getElem?_map, hc, hf]
        by_cases q : (rd_P st.cache j).b = []
        · rw [if_neg (fun h => (key j hj).1 h.2.2 q)]; simp [q]
        · rw [if_pos ⟨by omega, by omega, (key j hj).2 q⟩]; simp [q]
      · rw [if_neg (by omega), List.getElem?_eq_none (by omega), List.getElem?_map, List.getElem?_eq_none (show st.cache.length ≤ j by omega)]; rfl
    have e2 : (flN n 0 st).cache.map Pg.b = (st.cache.map Pg.b).map (fun _ => []) := by
      apply List.ext_getElem?
      intro j
      rw [List.getElem?_map, b j, List.getElem?_map, List.getElem?_map]
      by_cases hj : j < n
      · have hc : st.cache[j]? = some (rd_P st.cache j) := by rw [rd_P_nat st.cache j (by omega)]; exact List.getElem?_eq_getElem (by omega)
        rw [hc]
        by_cases q : (rd_P st.cache j).b = []
        · rw [if_neg (fun h => (key j hj).1 h.2.2 q)]; simp [q]
        · rw [if_pos ⟨by omega, by omega, (key j hj).2 q⟩]; rfl
      · rw [if_neg (by omega), List.getElem?_eq_none (by omega)]; rfl
    unfold St.l flL
    rw [e1, e2, hl.2.2]
  · intro p hp
    obtain ⟨j, hj⟩ := List.getElem?_of_mem hp
    rw [b j] at hj
    split at hj
    · injection hj with hj; rw [← hj]; rfl
    · exact hN p (List.mem_of_getElem? hj)
theorem map_erase {α β : Type} (f : α → β) : ∀ (l : List α) (i : Nat), (l.eraseIdx i).map f = (l.map f).eraseIdx i
  | [], i => rfl
  | x :: l, 0 => rfl
  | x :: l, i + 1 => by simp only [List.eraseIdx_cons_succ, List.map_cons, map_erase f l i]
def Good (n j : Nat) (st : St) : Prop := Inv n j st ∧ (∀ p ∈ st.cache, Nil p) ∧ ∀ o ∈ st.out, Nil o.pg
theorem nil_of {w : World} {p : Pg} (h : Pok w p) (hl : (p.b.length : Int) = 32) : Nil p := by
  have hb : p.b ≠ [] := by intro e; rw [e] at hl; exact absurd hl (by decide)
  unfold Nil
  rw [h.some hb]
  cases hp : p.b with
  | nil => exact absurd hp hb
  | cons x l => rfl
theorem wrong_len {n : Nat} {ids : List Int} {out : List Ou} {x : Evt} (h : wrongF n ids out x = 0) (k : x.k = 1) : (x.pg.b.length : Int) = 32 := by
  unfold wrongF at h
  rw [if_pos k] at h
  split at h
  · exact absurd h (by decide)
  · split at h
    · exact absurd h (by decide)
    · omega
theorem apply_l {n j : Nat} {w : World} {st : St} {ids : List Int} {x : Evt} (hG : Good n j st) (hp : Pok w x.pg) (hz : wrongF n ids st.out x = 0) : Good n (j + 1) (applyS st x) ∧ (applyS st x).l = applyL st.l x.s := by
  obtain ⟨hI, hC, hO⟩ := hG
  have hI2 := Inv_step hI hz
  obtain ⟨i1, i2, i3, i4⟩ := hI
  rcases wrong_zero hz with ⟨k, k1, k2, _⟩ | ⟨k, k1⟩ | k
  · have hn := nil_of hp (wrong_len hz k)
    unfold applyS at hI2 ⊢; rw [if_pos k] at hI2 ⊢
    refine ⟨⟨hI2, hC, fun o ho => ?_⟩, ?_⟩
    · rcases List.mem_append.1 ho with ho | ho
      · exact hO o ho
      · rw [List.mem_singleton.1 ho]; exact hn
    · unfold applyL; rw [if_pos (show x.s.f0 = 1 from k)]
      simp [St.l, Ou.l, Evt.s]
  · have hm := rd_O_mem k1 (idAt_lt k1)
    unfold applyS at hI2 ⊢; rw [if_neg (by rw [k]; decide), if_pos k] at hI2 ⊢
    refine ⟨⟨hI2, fun p hp => ?_, fun o ho => hO o (List.mem_of_mem_eraseIdx ho)⟩, ?_⟩
    · rcases List.mem_or_eq_of_mem_set hp with hp | rfl
      · exact hC p hp
      · exact hO _ hm
    · unfold applyL; rw [if_neg (show ¬ x.s.f0 = 1 from by show ¬ x.k = 1; rw [k]; decide), if_pos (show x.s.f0 = 2 from k)]
      have e : idAtL x.s.f1 st.l.out = idAt x.id st.out := idFromL_map x.id st.out 0
      rw [e]
      unfold St.l
      rw [rd_OL_map, List.map_set, map_erase]; rfl
  · unfold applyS at hI2 ⊢; rw [if_neg (by rw [k]; decide), if_neg (by rw [k]; decide)] at hI2 ⊢
    obtain ⟨f1, f2⟩ := flN_l n st i1 i2 hC
    rw [i2] at hI2 ⊢
    refine ⟨⟨hI2, f2, by rw [(flN_len n 0 st).2.2]; exact hO⟩, ?_⟩
    rw [f1]
    unfold applyL; rw [if_neg (show ¬ x.s.f0 = 1 from by show ¬ x.k = 1; rw [k]; decide), if_neg (show ¬ x.s.f0 = 2 from by show ¬ x.k = 2; rw [k]; decide)]
theorem evs_l (n : Nat) (w : World) : ∀ (Es : List Evt) (ids : List Int) (j : Nat) (st : St), (∀ x ∈ Es, Pok w x.pg) → Good n j st →
    (evs n Es ids st).1 = (evsL n (Es.map Evt.s) ids st.l).1 ∧ (evs n Es ids st).2.l = (evsL n (Es.map Evt.s) ids st.l).2 ∧ Good n (j + Es.length) (evs n Es ids st).2
  | [], ids, j, st, hp, hG => ⟨rfl, rfl, hG⟩
  | x :: l, ids, j, st, hp, hG => by
    rw [List.map_cons, evs, evsL]
    have ew : wrongL n ids st.l.out x.s = wrongF n ids st.out x := wrongL_map n ids st.out x
    rw [ew]
    by_cases hz : wrongF n ids st.out x ≠ 0
    · rw [if_pos hz, if_pos hz]
      refine ⟨rfl, rfl, ?_⟩
      obtain ⟨⟨i1, i2, i3, i4⟩, g2⟩ := hG
      exact ⟨⟨i1, i2, by simp; omega, i4⟩, g2⟩
    · rw [if_neg hz, if_neg hz]
      obtain ⟨a1, a2⟩ := apply_l hG (hp x (by simp)) (by omega : wrongF n ids st.out x = 0)
      rw [← a2]
      have := evs_l n w l (if x.k = 1 then ids ++ [x.id] else ids) (j + 1) (applyS st x) (fun y hy => hp y (by simp [hy])) a1
      rw [List.length_cons, show j + (l.length + 1) = j + 1 + l.length from by omega]
      exact this
theorem any_map_bad (Bs : List Pg) : (Bs.map Pg.b).any badL = Bs.any badP := by
  rw [List.any_map]; rfl
theorem after_l (w : World) (Bs : List Pg) (Es : List Evt) (hp : ∀ x ∈ Es, Pok w x.pg) : (afterF Bs Es).1 = (afterL (Bs.map Pg.b) (Es.map Evt.s)).1 ∧ ((afterF Bs Es).1 = 0 → (afterF Bs Es).2.l = (afterL (Bs.map Pg.b) (Es.map Evt.s)).2 ∧ Good Bs.length Es.length (afterF Bs Es).2) := by
  unfold afterF afterL
  rw [any_map_bad]
  by_cases h : Bs.any badP = true
  · rw [if_pos h, if_pos h]; exact ⟨rfl, fun h => absurd h (by decide)⟩
  · rw [if_neg h, if_neg h, List.length_map]
    have hG : Good Bs.length 0 ⟨Bs, List.replicate Bs.length zP, []⟩ := ⟨⟨rfl, List.length_replicate .., Nat.le_refl _, fun o ho => by simp at ho⟩, fun p hp => by rw [List.eq_of_mem_replicate hp]; rfl, fun o ho => by simp at ho⟩
    obtain ⟨a, b, c⟩ := evs_l Bs.length w Es [] 0 _ hp hG
    have e : (St.l ⟨Bs, List.replicate Bs.length zP, []⟩) = ⟨Bs.map Pg.b, List.replicate Bs.length [], []⟩ := by unfold St.l; simp [zP]
    rw [e] at a b
    rw [Nat.zero_add] at c
    exact ⟨a, fun _ => ⟨b, c⟩⟩

def PokSt (w : World) (st : St) : Prop := (∀ p ∈ st.firm, Pok w p) ∧ (∀ p ∈ st.cache, Pok w p) ∧ ∀ o ∈ st.out, Pok w o.pg
theorem pok_zP (w : World) : Pok w zP := ⟨Nat.le_refl _, rfl, by simp [zP], fun h => absurd h (by simp [zP])⟩
theorem rd_P_pok {w : World} {l : List Pg} (h : ∀ p ∈ l, Pok w p) (i : Int) : Pok w (rd_P l i) := by
  unfold rd_P
  rw [List.getD_eq_getElem?_getD]
  cases e : l[i.toNat]? with
  | none => exact pok_zP w
  | some p => exact h p (List.mem_of_getElem? e)
theorem rd_O_pok {w : World} {l : List Ou} (h : ∀ o ∈ l, Pok w o.pg) (i : Int) : Pok w (rd_O l i).pg := by
  unfold rd_O
  rw [List.getD_eq_getElem?_getD]
  cases e : l[i.toNat]? with
  | none => exact pok_zP w
  | some p => exact h p (List.mem_of_getElem? e)
theorem mem_set_pok {w : World} {l : List Pg} (h : ∀ p ∈ l, Pok w p) (i : Nat) {q : Pg} (hq : Pok w q) : ∀ p ∈ l.set i q, Pok w p := by
  intro p hp
  rcases List.mem_or_eq_of_mem_set hp with hp | rfl
  · exact h p hp
  · exact hq
theorem flN_pok {w : World} : ∀ (d i : Nat) (st : St), PokSt w st → PokSt w (flN d i st)
  | 0, i, st, h => h
  | d + 1, i, st, h => by
    refine flN_pok d (i + 1) _ ?_
    unfold flS
    split
    · exact ⟨mem_set_pok h.1 i (rd_P_pok h.2.1 i), mem_set_pok h.2.1 i (pok_zP w), h.2.2⟩
    · exact h
theorem apply_pok {w : World} {st : St} {x : Evt} (h : PokSt w st) (hx : Pok w x.pg) : PokSt w (applyS st x) := by
  unfold applyS
  split
  · refine ⟨h.1, h.2.1, fun o ho => ?_⟩
    rcases List.mem_append.1 ho with ho | ho
    · exact h.2.2 o ho
    · rw [List.mem_singleton.1 ho]; exact hx
  · split
    · exact ⟨h.1, mem_set_pok h.2.1 _ (rd_O_pok h.2.2 _), fun o ho => h.2.2 o (List.mem_of_mem_eraseIdx ho)⟩
    · exact flN_pok _ _ _ h
theorem evs_pok {w : World} (n : Nat) : ∀ (Es : List Evt) (ids : List Int) (st : St), (∀ x ∈ Es, Pok w x.pg) → PokSt w st → PokSt w (evs n Es ids st).2
  | [], ids, st, hp, h => h
  | x :: l, ids, st, hp, h => by
    rw [evs]
    split
    · exact h
    · exact evs_pok n l _ _ (fun y hy => hp y (by simp [hy])) (apply_pok h (hp x (by simp)))
theorem after_pok {w : World} {Bs : List Pg} {Es : List Evt} (hB : ∀ p ∈ Bs, Pok w p) (hp : ∀ x ∈ Es, Pok w x.pg) : PokSt w (afterF Bs Es).2 := by
  unfold afterF
  split
  · simp [PokSt]
  · exact evs_pok _ _ _ _ hp ⟨hB, fun p hp => by rw [List.eq_of_mem_replicate hp]; exact pok_zP w, fun o ho => by simp at ho⟩
/-- What after hands back, of the lists that the arguments read as. -/
theorem after_ev (A0 : Option Addr) (c0 : Nat) (l0 : List (List Int)) (A1 : Option Addr) (c1 : Nat) (l1 : List S38) (w : World) (hr0 : Kd.C (Kd.slice 5 (Kd.int .u8)) w A0 l0.length l0) (hr1 : Kd.C k38 w A1 l1.length l1) (hn0 : l0.length ≤ 1000000) (hn1 : l1.length ≤ 1000000) :
    Calls Try.prog 32 #[.slice A0 l0.length c0, .slice A1 l1.length c1] w fun e w' => Below w.heap.size w w' ∧ (((afterL l0 l1).1 ≠ 0 ∧ e = .returned (.tuple #[.pointer none, .int .i64 (afterL l0 l1).1])) ∨
      ((afterL l0 l1).1 = 0 ∧ ∃ S st, e = .returned (.tuple #[.pointer (some ⟨S, 0, none⟩), .int .i64 0]) ∧ RS w w' S st ∧ st.l = (afterL l0 l1).2 ∧ Good l0.length l1.length st ∧ PokSt w st)) := by
  obtain ⟨Bs, eB, hB, pB⟩ := openB hr0
  obtain ⟨Es, eE, hE, pE⟩ := openE hr1
  have lB : Bs.length = l0.length := by rw [← eB, List.length_map]
  have lE : Es.length = l1.length := by rw [← eE, List.length_map]
  have hL := after_l w Bs Es pE
  rw [eB, eE] at hL
  rw [← lB] at hB hn0 ⊢
  rw [← lE] at hE hn1 ⊢
  refine (after_calls A0 c0 Bs A1 c1 Es w hB hE hn0 hn1).mono ?_
  rintro e w' ⟨hb, h⟩
  refine ⟨hb, ?_⟩
  rw [hL.1] at h
  rcases h with ⟨h1, h2⟩ | ⟨h1, S, h2, h3⟩
  · exact .inl ⟨h1, h2⟩
  · have h4 := hL.2 (hL.1.trans h1)
    exact .inr ⟨h1, S, _, h2, h3, h4.1, h4.2, after_pok pB pE⟩

def durable_Check.f (l0 : List (List Int)) (l1 : List S38) : Option Int := if l0.length ≤ 1000000 ∧ l1.length ≤ 1000000 then some (afterL l0 l1).1 else none
theorem durable_Check.calls (A0 : Option Addr) (c0 : Nat) (l0 : List (List Int)) (A1 : Option Addr) (c1 : Nat) (l1 : List S38) (r : Int) (w : World) (hr0 : Kd.C (Kd.slice 5 (Kd.int .u8)) w A0 l0.length l0) (hc0 : l0.length ≤ c0) (hr1 : Kd.C k38 w A1 l1.length l1) (hc1 : l1.length ≤ c1) (h : durable_Check.f l0 l1 = some r) :
    Calls Try.prog 14 #[.slice A0 l0.length c0, .slice A1 l1.length c1] w fun e w' => e = .returned (.int .i64 r) ∧ Below w.heap.size w w' := by
  unfold durable_Check.f at h
  split at h
  · rename_i hn
    have HA := Aside0.mk (after_ev A0 c0 l0 A1 c1 l1 w hr0 hr1 hn.1 hn.2)
    injection h with h
    clear hr0 hr1 hc0 hc1
    rw [h] at HA
    clear h
    go_enter Try.func14, Try.ntmps14
    go_wp2_with (fail)
    refine HA.out.mono ?_
    rintro e w' ⟨hb, ⟨h1, rfl⟩ | ⟨h1, S, st, rfl, _⟩⟩
    · clear HA h1
      go_wp2
      go_ret
      exact ⟨rfl, hb⟩
    · subst h1
      clear HA
      go_wp2
      go_ret
      exact ⟨rfl, hb⟩
  · cases h

set_option maxHeartbeats 1000000 in
theorem bytesClone_calls (p : Pg) (w : World) (hp : Pok w p) (hn : p.b.length ≤ 1000000000) :
    Calls Try.prog 52 #[p.v] w fun e w' => ∃ v0_ : Value, e = .returned v0_ ∧ (Kd.int .u8).R 5 w' w.heap.size (fun _ => True) v0_ p.b ∧ Below w.heap.size w w' := by
  obtain ⟨A0, c0, l0⟩ := p
  have hr0 := hp.2
  clear hp
  simp only [Pg.v] at hr0 hn ⊢
  have q36' : ∀ (w : World) (a : Option Addr) (n c n' c' : Nat), (binOp .eql 36 (.slice a n c) (.slice none n' c')).run Try.prog w = .ok (.bool a.isNone) w := fun w a n c n' c' => Lib.run_eql_slice_nil w _ _ a n c n' c' Try.underlying36
  cases A0 with
  | none =>
    have h0 : l0 = [] := by
      cases l0 with
      | nil => rfl
      | cons x l => obtain ⟨ad, e, _⟩ := Kd.at_int hr0 0 (by omega) (by simp); cases e
    subst h0
    clear hr0
    go_enter Try.func52, Try.ntmps52
    go_wp2
    go_ret
    exact ⟨_, rfl, Kd.R_nil _ _ _ _ _, Below.refl _ _⟩
  | some ad =>
    have HR0 := Aside0.mk hr0
    have HN0 := Aside0.mk hn
    clear hr0 hn
    have HB := Aside0.mk (Below.refl w.heap.size w)
    go_enter Try.func52, Try.ntmps52
    go_wp2_with (first | ((with_reducible refine gate_dst (N := 5) rfl ?_); refine Kd.R_lit (Kd.int .u8) _ 5 ?hg (N := 5) ?hd (xs := ([] : List Int)) (inner := []) (ok := fun _ => True) (okp := fun _ => True) ?hr ?hp (fun _ hk => hk) trivial (Below.refl _ _) (Nat.le_refl _) (by simp) ?_; (case hd => rfl); (case hg => rfl); (case hr => first | (go_simp; done) | (go_simp; rfl)); (case hp => exact (Reps.none _ _)); intro v206 w3 ho4 hb hg_ hnew_; clear hg_ hnew_; have n0_ := Aside0.mk (Kd.R_lower ho4 (below_size HB.out)); have n1_ := Aside0.mk (below_step HB.out hb); clear HB; have HO207 := n0_; have HB := n1_; clear n0_ n1_; clear hb ho4) | ((with_reducible refine gate_builtin (b := .append) (xs := #[.tmp 5, .tmp 6]) rfl ?_); at_builtin; refine Kd.R_append_rows (Kd.int .u8) (w0 := w) w.heap.size rfl (.tmp 5) (.tmp 6) 36 5 (.int .u8 0) 1 rfl Try.underlying36 info5 rfl (by decide) (by omega) v206 [] l0 _ _ _ (fun _ => True) (fun _ => False) rfl rfl ?aO ?aR (fun _ _ h => h) (fun _ h => h.elim) ?aF ?aB ?aS ?aL ?_; (case aR => exact (Kd.C_below HR0.out HB.out)); (case aB => exact HB.out); (case aF => exact (fun _ _ => trivial)); (case aO => exact HO207.out); (case aS => exact (below_size HB.out)); (case aL => have := HN0.out; simp; omega); intro v209 w5 ho hb hg hat; have n0_ := Aside0.mk (hb); have n1_ := Aside0.mk (ho); clear HB; clear HO207; have HB := n0_; have HO210 := n1_; clear n0_ n1_; clear ho hb hg hat))
    go_ret
    exact ⟨_, rfl, by have := HO210.out; simpa using this, HB.out⟩
def bytes_Clone.f (l : List Int) : Option (List Int) := if l.length ≤ 1000000000 then some l else none
theorem bytes_Clone.calls (A0 : Option Addr) (c0 : Nat) (l0 : List Int) (r : List Int) (w : World) (hr0 : Kd.C (Kd.int .u8) w A0 l0.length l0) (hc0 : l0.length ≤ c0) (h : bytes_Clone.f l0 = some r) :
    Calls Try.prog 52 #[.slice A0 l0.length c0] w fun e w' => ∃ v0_ : Value, e = .returned v0_ ∧ (Kd.int .u8).R 5 w' w.heap.size (fun _ => True) v0_ r ∧ Below w.heap.size w w' := by
  unfold bytes_Clone.f at h
  split at h
  · injection h with h
    subst h
    exact bytesClone_calls ⟨A0, c0, l0⟩ w ⟨hc0, hr0⟩ (by assumption)
  · cases h
end Go.Proofs.Ytghmkmpgfpkfmaa.X
