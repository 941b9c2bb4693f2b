/- The walks of package durable: Latest, Durable, Choices, Ordered, Images. -/
import Derived.Test.YtghmkmpgfpkfmaaD1
import Derived.Test.YtghmkmpgfpkfmaaX19
namespace Go.Proofs.Ytghmkmpgfpkfmaa.X
open Go.RowKit Go.Proofs.YtghmkmpgfpkfmaaW.PrintWords Go.Proofs.YtghmkmpgfpkfmaaW.PrintLast Go.Proofs.YtghmkmpgfpkfmaaW.PrintMore
set_option linter.unusedVariables false
set_option linter.unusedSimpArgs false

theorem Ev.pos {α : Type} {c : Prop} [Decidable c] {f g : Nat → Option α} {r : α} (h : c) (k : Ev f r) : Ev (fun n => if c then f n else g n) r := Ev.congr (fun n => by rw [if_pos h]) k
theorem Ev.neg {α : Type} {c : Prop} [Decidable c] {f g : Nat → Option α} {r : α} (h : ¬ c) (k : Ev g r) : Ev (fun n => if c then f n else g n) r := Ev.congr (fun n => by rw [if_neg h]) k
theorem Ev.had {α β : Type} {a : Option α} {x : α} {f : Nat → α → Option β} {r : β} (h : a = some x) (k : Ev (fun n => f n x) r) : Ev (fun n => a.bind (f n)) r := Ev.congr (fun n => by rw [h, Option.bind_some]) k
theorem wrap_nat (i : Nat) (h : i ≤ 1000000000) : wrap64 ((i : Int) + 1) = ((i + 1 : Nat) : Int) := by unfold wrap64; omega
theorem wrap_id (x : Int) (h0 : -1000000000000 ≤ x) (h1 : x ≤ 1000000000000) : wrap64 x = x := by unfold wrap64; omega
theorem rd_L1_nat (l : List (List Int)) (i : Nat) (h : i < l.length) : rd_L1 l i = l[i] := by unfold rd_L1; simp [List.getD_eq_getElem?_getD, h]

/-- The latest content of a block. -/
def latS (st : St) (i : Int) : Pg := if (rd_P st.cache i).A.isSome then rd_P st.cache i else rd_P st.firm i
set_option maxHeartbeats 1000000 in
theorem latest_calls (w0 : World) (S : Nat) (st : St) (i : Int) (w : World) (hs : RS w0 w S st) (h0 : 0 ≤ i) (h1 : i < st.cache.length) (h2 : st.firm.length = st.cache.length) :
    Calls Try.prog 41 #[.pointer (some ⟨S, 0, none⟩), .int .i64 i] w fun e w' => e = .returned (latS st i).v ∧ Below w.heap.size w w' := by
  obtain ⟨vF, vC, vO, hS, hS0, hF, hC, hO, hB⟩ := hs
  obtain ⟨AF, cF, eF⟩ := Kd.R_slice hF
  obtain ⟨AC, cC, eC⟩ := Kd.R_slice hC
  subst eF
  subst eC
  obtain ⟨ad, e0, hx⟩ := at_P (Kd.R_reads' hC).2.2 i h0 h1
  cases e0
  obtain ⟨ad2, e0, hy⟩ := at_P (Kd.R_reads' hF).2.2 i h0 (by omega)
  cases e0
  have hc0 := cell_of_row w S 0 _ _ _ hS
  have hc1 := cell_of_row w S 1 _ _ _ hS
  have hi2 : i < (st.firm.length : Int) := by omega
  have HQ := q36
  unfold latS
  clear hS hS0 hF hC hO hB
  generalize rd_P st.cache i = p at *
  generalize rd_P st.firm i = q at *
  obtain ⟨pA, pc, pb⟩ := p
  obtain ⟨qA, qc, qb⟩ := q
  simp only at hx hy
  cases pA with
  | none =>
    go_enter Try.func41, Try.ntmps41
    go_wp2_with (fail)
    go_ret
    exact ⟨rfl, Below.refl _ _⟩
  | some pa =>
    go_enter Try.func41, Try.ntmps41
    go_wp2_with (fail)
    go_ret
    exact ⟨rfl, Below.refl _ _⟩

theorem copies_l0 (l : List (List Int)) (hl : l.length ≤ 1000000) (hb : ∀ b ∈ l, b.length ≤ 1000000000) : ∀ (d i : Nat) (out : List (List Int)), l.length - i = d → i ≤ l.length → out = l.take i → Ev (fun k => durable_copies.l0 k out l (l.length : Int) i) l
  | 0, i, out, h0, h1, h2 => by
    refine Ev.step (fun k => by rw [durable_copies.l0]) ?_
    rw [h2, List.take_of_length_le (by omega)]
    exact Ev.neg (by omega) (Ev.now _)
  | d + 1, i, out, h0, h1, h2 => by
    refine Ev.step (fun k => by rw [durable_copies.l0]) ?_
    have hm : rd_L1 l i ∈ l := by rw [rd_L1_nat l i (by omega)]; exact List.getElem_mem _
    refine Ev.pos (by omega) (Ev.pos (by omega) (Ev.pos (by omega) (Ev.had (x := rd_L1 l i) (by unfold bytes_Clone.f; rw [if_pos (hb _ hm)]) ?_)))
    refine Ev.pos (by rw [h2, List.length_take]; omega) ?_
    rw [wrap_nat i (by omega)]
    refine copies_l0 l hl hb d (i + 1) _ (by omega) (by omega) ?_
    rw [h2, rd_L1_nat l i (by omega)]; exact (List.take_succ_eq_append_getElem (by omega)).symm
theorem copies_ev (l : List (List Int)) (hl : l.length ≤ 1000000) (hb : ∀ b ∈ l, b.length ≤ 1000000000) : Ev (fun k => durable_copies.f k l) l := by
  unfold durable_copies.f
  exact copies_l0 l hl hb l.length 0 [] (by omega) (by omega) (by simp)
/-- Contents that read as what they say. -/
theorem C_pg {w : World} {A : Option Addr} {n : Nat} {ps : List Pg} (h : Kd.C kP w A n ps) (hp : ∀ p ∈ ps, Pok w p) : Kd.C (Kd.slice 5 (Kd.int .u8)) w A n (ps.map Pg.b) := by
  obtain ⟨h1, h2, h3⟩ := h
  refine ⟨by rw [List.length_map]; exact h1, h2, fun h0 => ?_⟩
  obtain ⟨ad, e, h4⟩ := h3 h0
  refine ⟨ad, e, fun j b hb => ?_⟩
  rw [List.getElem?_map] at hb
  cases hj : ps[j]? with
  | none => rw [hj] at hb; cases hb
  | some p =>
    rw [hj] at hb
    injection hb with hb
    subst hb
    obtain ⟨cs, c1, c2, c3⟩ := h4 j p hj
    have hk := hp p (List.mem_of_getElem? hj)
    have : cs = [p.v] := c2
    subst this
    exact ⟨[p.v], rfl, ⟨p.A, p.c, rfl, hk.1, hk.2⟩, c3⟩
theorem copiesP_calls (A0 : Option Addr) (c0 : Nat) (ps : List Pg) (w : World) (hr : Kd.C kP w A0 ps.length ps) (hc : ps.length ≤ c0) (hp : ∀ p ∈ ps, Pok w p) (hl : ps.length ≤ 1000000) (hb : ∀ p ∈ ps, p.b.length ≤ 1000000000) :
    Calls Try.prog 36 #[.slice A0 ps.length c0] w fun e w' => ∃ v0_ : Value, e = .returned (v0_) ∧ Kd.S (Kd.slice 5 (Kd.int .u8)) 36 w' w.heap.size (fun _ => True) v0_ (ps.map Pg.b) ∧ Below w.heap.size w w' := by
  obtain ⟨k, hk⟩ := (copies_ev (ps.map Pg.b) (by simpa using hl) (fun b hb' => by obtain ⟨p, hp', rfl⟩ := List.mem_map.1 hb'; exact hb p hp')).rounds
  have e : (ps.map Pg.b).length = ps.length := List.length_map ..
  have := durable_copies.calls k A0 c0 (ps.map Pg.b) _ w (by rw [e]; exact C_pg hr hp) (by rw [e]; exact hc) hk
  rwa [e] at this

/-- The state's contents have the sizes of pages. -/
def WfL (n : Nat) (st : StL) : Prop := st.firm.length = n ∧ st.cache.length = n ∧ (∀ b ∈ st.firm, b.length = 32) ∧ (∀ b ∈ st.cache, b = [] ∨ b.length = 32) ∧ ∀ o ∈ st.out, o.b.length = 32 ∧ 0 ≤ o.blk ∧ o.blk < n
theorem wrongL_zero {n : Nat} {ids : List Int} {out : List OuL} {x : S38} (h : wrongL n ids out x = 0) : (x.f0 = 1 ∧ 0 ≤ x.f2 ∧ x.f2 < n ∧ (x.f3.length : Int) = 32 ∧ x.f1 ∉ ids) ∨ (x.f0 = 2 ∧ 0 ≤ idAtL x.f1 out) ∨ x.f0 = 3 := by
  unfold wrongL at h
  split at h
  · rename_i k1
    left
    split at h
    · exact absurd h (by decide)
    · split at h
      · exact absurd h (by decide)
      · split at h
        · exact absurd h (by decide)
        · rename_i a b c; exact ⟨k1, by omega, by omega, by omega, c⟩
  · split at h
    · rename_i k2
      right; left
      split at h
      · exact absurd h (by decide)
      · split at h
        · exact absurd h (by decide)
        · rename_i _ c; exact ⟨k2, by omega⟩
    · split at h
      · rename_i k3; exact .inr (.inr k3)
      · exact absurd h (by decide)
theorem idFromL_bd (id : Int) : ∀ (l : List OuL) (k : Int), idFromL id l k = -1 ∨ (k ≤ idFromL id l k ∧ idFromL id l k < k + l.length)
  | [], k => .inl rfl
  | x :: l, k => by
    unfold idFromL
    split
    · right; rw [List.length_cons]; omega
    · have := idFromL_bd id l (k + 1)
      rw [List.length_cons]; omega
theorem idAtL_lt {id : Int} {l : List OuL} (h : 0 ≤ idAtL id l) : idAtL id l < l.length := by
  have := idFromL_bd id l 0
  unfold idAtL at h ⊢; omega
theorem rd_OL_mem {l : List OuL} {i : Int} (h0 : 0 ≤ i) (h1 : i < l.length) : rd_OL l i ∈ l := by
  unfold rd_OL
  rw [List.getD_eq_getElem?_getD, List.getElem?_eq_getElem (show i.toNat < l.length by omega)]
  exact List.getElem_mem _
theorem mem_zipWith {α β γ : Type} {f : α → β → γ} : ∀ {l : List α} {m : List β} {z : γ}, z ∈ List.zipWith f l m → ∃ x ∈ l, ∃ y ∈ m, z = f x y
  | [], m, z, h => by simp at h
  | x :: l, [], z, h => by simp at h
  | x :: l, y :: m, z, h => by
    rw [List.zipWith_cons_cons, List.mem_cons] at h
    rcases h with rfl | h
    · exact ⟨x, by simp, y, by simp, rfl⟩
    · obtain ⟨a, ha, b, hb, e⟩ := mem_zipWith h
      exact ⟨a, by simp [ha], b, by simp [hb], e⟩
theorem WfL.step {n : Nat} {st : StL} {ids : List Int} {x : S38} (h : WfL n st) (hz : wrongL n ids st.out x = 0) : WfL n (applyL st x) := by
  obtain ⟨h1, h2, h3, h4, h5⟩ := h
  rcases wrongL_zero hz with ⟨k, k1, k2, k3, _⟩ | ⟨k, k1⟩ | k
  · unfold applyL; rw [if_pos k]
    refine ⟨h1, h2, h3, h4, fun o ho => ?_⟩
    rcases List.mem_append.1 ho with ho | ho
    · exact h5 o ho
    · rw [List.mem_singleton.1 ho]; exact ⟨by simp only; omega, k1, k2⟩
  · unfold applyL; rw [if_neg (by rw [k]; decide), if_pos k]
    refine ⟨h1, by simpa using h2, h3, fun b hb => ?_, fun o ho => h5 o (List.mem_of_mem_eraseIdx ho)⟩
    rcases List.mem_or_eq_of_mem_set hb with hb | rfl
    · exact h4 b hb
    · exact .inr (h5 _ (rd_OL_mem k1 (idAtL_lt k1))).1
  · unfold applyL; rw [if_neg (by rw [k]; decide), if_neg (by rw [k]; decide)]
    refine ⟨by unfold flL; simp [h1, h2], by unfold flL; simpa using h2, fun b hb => ?_, fun b hb => ?_, h5⟩
    · obtain ⟨c, hc, f, hf, e⟩ := mem_zipWith hb
      subst e
      by_cases q : c = []
      · rw [if_pos q]; exact h3 f hf
      · rw [if_neg q]
        rcases h4 c hc with h | h
        · exact absurd h q
        · exact h
    · obtain ⟨c, _, e⟩ := List.mem_map.1 hb
      exact .inl e.symm
theorem evsL_wf (n : Nat) : ∀ (l : List S38) (ids : List Int) (st : StL), WfL n st → WfL n (evsL n l ids st).2
  | [], ids, st, h => h
  | x :: l, ids, st, h => by
    rw [evsL]
    by_cases hz : wrongL n ids st.out x ≠ 0
    · rw [if_pos hz]; exact h
    · rw [if_neg hz]; exact evsL_wf n l _ _ (h.step (by omega : wrongL n ids st.out x = 0))
theorem afterL_wf {l0 : List (List Int)} {l1 : List S38} (h : (afterL l0 l1).1 = 0) : WfL l0.length (afterL l0 l1).2 := by
  unfold afterL at h ⊢
  split at h
  · exact absurd h (by decide)
  · rename_i hb
    rw [if_neg hb]
    refine evsL_wf _ _ _ _ ⟨rfl, List.length_replicate .., fun b hm => ?_, fun b hm => .inl (List.eq_of_mem_replicate hm), fun o ho => by simp at ho⟩
    have : badL b = false := by
      cases e : badL b with
      | false => rfl
      | true => exact absurd (List.any_eq_true.2 ⟨b, hm, e⟩) hb
    unfold badL at this
    have : (b.length : Int) = 32 := by simpa using this
    omega
/-- The latest contents. -/
def latestL (st : StL) : List (List Int) := List.zipWith (fun c f => if c = [] then f else c) st.cache st.firm
theorem latS_b {n j : Nat} {st : St} (hG : Good n j st) (i : Nat) (hi : i < n) : (latS st i).b = if (rd_P st.cache i).b = [] then (rd_P st.firm i).b else (rd_P st.cache i).b := by
  have hm : rd_P st.cache i ∈ st.cache := by rw [rd_P_nat st.cache i (by have := hG.1.2.1; omega)]; exact List.getElem_mem _
  have hN := hG.2.1 _ hm
  unfold Nil at hN
  unfold latS
  rw [hN]
  by_cases q : (rd_P st.cache i).b = []
  · rw [if_pos q, if_neg (by simp [q])]
  · rw [if_neg q, if_pos (by simpa using q)]
def latP (st : St) (n : Nat) : List Pg := (List.range n).map (fun i : Nat => latS st i)
theorem latP_b {n j : Nat} {st : St} (hG : Good n j st) : (latP st n).map Pg.b = latestL st.l := by
  have h1 := hG.1.1
  have h2 := hG.1.2.1
  apply List.ext_getElem?
  intro i
  unfold latP latestL St.l
  simp only [List.map_map, List.getElem?_map, List.getElem?_zipWith]
  by_cases hi : i < n
  · rw [List.getElem?_range hi, List.getElem?_eq_getElem (show i < st.cache.length by omega), List.getElem?_eq_getElem (show i < st.firm.length by omega)]
    simp only [Option.map_some, Function.comp_apply]
    rw [latS_b hG i hi, rd_P_nat st.cache i (by omega), rd_P_nat st.firm i (by omega)]
  · rw [List.getElem?_eq_none (by simpa using hi), List.getElem?_eq_none (show st.cache.length ≤ i by omega)]; rfl
theorem latP_succ (st : St) (n : Nat) : latP st (n + 1) = latP st n ++ [latS st n] := by unfold latP; rw [List.range_succ, List.map_append]; rfl
theorem latP_len (st : St) (n : Nat) : (latP st n).length = n := by unfold latP; simp
theorem latS_pok {w : World} {st : St} (h : PokSt w st) (i : Int) : Pok w (latS st i) := by
  unfold latS; split
  · exact rd_P_pok h.2.1 i
  · exact rd_P_pok h.1 i
theorem latP_pok {w : World} {st : St} (h : PokSt w st) (n : Nat) : ∀ p ∈ latP st n, Pok w p := by
  intro p hp
  obtain ⟨i, _, rfl⟩ := List.mem_map.1 hp
  exact latS_pok h i
theorem map_len {ps : List Pg} {l : List (List Int)} (h : ps.map Pg.b = l) (hl : ∀ b ∈ l, b.length ≤ 1000000000) : ∀ p ∈ ps, p.b.length ≤ 1000000000 := fun p hp => hl _ (by rw [← h]; exact List.mem_map_of_mem hp)
theorem latestL_len {n : Nat} {st : StL} (h : WfL n st) : ∀ b ∈ latestL st, b.length = 32 := by
  intro b hb
  obtain ⟨c, hc, f, hf, e⟩ := mem_zipWith hb
  subst e
  by_cases q : c = []
  · rw [if_pos q]; exact h.2.2.1 f hf
  · rw [if_neg q]
    rcases h.2.2.2.1 c hc with h | h
    · exact absurd h q
    · exact h

def durable_Latest.f (l0 : List (List Int)) (l1 : List S38) : Option (List (List Int) × Int) := if l0.length ≤ 1000000 ∧ l1.length ≤ 1000000 then some (if (afterL l0 l1).1 ≠ 0 then ([], (afterL l0 l1).1) else (latestL (afterL l0 l1).2, 0)) else none
set_option maxHeartbeats 2000000 in
theorem durable_Latest.calls (A0 : Option Addr) (c0 : Nat) (l0 : List (List Int)) (A1 : Option Addr) (c1 : Nat) (l1 : List S38) (r1 : List (List Int)) (r2 : Int) (w : World) (hr0 : Kd.C (Kd.slice 5 (Kd.int .u8)) w A0 l0.length l0) (hc0 : l0.length ≤ c0) (hr1 : Kd.C k38 w A1 l1.length l1) (hc1 : l1.length ≤ c1) (h : durable_Latest.f l0 l1 = some (r1, r2)) :
    Calls Try.prog 23 #[.slice A0 l0.length c0, .slice A1 l1.length c1] w fun e w' => ∃ v0_ : Value, e = .returned (.tuple #[v0_, .int .i64 r2]) ∧ Kd.S (Kd.slice 5 (Kd.int .u8)) 36 w' w.heap.size (fun _ => True) v0_ r1 ∧ Below w.heap.size w w' := by
  unfold durable_Latest.f at h
  split at h
  · rename_i hn
    have HA := Aside0.mk (after_ev A0 c0 l0 A1 c1 l1 w hr0 hr1 hn.1 hn.2)
    injection h with h
    have HN := Aside0.mk hn
    have HW := Aside0.mk (afterL_wf (l0 := l0) (l1 := l1))
    clear hr0 hr1 hc0 hc1 hn
    have HH := Aside0.mk h
    clear h
    generalize hAL : afterL l0 l1 = aL at HA HH HW
    obtain ⟨er, sl⟩ := aL
    simp only at HA HH HW
    clear hAL
    generalize hnn : l0.length = n at HA HN HW ⊢
    go_enter Try.func23, Try.ntmps23
    go_wp2_with (fail)
    refine HA.out.mono ?_
    rintro e w1 ⟨hb, ⟨h1, rfl⟩ | ⟨h1, S, st, rfl, hs, hl, hG, hP⟩⟩
    · have hh := HH.out
      rw [if_pos h1] at hh
      simp only [Prod.mk.injEq] at hh
      obtain ⟨rfl, rfl⟩ := hh
      have d0 : (er != 0) = true := bne_iff_ne.mpr h1
      have HB := Aside0.mk hb
      clear HA HH h1 hb
      go_wp2_with (fail)
      go_ret2
      exact ⟨_, rfl, Kd.S_nil _ _ _ _ _, HB.out⟩
    · subst h1
      have hh := HH.out
      rw [if_neg (by decide)] at hh
      simp only [Prod.mk.injEq] at hh
      obtain ⟨rfl, rfl⟩ := hh
      have HB := Aside0.mk hb
      have HS := Aside0.mk hs
      have HG := Aside0.mk hG
      have HP := Aside0.mk (⟨fun p hp => (hP.1 p hp).below hb, fun p hp => (hP.2.1 p hp).below hb, fun o ho => (hP.2.2 o ho).below hb⟩ : PokSt w1 st)
      have HL := Aside0.mk hl
      have HWW := Aside0.mk (HW.out rfl)
      clear HA HH hb hs hG hP hl HW
      have hn1 : n ≤ 1000000 := HN.out.1
      have HB1 := Aside0.mk (Below.refl w1.heap.size w1)
      go_wp2_with (fail)
      go_loopg [8, 21] n (fun gg s8 s21 wr => ∃ kk : Nat, kk ≤ n ∧ n - kk ≤ gg ∧ s21 = .int .i64 kk ∧ Aside0 (Below w1.heap.size w1 wr) ∧ Aside0 (kP.R 36 wr w1.heap.size (fun _ => True) s8 (latP st kk)))
      case atStart => exact ⟨0, Nat.zero_le _, by omega, rfl, HB1, ⟨Kd.R_nil _ _ _ _ _⟩⟩
      case round =>
        clear HB1
        obtain ⟨kk, hkk, hg, rfl, BW, HO⟩ := hrel
        by_cases hlt : kk < n
        · have hltz : (kk : Int) < (n : Int) := by omega
          have HC := Aside0.mk (latest_calls w S st kk wr (HS.out.below BW.out) (by omega) (by rw [HG.out.1.2.1]; omega) (by rw [HG.out.1.1, HG.out.1.2.1]))
          have HLE := Aside0.mk (latP_len st kk)
          have HSU := Aside0.mk (latP_succ st kk)
          generalize latS st kk = p at HC HSU
          generalize latP st kk = xs at HO HLE HSU
          simp only [Pg.v] at HC
          go_wp2_with (fail)
          refine HC.out.mono ?_
          rintro e w2 ⟨rfl, hb2⟩
          have BW2 := Aside0.mk (BW.out.trans (hb2.mono BW.out.size))
          have HO2 := Aside0.mk (Kd.R_below HO.out hb2)
          clear HC hb2 BW HO
          obtain ⟨pA, pc, pb⟩ := p
          go_wp2_with (first | ((with_reducible refine gate_builtin (b := .append) (xs := #[.tmp 24, .tmp 28]) rfl ?_); (try (refine gate_guard (by rfl) ?_; dsimp only)); at_builtin; refine Kd.R_append kP (w0 := w1) w1.heap.size rfl (.tmp 24) (.tmp 28) 22 36 (.slice none 0 0) 24 rfl Try.underlying22 info36 rfl (by decide) (by omega) u8 xs (⟨pA, pc, pb⟩ : Pg) [.slice pA pb.length pc] (fun _ => True) (fun _ => False) rfl rfl ?aP (fun _ hk => hk.elim) ?aF ?aO ?aB ?aS ?aL ?_; (case aP => rfl); (case aB => exact BW2.out); (case aF => exact (fun _ _ => trivial)); (case aO => exact HO2.out); (case aS => exact (below_size BW2.out)); (case aL => have := HLE.out; omega); intro v131 w29 ho hb hg_ hat; have n0_ := Aside0.mk hb; have n1_ := Aside0.mk ho; clear ho hb hg_ hat))
          go_roundg (n - (kk + 1))
          case measure => omega
          case rel => exact ⟨kk + 1, by omega, by omega, by go_num, n0_, ⟨by rw [HSU.out]; exact n1_.out⟩⟩
        · have hltz : ¬ (kk : Int) < (n : Int) := by omega
          have : kk = n := by omega
          subst this
          have hm := latP_b HG.out
          rw [HL.out] at hm
          have HM := Aside0.mk hm
          have HLN := Aside0.mk (map_len hm (fun b hb => by rw [latestL_len HWW.out b hb]; decide))
          have HPK := Aside0.mk (fun p hp => (latP_pok HP.out kk p hp).below BW.out)
          have HLE := Aside0.mk (latP_len st kk)
          clear hm
          generalize latP st kk = xs at HO HM HLN HPK HLE
          obtain ⟨A, c, e⟩ := Kd.R_slice HO.out
          subst e
          have HCO := Aside0.mk (copiesP_calls A c xs wr (Kd.R_reads' HO.out).2.2 (Kd.R_reads' HO.out).2.1 HPK.out (by have := HLE.out; omega) HLN.out)
          have HMM := HM.out
          rw [HMM] at HCO
          have HB2 := Aside0.mk (HB.out.trans (BW.out.mono HB.out.size))
          clear HMM
          go_wp2_with (fail)
          refine HCO.out.mono ?_
          rintro e w3 ⟨v3, rfl, ho3, hb3⟩
          have n0_ := Aside0.mk (Kd.S_lower ho3 HB2.out.size)
          have n1_ := Aside0.mk (below_step HB2.out hb3)
          clear HCO ho3 hb3
          go_wp2_with (fail)
          go_ret2
          exact ⟨_, rfl, n0_.out, n1_.out⟩
  · cases h

def durable_Durable.f (l0 : List (List Int)) (l1 : List S38) : Option (List (List Int) × Int) := if l0.length ≤ 1000000 ∧ l1.length ≤ 1000000 then some (if (afterL l0 l1).1 ≠ 0 then ([], (afterL l0 l1).1) else ((afterL l0 l1).2.firm, 0)) else none
set_option maxHeartbeats 2000000 in
theorem durable_Durable.calls (A0 : Option Addr) (c0 : Nat) (l0 : List (List Int)) (A1 : Option Addr) (c1 : Nat) (l1 : List S38) (r1 : List (List Int)) (r2 : Int) (w : World) (hr0 : Kd.C (Kd.slice 5 (Kd.int .u8)) w A0 l0.length l0) (hc0 : l0.length ≤ c0) (hr1 : Kd.C k38 w A1 l1.length l1) (hc1 : l1.length ≤ c1) (h : durable_Durable.f l0 l1 = some (r1, r2)) :
    Calls Try.prog 24 #[.slice A0 l0.length c0, .slice A1 l1.length c1] w fun e w' => ∃ v0_ : Value, e = .returned (.tuple #[v0_, .int .i64 r2]) ∧ Kd.S (Kd.slice 5 (Kd.int .u8)) 36 w' w.heap.size (fun _ => True) v0_ r1 ∧ Below w.heap.size w w' := by
  unfold durable_Durable.f at h
  split at h
  · rename_i hn
    have HA := Aside0.mk (after_ev A0 c0 l0 A1 c1 l1 w hr0 hr1 hn.1 hn.2)
    injection h with h
    have HN := Aside0.mk hn
    have HW := Aside0.mk (afterL_wf (l0 := l0) (l1 := l1))
    clear hr0 hr1 hc0 hc1 hn
    have HH := Aside0.mk h
    clear h
    generalize hAL : afterL l0 l1 = aL at HA HH HW
    obtain ⟨er, sl⟩ := aL
    simp only at HA HH HW
    clear hAL
    generalize hnn : l0.length = n at HA HN HW ⊢
    go_enter Try.func24, Try.ntmps24
    go_wp2_with (fail)
    refine HA.out.mono ?_
    rintro e w1 ⟨hb, ⟨h1, rfl⟩ | ⟨h1, S, st, rfl, hs, hl, hG, hP⟩⟩
    · have hh := HH.out
      rw [if_pos h1] at hh
      simp only [Prod.mk.injEq] at hh
      obtain ⟨rfl, rfl⟩ := hh
      have d0 : (er != 0) = true := bne_iff_ne.mpr h1
      have HB := Aside0.mk hb
      clear HA HH h1 hb
      go_wp2_with (fail)
      go_ret2
      exact ⟨_, rfl, Kd.S_nil _ _ _ _ _, HB.out⟩
    · subst h1
      have hh := HH.out
      rw [if_neg (by decide)] at hh
      simp only [Prod.mk.injEq] at hh
      obtain ⟨rfl, rfl⟩ := hh
      have HB := Aside0.mk hb
      have hm : st.firm.map Pg.b = sl.firm := by rw [← hl]; rfl
      have hlen : st.firm.length = n := hG.1.1
      have hlN := map_len hm (fun b hb => by rw [(HW.out rfl).2.2.1 b hb]; decide)
      have hpk := fun p hp => (hP.1 p hp).below hb
      obtain ⟨vF, vC, vO, hS, hS0, hF, hC, hO, hBB⟩ := hs
      obtain ⟨A, c, eF⟩ := Kd.R_slice hF
      subst eF
      have hcS := cell_of_row w1 S 0 _ _ _ hS
      have HCO := Aside0.mk (copiesP_calls A c st.firm w1 (Kd.R_reads' hF).2.2 (Kd.R_reads' hF).2.1 hpk (by have := HN.out.1; omega) hlN)
      rw [hm] at HCO
      clear HA HH hb hS hS0 hF hC hO hBB hG hP hl HW hm hlen hlN hpk
      go_wp2_with (fail)
      refine HCO.out.mono ?_
      rintro e w3 ⟨v3, rfl, ho3, hb3⟩
      have n0_ := Aside0.mk (Kd.S_lower ho3 HB.out.size)
      have n1_ := Aside0.mk (below_step HB.out hb3)
      clear HCO ho3 hb3
      go_wp2_with (fail)
      go_ret2
      exact ⟨_, rfl, n0_.out, n1_.out⟩
  · cases h

def eqB (a b : List Int) : Bool := (strOfNums a).toList == (strOfNums b).toList
theorem equal_calls (p q : Pg) (W : World) (hp : Pok W p) (hq : Pok W q) : Calls Try.prog 46 #[p.v, q.v] W fun e w' => e = .returned (.bool (eqB p.b q.b)) ∧ w' = W := by
  have h1 := Kd.C_string (P := Try.prog) (A := p.A) (c := p.c) Try.underlying36 Try.underlying5 Try.underlying9 hp.2
  have h2 := Kd.C_string (P := Try.prog) (A := q.A) (c := q.c) Try.underlying36 Try.underlying5 Try.underlying9 hq.2
  obtain ⟨pA, pc, pb⟩ := p
  obtain ⟨qA, qc, qb⟩ := q
  clear hp hq
  simp only [Pg.v, eqB] at h1 h2 ⊢
  go_enter Try.func46, Try.ntmps46
  go_wp2
  go_ret
  exact ⟨rfl, rfl⟩
set_option maxHeartbeats 1000000 in
theorem choices1_calls (x b : Pg) (B : Nat) (W : World) (hx : Pok W x) (hb : Pok W b) (hc : W.cell? ⟨B, 0, none⟩ = some b.v) :
    Calls Try.prog 51 #[x.v, .pointer (some ⟨B, 0, none⟩)] W fun e w' => e = .returned (.bool (eqB b.b x.b)) ∧ Below W.heap.size W w' := by
  have HE := Aside0.mk (equal_calls b x W hb hx)
  obtain ⟨xA, xc, xb⟩ := x
  obtain ⟨bA, bc, bb⟩ := b
  simp only [Pg.v] at hc HE ⊢
  clear hx hb
  go_enter Try.func51, Try.ntmps51
  go_wp2_with (fail)
  refine HE.out.mono ?_
  rintro e w' ⟨rfl, rfl⟩
  go_wp2
  go_ret
  exact ⟨rfl, Below.refl _ _⟩

def ipFrom (p : Pg → Bool) : List Pg → Int → Int
  | [], _ => -1
  | x :: l, k => if p x then k else ipFrom p l (k + 1)
theorem ipFrom_drop (p : Pg → Bool) (l : List Pg) (k : Nat) (h : k < l.length) : ipFrom p (l.drop k) k = if p (rd_P l k) then (k : Int) else ipFrom p (l.drop (k + 1)) ((k : Int) + 1) := by
  rw [rd_P_nat l k h, List.drop_eq_getElem_cons h]
  simp only [ipFrom]
theorem ipFrom_any (p : Pg → Bool) : ∀ (l : List Pg) (k : Int), 0 ≤ k → (decide (0 ≤ ipFrom p l k) = l.any p)
  | [], k, h => by simp [ipFrom]
  | x :: l, k, h => by
    simp only [ipFrom, List.any_cons]
    by_cases hp : p x = true
    · simp [h, hp]
    · simp only [hp, if_neg, Bool.false_or]
      simpa [hp] using ipFrom_any p l (k + 1) (by omega)
set_option maxHeartbeats 1000000 in
theorem indexP_calls (p : Pg → Bool) (g : Nat) (cb : Array Value) (eg : ∀ args w, (callFunc g args).run Try.prog w = .ok (.enter g args) w) (A0 : Option Addr) (c0 : Nat) (l0 : List Pg) (w : World) (hr0 : Kd.C kP w A0 l0.length l0) (hn : l0.length ≤ 9223372036854775807)
    (hp : ∀ (W : World) (x : Pg), x ∈ l0 → Below w.heap.size w W → Calls Try.prog g (#[x.v] ++ cb) W fun e w' => e = .returned (.bool (p x)) ∧ Below w.heap.size w w') :
    Calls Try.prog 55 #[.slice A0 l0.length c0, .func (.func g) #[] cb] w fun e w' => e = .returned (.int .i64 (ipFrom p l0 0)) ∧ Below w.heap.size w w' := by
  have HR := Aside0.mk hr0
  have HP := Aside0.mk hp
  clear hr0 hp
  go_enter Try.func55, Try.ntmps55
  go_wp2
  go_loopg [5, 8] l0.length (fun gg _ s8 wr => ∃ kk : Nat, kk ≤ l0.length ∧ l0.length - kk ≤ gg ∧ s8 = .int .i64 kk ∧ Aside0 (Below w.heap.size w wr) ∧ Aside0 (ipFrom p l0 0 = ipFrom p (l0.drop kk) kk))
  case atStart => exact ⟨0, Nat.zero_le _, by omega, rfl, ⟨Below.refl _ w⟩, ⟨rfl⟩⟩
  case round =>
    obtain ⟨kk, hkk, hg, rfl, BW, A⟩ := hrel
    by_cases hlt : kk < l0.length
    · have hltz : (kk : Int) < (l0.length : Int) := by omega
      obtain ⟨ad, e0, hx0⟩ := at_P (Kd.C_below HR.out BW.out) (kk : Int) (by omega) hltz
      cases e0
      have hcall := HP.out wr (rd_P l0 kk) (by rw [rd_P_nat l0 kk hlt]; exact List.getElem_mem _) BW.out
      simp only [Int.toNat_natCast, Pg.v] at hx0 hcall
      have HA := A.out
      rw [ipFrom_drop p l0 kk hlt] at HA
      cases hq : p (rd_P l0 kk) with
      | true =>
        rw [hq] at hcall
        have HS : Aside0 (ipFrom p l0 0 = kk) := ⟨by rw [HA, hq, if_pos rfl]⟩
        clear hq A HA
        generalize rd_P l0 kk = x at hx0 hcall
        go_wp2_with (fail)
        refine hcall.mono ?_
        rintro e w' ⟨rfl, hb'⟩
        clear hcall hx0
        go_wp2
        go_ret
        refine ⟨?_, hb'⟩
        rw [HS.out]; rfl
      | false =>
        rw [hq] at hcall
        have HS : Aside0 (ipFrom p l0 0 = ipFrom p (l0.drop (kk + 1)) ((kk : Int) + 1)) := ⟨by rw [HA, hq, if_neg (by simp)]⟩
        clear hq A HA
        generalize rd_P l0 kk = x at hx0 hcall
        go_wp2_with (fail)
        refine hcall.mono ?_
        rintro e w' ⟨rfl, hb'⟩
        clear hcall hx0
        go_wp2
        go_roundg (l0.length - (kk + 1))
        case measure => omega
        case rel =>
          exact ⟨kk + 1, by omega, by omega, by go_num, ⟨hb'⟩, ⟨by rw [HS.out]; simp⟩⟩
    · have hltz : ¬ (kk : Int) < (l0.length : Int) := by omega
      have : kk = l0.length := by omega
      subst this
      go_wp2
      go_ret
      refine ⟨?_, BW.out⟩
      rw [A.out]; simp [ipFrom]
theorem containsP_calls (p : Pg → Bool) (g : Nat) (cb : Array Value) (eg : ∀ args w, (callFunc g args).run Try.prog w = .ok (.enter g args) w) (A0 : Option Addr) (c0 : Nat) (l0 : List Pg) (w : World) (hr0 : Kd.C kP w A0 l0.length l0) (hn : l0.length ≤ 9223372036854775807)
    (hp : ∀ (W : World) (x : Pg), x ∈ l0 → Below w.heap.size w W → Calls Try.prog g (#[x.v] ++ cb) W fun e w' => e = .returned (.bool (p x)) ∧ Below w.heap.size w w') :
    Calls Try.prog 44 #[.slice A0 l0.length c0, .func (.func g) #[] cb] w fun e w' => e = .returned (.bool (l0.any p)) ∧ Below w.heap.size w w' := by
  have HC := Aside0.mk (indexP_calls p g cb eg A0 c0 l0 w hr0 hn hp)
  have HE : Aside0 (decide (0 ≤ ipFrom p l0 0) = l0.any p) := ⟨ipFrom_any p l0 0 (by omega)⟩
  clear hr0 hp eg
  generalize ipFrom p l0 0 = r at HC HE
  go_enter Try.func44, Try.ntmps44
  go_wp2_with (fail)
  refine HC.out.mono ?_
  rintro e w' ⟨rfl, hb'⟩
  go_wp2
  go_ret
  refine ⟨?_, hb'⟩
  rw [← HE.out]; rfl
/-- Each content once. -/
def dedP : List Pg → List Pg → List Pg
  | [], out => out
  | b :: l, out => if out.any (fun c => eqB b.b c.b) then dedP l out else dedP l (out ++ [b])
def dedL : List (List Int) → List (List Int) → List (List Int)
  | [], out => out
  | b :: l, out => if out.any (fun c => eqB b c) then dedL l out else dedL l (out ++ [b])
theorem dedP_map : ∀ (l out : List Pg), (dedP l out).map Pg.b = dedL (l.map Pg.b) (out.map Pg.b)
  | [], out => rfl
  | b :: l, out => by
    rw [List.map_cons, dedP, dedL, List.any_map]
    by_cases c : out.any (fun c => eqB b.b c.b) = true
    · rw [if_pos c, if_pos (by exact c), dedP_map l out]
    · rw [if_neg c, if_neg (by exact c), dedP_map l (out ++ [b]), List.map_append]; rfl
def writesP (out : List Ou) (i : Int) : List Pg := (out.filter (fun o => o.blk == i)).map Ou.pg
def writesL (out : List OuL) (i : Int) : List (List Int) := (out.filter (fun o => o.blk == i)).map OuL.b
theorem writesP_map (out : List Ou) (i : Int) : (writesP out i).map Pg.b = writesL (out.map Ou.l) i := by
  unfold writesP writesL
  rw [List.filter_map, List.map_map, List.map_map]; rfl
def choicesP (st : St) (i : Int) : List Pg := dedP ([rd_P st.firm i, latS st i] ++ writesP st.out i) []
theorem writesP_succ (out : List Ou) (i : Int) (k : Nat) (h : k < out.length) : writesP (out.take (k + 1)) i = writesP (out.take k) i ++ (if (rd_O out k).blk == i then [(rd_O out k).pg] else []) := by
  rw [rd_O_nat out k h, List.take_succ_eq_append_getElem h]
  unfold writesP
  rw [List.filter_append, List.map_append]
  congr 1
  simp only [List.filter_cons, List.filter_nil]
  split <;> rfl
theorem lit2_R (W : World) (base : Nat) (hb : base ≤ W.heap.size) (p q : Pg) : kP.R 36 (W.alloc (.cells #[p.v, q.v] 36)) base (fun _ => True) (.slice (some ⟨W.heap.size, 0, none⟩) 2 2) [p, q] := by
  refine ⟨fun _ _ => trivial, [p.v, q.v], ⟨rfl, .inr ⟨W.heap.size, 2, #[p.v, q.v], rfl, hb, heap_alloc_new W _, Nat.le_refl _, by decide, rfl, rfl⟩⟩, Kd.reps_scalar (enc := Pg.v) [p, q]⟩

theorem size_a (w : World) (o : Obj) : (w.alloc o).heap.size = w.heap.size + 1 := Array.size_push _
set_option maxHeartbeats 4000000 in
theorem choices_calls (w0 : World) (S : Nat) (st : St) (i : Int) (w : World) (hs : RS w0 w S st) (hP : PokSt w st) (h0 : 0 ≤ i) (h1 : i < st.cache.length) (h2 : st.firm.length = st.cache.length) (hl : st.out.length ≤ 1000000) :
    Calls Try.prog 34 #[.pointer (some ⟨S, 0, none⟩), .int .i64 i] w fun e w' => ∃ v0_ : Value, e = .returned v0_ ∧ kP.R 36 w' w.heap.size (fun _ => True) v0_ (choicesP st i) ∧ Below w.heap.size w w' := by
  have HL := Aside0.mk (fun (W : World) (hb : Below w.heap.size w W) => (latest_calls w0 S st i W (hs.below hb) h0 h1 h2).mono (fun e w' (h : e = _ ∧ Below W.heap.size W w') => show e = _ ∧ Below w.heap.size w w' from ⟨h.1, hb.trans (h.2.mono hb.size)⟩))
  have HS := Aside0.mk hs
  have HP := Aside0.mk hP
  have HP1 : Aside0 (Pok w (rd_P st.firm i)) := ⟨rd_P_pok hP.1 i⟩
  have HP2 : Aside0 (Pok w (latS st i)) := ⟨latS_pok hP i⟩
  have HCH : Aside0 (choicesP st i = dedP ([rd_P st.firm i, latS st i] ++ writesP st.out i) []) := ⟨rfl⟩
  obtain ⟨vF, vC, vO, hS, hS0, hF, hC, hO, hB⟩ := hs
  obtain ⟨AF, cF, eF⟩ := Kd.R_slice hF
  subst eF
  have hi1 : i < (st.firm.length : Int) := by omega
  obtain ⟨ad2, e0, hy⟩ := at_P (Kd.R_reads' hF).2.2 i h0 hi1
  cases e0
  have hc0 := cell_of_row w S 0 _ _ _ hS
  obtain ⟨AO, cO, eO⟩ := Kd.R_slice hO
  subst eO
  have HOC := Aside0.mk (Kd.R_reads' hO).2.2
  have HSC := Aside0.mk hS
  clear hS hS0 hF hC hO hB hP
  generalize rd_P st.firm i = p at *
  generalize latS st i = q at *
  generalize choicesP st i = ch at *
  obtain ⟨pA, pc, pb⟩ := p
  obtain ⟨qA, qc, qb⟩ := q
  simp only [Pg.v] at hy HL
  have HB := Aside0.mk (Below.refl w.heap.size w)
  go_enter Try.func34, Try.ntmps34
  go_wp2_with (fail)
  go_region_law (refine goes_ Try.func41 (by kernel_rfl) rfl #[.pointer (some ⟨S, 0, none⟩), .int .i64 i] (by rfl) rfl rfl (by (try simp only [List.map_toArray, List.map_cons, List.map_nil]); first | done | rfl) ?_; refine (HL.out _ (by repeat (first | exact HB.out | apply below_drew1 | apply below_alloc))).mono ?_; rintro e w1 ⟨rfl, hb⟩; have hy1 := pw_cell_below hb hy; have hc1 := pw_cell_below hb hc0; refine ⟨_, rfl, ?_⟩)
  all_goals
    have HB2 : Aside0 (Below w.heap.size w (w1.alloc (.cells #[.slice pA pb.length pc, .slice qA qb.length qc] 36))) := ⟨below_alloc hb _⟩
    have HA2 : Aside0 (kP.R 36 (w1.alloc (.cells #[.slice pA pb.length pc, .slice qA qb.length qc] 36)) w.heap.size (fun _ => True) (.slice (some ⟨w1.heap.size, 0, none⟩) 2 2) [⟨pA, pc, pb⟩, ⟨qA, qc, qb⟩]) := ⟨lit2_R w1 w.heap.size hb.size ⟨pA, pc, pb⟩ ⟨qA, qc, qb⟩⟩
    clear hb hy hc0 hy1 hc1 HL HB
    generalize w1.alloc (.cells #[.slice pA pb.length pc, .slice qA qb.length qc] 36) = W2 at HB2 HA2 ⊢
    have hcS2 := cell_of_row W2 S 2 _ _ _ ((HB2.out.block S (Array.getElem?_eq_some_iff.1 HSC.out).1).trans HSC.out)
    obtain ⟨m, hm⟩ : ∃ m, m = st.out.length := ⟨_, rfl⟩
    have HM := Aside0.mk hm
    rw [← hm] at hcS2 HOC hl
    clear hm
    have hu71 := Try.underlying71
    go_wp2_with (fail)
    go_loopg [5, 27] m (fun gg s5 s27 wr => ∃ kk : Nat, kk ≤ m ∧ m - kk ≤ gg ∧ s27 = .int .i64 kk ∧ Aside0 (Below w.heap.size w wr) ∧ Aside0 (kP.R 36 wr w.heap.size (fun _ => True) s5 ([⟨pA, pc, pb⟩, ⟨qA, qc, qb⟩] ++ writesP (st.out.take kk) i)))
    case atStart => exact ⟨0, Nat.zero_le _, by omega, rfl, HB2, ⟨by have := HA2.out; simpa [writesP] using this⟩⟩
    case round =>
      clear HB2 HA2 hcS2
      obtain ⟨kk, hkk, hg, rfl, BW, HO⟩ := hrel
      by_cases hlt : kk < m
      · have hltz : (kk : Int) < (m : Int) := by omega
        obtain ⟨ad, e0, hx0, hx1, hx2⟩ := at_O (Kd.C_below HOC.out BW.out) (kk : Int) (by omega) hltz
        cases e0
        simp only [Int.toNat_natCast] at hx0 hx1 hx2
        have HSU := Aside0.mk (writesP_succ st.out i kk (by rw [← HM.out]; exact hlt))
        have HLE : Aside0 ((writesP (st.out.take kk) i).length ≤ 1000000) := ⟨by unfold writesP; rw [List.length_map]; exact Nat.le_trans (List.length_filter_le _ _) (by rw [List.length_take]; omega)⟩
        generalize writesP (st.out.take kk) i = ws at HO HSU HLE
        generalize rd_O st.out kk = o at hx0 hx1 hx2 HSU
        obtain ⟨oid, ob, ⟨oA, oc, obb⟩⟩ := o
        simp only at hx0 hx1 hx2 HSU
        by_cases q : ob = i
        · have d0 : (ob == i) = true := by simpa using q
          rw [d0] at HSU
          have HO2 := Aside0.mk (Kd.R_alloc HO.out (.cells #[.int .i64 oid, .int .i64 ob, .slice oA obb.length oc] 71))
          have HBX := Aside0.mk (below_alloc BW.out (.cells #[.int .i64 oid, .int .i64 ob, .slice oA obb.length oc] 71))
          clear HO q
          go_wp2_with (first | ((with_reducible refine gate_builtin (b := .append) (xs := #[.tmp 35, .tmp 38]) rfl ?_); (try (refine gate_guard (by rfl) ?_; dsimp only)); at_builtin; refine Kd.R_append kP (w0 := w) w.heap.size rfl (.tmp 35) (.tmp 38) 22 36 (.slice none 0 0) 24 rfl Try.underlying22 info36 rfl (by decide) (by omega) u5 ([⟨pA, pc, pb⟩, ⟨qA, qc, qb⟩] ++ ws) (⟨oA, oc, obb⟩ : Pg) [.slice oA obb.length oc] (fun _ => True) (fun _ => False) rfl (congrArg (fun n => Value.slice (some ⟨n, 0, none⟩) 1 1) (size_a wr _).symm) ?aP (fun _ hk => hk.elim) ?aF ?aO ?aB ?aS ?aL ?_; (case aP => rfl); (case aB => exact HBX.out); (case aF => exact (fun _ _ => trivial)); (case aO => exact HO2.out); (case aS => exact (below_size HBX.out)); (case aL => have := HLE.out; simp; omega); intro v131 w29 ho hb hg_ hat; have n0_ := Aside0.mk hb; have n1_ := Aside0.mk ho; clear ho hb hg_ hat))
          go_roundg (m - (kk + 1))
          case measure => omega
          case rel => exact ⟨kk + 1, by omega, by omega, by go_num, n0_, ⟨by rw [HSU.out]; have := n1_.out; simpa using this⟩⟩
        · have d0 : (ob == i) = false := by simpa using q
          rw [d0] at HSU
          have HO2 := Aside0.mk (Kd.R_alloc HO.out (.cells #[.int .i64 oid, .int .i64 ob, .slice oA obb.length oc] 71))
          have HBX := Aside0.mk (below_alloc BW.out (.cells #[.int .i64 oid, .int .i64 ob, .slice oA obb.length oc] 71))
          clear HO q
          go_wp2_with (fail)
          go_roundg (m - (kk + 1))
          case measure => omega
          case rel => exact ⟨kk + 1, by omega, by omega, by go_num, HBX, ⟨by rw [HSU.out]; have := HO2.out; simpa using this⟩⟩
      · have hltz : ¬ (kk : Int) < (m : Int) := by omega
        have : kk = m := by omega
        subst this
        have HLE : Aside0 (([(⟨pA, pc, pb⟩ : Pg), ⟨qA, qc, qb⟩] ++ writesP (st.out.take kk) i).length ≤ 1000002) := ⟨by rw [List.length_append]; unfold writesP; rw [List.length_map]; have := List.length_filter_le (fun o : Ou => o.blk == i) (st.out.take kk); rw [List.length_take] at this; simp; omega⟩
        have HPK : Aside0 (∀ x ∈ ([(⟨pA, pc, pb⟩ : Pg), ⟨qA, qc, qb⟩] ++ writesP (st.out.take kk) i), Pok w x) := ⟨fun x hx => by
          rcases List.mem_append.1 hx with hx | hx
          · simp only [List.mem_cons, List.not_mem_nil, or_false] at hx
            rcases hx with rfl | rfl
            · exact HP1.out
            · exact HP2.out
          · obtain ⟨o, ho, rfl⟩ := List.mem_map.1 hx
            exact HP.out.2.2 o (List.mem_of_mem_take (List.mem_filter.1 ho).1)⟩
        have HDE : Aside0 (dedP ([(⟨pA, pc, pb⟩ : Pg), ⟨qA, qc, qb⟩] ++ writesP (st.out.take kk) i) [] = ch) := ⟨by rw [HCH.out, HM.out, List.take_length]⟩
        generalize ([(⟨pA, pc, pb⟩ : Pg), ⟨qA, qc, qb⟩] ++ writesP (st.out.take kk) i) = xs at HO HLE HPK HDE
        obtain ⟨A5, c5, e5⟩ := Kd.R_slice HO.out
        subst e5
        obtain ⟨n, hn⟩ : ∃ n, n = xs.length := ⟨_, rfl⟩
        have HN := Aside0.mk hn
        have HC5 := Aside0.mk (Kd.R_reads' HO.out).2.2
        have hnl := HLE.out
        rw [← hn] at HC5 hnl ⊢
        clear hn HO HLE
        obtain ⟨W3, hW3⟩ : ∃ W3, W3 = wr := ⟨_, rfl⟩
        subst hW3
        have HB3 := Aside0.mk (Below.refl W3.heap.size W3)
        have HNX := Aside0.mk (Kd.R_nil kP 36 W3 W3.heap.size (fun _ => True))
        have eg : ∀ args w, (callFunc 51 args).run Try.prog w = .ok (.enter 51 args) w := entered Try.func51 (by kernel_rfl) rfl
        go_wp2_with (fail)
        go_loopg [8, 43] n (fun gg s8 s43 wq => ∃ (jj : Nat) (ys : List Pg), jj ≤ n ∧ n - jj ≤ gg ∧ s43 = .int .i64 jj ∧ Aside0 (Below W3.heap.size W3 wq) ∧ Aside0 (kP.R 36 wq W3.heap.size (fun _ => True) s8 ys) ∧ Aside0 (dedP (xs.drop jj) ys = ch ∧ ys.length ≤ jj ∧ ∀ y ∈ ys, Pok w y))
        case atStart => exact ⟨0, [], Nat.zero_le _, by omega, rfl, HB3, HNX, ⟨HDE.out, Nat.le_refl _, fun y hy => by cases hy⟩⟩
        case round =>
          clear HB3 HNX HDE
          obtain ⟨jj, ys, hjj, hgj, rfl, BQ, HY, HI⟩ := hrel
          obtain ⟨A8, c8, e8⟩ := Kd.R_slice HY.out
          subst e8
          by_cases hlj : jj < n
          · have hljz : (jj : Int) < (n : Int) := by omega
            obtain ⟨ad8, e0, hx0⟩ := at_P (Kd.C_below HC5.out BQ.out) (jj : Int) (by omega) hljz
            cases e0
            simp only [Int.toNat_natCast] at hx0
            have HBW := Aside0.mk (BW.out.trans (BQ.out.mono BW.out.size))
            have hlx : jj < xs.length := by rw [← HN.out]; exact hlj
            have HD : Aside0 (xs.drop jj = rd_P xs jj :: xs.drop (jj + 1)) := ⟨by rw [rd_P_nat xs jj hlx]; exact List.drop_eq_getElem_cons hlx⟩
            have HPX : Aside0 (Pok w (rd_P xs jj)) := ⟨HPK.out _ (by rw [rd_P_nat xs jj hlx]; exact List.getElem_mem _)⟩
            clear hlx
            generalize rd_P xs jj = x at hx0 HD HPX
            obtain ⟨xA, xc, xb⟩ := x
            simp only at hx0
            have HB8 := Aside0.mk (below_alloc HBW.out (.cells #[.slice xA xb.length xc] 36))
            have HB9 := Aside0.mk (below_alloc BQ.out (.cells #[.slice xA xb.length xc] 36))
            have HY9 := Aside0.mk (Kd.R_alloc HY.out (.cells #[.slice xA xb.length xc] 36))
            have HBX : Aside0 ((wr.alloc (.cells #[.slice xA xb.length xc] 36)).cell? ⟨wr.heap.size, 0, none⟩ = some (Pg.v ⟨xA, xc, xb⟩)) := ⟨by have h_ := cell_of_row _ wr.heap.size 0 _ _ _ (heap_alloc_new wr (.cells #[.slice xA xb.length xc] 36)); rw [h_]; rfl⟩
            have HCT := Aside0.mk (containsP_calls (fun c => eqB xb c.b) 51 #[.pointer (some ⟨wr.heap.size, 0, none⟩)] eg A8 c8 ys (wr.alloc (.cells #[.slice xA xb.length xc] 36)) (Kd.R_reads' HY9.out).2.2 (by have := HI.out.2.1; omega)
              (fun W' c hc hb => (choices1_calls c ⟨xA, xc, xb⟩ wr.heap.size W' ((HI.out.2.2 c hc).below (HB8.out.trans (hb.mono HB8.out.size))) (HPX.out.below (HB8.out.trans (hb.mono HB8.out.size))) (pw_cell_below hb HBX.out)).mono (fun e w' (h : e = _ ∧ Below W'.heap.size W' w') => show e = _ ∧ Below (wr.alloc (.cells #[.slice xA xb.length xc] 36)).heap.size (wr.alloc (.cells #[.slice xA xb.length xc] 36)) w' from ⟨h.1, hb.trans (h.2.mono hb.size)⟩)))
            have HDD := HI.out.1
            rw [HD.out, dedP] at HDD
            cases hq : ys.any (fun c => eqB xb c.b) with
            | true =>
              rw [hq] at HCT
              rw [if_pos (by exact hq)] at HDD
              have HD2 := Aside0.mk HDD
              clear HDD hq HD
              go_wp2_with (fail)
              refine HCT.out.mono ?_
              rintro e w9 ⟨rfl, hb9⟩
              have HB10 := Aside0.mk (HB9.out.trans (hb9.mono HB9.out.size))
              have HY10 := Aside0.mk (Kd.R_below HY9.out hb9)
              have HI2 := Aside0.mk HI.out.2
              clear HCT hb9 HB9 HY9 HY hx0 HBX HI
              go_wp2_with (fail)
              go_roundg (n - (jj + 1))
              case measure => omega
              case rel => exact ⟨jj + 1, ys, by omega, by omega, by go_num, HB10, HY10, ⟨HD2.out, by have := HI2.out.1; omega, HI2.out.2⟩⟩
            | false =>
              rw [hq] at HCT
              rw [if_neg (by simp [hq])] at HDD
              have HD2 := Aside0.mk HDD
              clear HDD hq HD
              go_wp2_with (fail)
              refine HCT.out.mono ?_
              rintro e w9 ⟨rfl, hb9⟩
              have hbx := (hb9.cell (World.block_lt_of_cell? _ _ HBX.out)).trans HBX.out
              simp only [Pg.v] at hbx
              have HB10 := Aside0.mk (HB9.out.trans (hb9.mono HB9.out.size))
              have HY10 := Aside0.mk (Kd.R_below HY9.out hb9)
              have HI2 := Aside0.mk HI.out.2
              clear HCT hb9 HB9 HY9 HY hx0 HBX HI
              go_wp2_with (first | ((with_reducible refine gate_builtin (b := .append) (xs := #[.tmp 51, .tmp 53]) rfl ?_); (try (refine gate_guard (by rfl) ?_; dsimp only)); at_builtin; refine Kd.R_append kP (w0 := W3) W3.heap.size rfl (.tmp 51) (.tmp 53) 22 36 (.slice none 0 0) 24 rfl Try.underlying22 info36 rfl (by decide) (by omega) (.slice A8 ys.length c8) ys (⟨xA, xc, xb⟩ : Pg) [.slice xA xb.length xc] (fun _ => True) (fun _ => False) rfl rfl ?aP (fun _ hk => hk.elim) ?aF ?aO ?aB ?aS ?aL ?_; (case aP => rfl); (case aB => exact HB10.out); (case aF => exact (fun _ _ => trivial)); (case aO => exact HY10.out); (case aS => exact (below_size HB10.out)); (case aL => have := HI2.out.1; omega); intro v131 w29 ho hb hg_ hat; have n0_ := Aside0.mk hb; have n1_ := Aside0.mk ho; clear ho hb hg_ hat))
              go_roundg (n - (jj + 1))
              case measure => omega
              case rel =>
                refine ⟨jj + 1, ys ++ [⟨xA, xc, xb⟩], by omega, by omega, by go_num, n0_, n1_, ⟨HD2.out, by have := HI2.out.1; simp; omega, fun y hy => ?_⟩⟩
                rcases List.mem_append.1 hy with hy | hy
                · exact HI2.out.2 y hy
                · rw [List.mem_singleton.1 hy]; exact HPX.out
          · have hljz : ¬ (jj : Int) < (n : Int) := by omega
            have : jj = n := by omega
            subst this
            have HE : Aside0 (ys = ch) := ⟨by have := HI.out.1; rw [HN.out, List.drop_length] at this; exact this⟩
            clear HI
            go_wp2_with (fail)
            go_ret
            exact ⟨_, rfl, by rw [← HE.out]; exact Kd.R_lower HY.out BW.out.size, BW.out.trans (BQ.out.mono BW.out.size)⟩

def choicesL (st : StL) (i : Int) : List (List Int) := dedL ([rd_L1 st.firm i, rd_L1 (latestL st) i] ++ writesL st.out i) []
theorem rd_P_b (l : List Pg) (i : Int) : (rd_P l i).b = rd_L1 (l.map Pg.b) i := by
  unfold rd_P rd_L1
  rw [List.getD_eq_getElem?_getD, List.getD_eq_getElem?_getD, List.getElem?_map]
  cases l[i.toNat]? <;> rfl
theorem choicesP_b {n j : Nat} {st : St} (hG : Good n j st) (i : Int) (h0 : 0 ≤ i) (h1 : i < n) : (choicesP st i).map Pg.b = choicesL st.l i := by
  unfold choicesP choicesL
  rw [dedP_map, List.map_append, writesP_map]
  have e1 : (latS st i).b = rd_L1 (latestL st.l) i := by
    obtain ⟨k, rfl⟩ : ∃ k : Nat, i = k := ⟨i.toNat, by omega⟩
    rw [latS_b hG k (by omega), rd_P_b, rd_P_b, rd_L1_nat _ k (by rw [List.length_map]; have := hG.1.2.1; omega), rd_L1_nat _ k (by rw [List.length_map]; have := hG.1.1; omega)]
    rw [rd_L1_nat _ k (by unfold latestL St.l; rw [List.length_zipWith, List.length_map, List.length_map]; have := hG.1.1; have := hG.1.2.1; omega)]
    unfold latestL St.l
    rw [List.getElem_zipWith]
  simp only [List.map_cons, List.map_nil, e1, rd_P_b]
  rfl
theorem dedL_mem : ∀ (l out : List (List Int)) (b : List Int), b ∈ dedL l out → b ∈ l ∨ b ∈ out
  | [], out, b, h => .inr h
  | x :: l, out, b, h => by
    rw [dedL] at h
    split at h
    · rcases dedL_mem l out b h with h | h
      · exact .inl (List.mem_cons_of_mem _ h)
      · exact .inr h
    · rcases dedL_mem l _ b h with h | h
      · exact .inl (List.mem_cons_of_mem _ h)
      · rcases List.mem_append.1 h with h | h
        · exact .inr h
        · exact .inl (by rw [List.mem_singleton.1 h]; exact List.mem_cons_self)
theorem dedL_len : ∀ (l out : List (List Int)), (dedL l out).length ≤ l.length + out.length
  | [], out => by simp [dedL]
  | x :: l, out => by
    rw [dedL]
    split
    · have := dedL_len l out; rw [List.length_cons]; omega
    · have := dedL_len l (out ++ [x]); rw [List.length_append, List.length_singleton] at this; rw [List.length_cons]; omega
theorem rd_L1_mem {l : List (List Int)} {i : Int} (h0 : 0 ≤ i) (h1 : i < l.length) : rd_L1 l i ∈ l := by
  obtain ⟨k, rfl⟩ : ∃ k : Nat, i = k := ⟨i.toNat, by omega⟩
  rw [rd_L1_nat l k (by omega)]; exact List.getElem_mem _
theorem latestL_length {n : Nat} {st : StL} (h : WfL n st) : (latestL st).length = n := by
  unfold latestL; rw [List.length_zipWith, h.1, h.2.1, Nat.min_self]
theorem choicesL_len {n : Nat} {st : StL} (h : WfL n st) (i : Int) (h0 : 0 ≤ i) (h1 : i < n) : ∀ b ∈ choicesL st i, b.length = 32 := by
  intro b hb
  rcases dedL_mem _ _ _ hb with hb | hb
  · rcases List.mem_append.1 hb with hb | hb
    · simp only [List.mem_cons, List.not_mem_nil, or_false] at hb
      rcases hb with rfl | rfl
      · exact h.2.2.1 _ (rd_L1_mem h0 (by rw [h.1]; exact h1))
      · exact latestL_len h _ (rd_L1_mem h0 (by rw [latestL_length h]; exact h1))
    · obtain ⟨o, ho, rfl⟩ := List.mem_map.1 hb
      exact (h.2.2.2.2 o (List.mem_filter.1 ho).1).1
  · cases hb
theorem dedP_mem : ∀ (l out : List Pg) (b : Pg), b ∈ dedP l out → b ∈ l ∨ b ∈ out
  | [], out, b, h => .inr h
  | x :: l, out, b, h => by
    rw [dedP] at h
    split at h
    · rcases dedP_mem l out b h with h | h
      · exact .inl (List.mem_cons_of_mem _ h)
      · exact .inr h
    · rcases dedP_mem l _ b h with h | h
      · exact .inl (List.mem_cons_of_mem _ h)
      · rcases List.mem_append.1 h with h | h
        · exact .inr h
        · exact .inl (by rw [List.mem_singleton.1 h]; exact List.mem_cons_self)
theorem choicesP_pok {w : World} {st : St} (hP : PokSt w st) (i : Int) : ∀ x ∈ choicesP st i, Pok w x := by
  intro x hx
  rcases dedP_mem _ _ _ hx with hx | hx
  · rcases List.mem_append.1 hx with hx | hx
    · simp only [List.mem_cons, List.not_mem_nil, or_false] at hx
      rcases hx with rfl | rfl
      · exact rd_P_pok hP.1 i
      · exact latS_pok hP i
    · obtain ⟨o, ho, rfl⟩ := List.mem_map.1 hx
      exact hP.2.2 o (List.mem_filter.1 ho).1
  · cases hx
theorem choicesL_length (st : StL) (i : Int) : (choicesL st i).length ≤ st.out.length + 2 := by
  unfold choicesL
  have := dedL_len ([rd_L1 st.firm i, rd_L1 (latestL st) i] ++ writesL st.out i) []
  have h2 : (writesL st.out i).length ≤ st.out.length := by unfold writesL; rw [List.length_map]; exact List.length_filter_le _ _
  simp only [List.length_append, List.length_cons, List.length_nil] at this
  omega

def durable_Choices.f (l0 : List (List Int)) (l1 : List S38) (i : Int) : Option (List (List Int) × Int) := if l0.length ≤ 1000000 ∧ l1.length ≤ 900000 then some (if (afterL l0 l1).1 ≠ 0 then ([], (afterL l0 l1).1) else if i < 0 ∨ (l0.length : Int) ≤ i then ([], 2) else (choicesL (afterL l0 l1).2 i, 0)) else none
set_option maxHeartbeats 2000000 in
theorem durable_Choices.calls (A0 : Option Addr) (c0 : Nat) (l0 : List (List Int)) (A1 : Option Addr) (c1 : Nat) (l1 : List S38) (a2 : Int) (r1 : List (List Int)) (r2 : Int) (w : World) (hr0 : Kd.C (Kd.slice 5 (Kd.int .u8)) w A0 l0.length l0) (hc0 : l0.length ≤ c0) (hr1 : Kd.C k38 w A1 l1.length l1) (hc1 : l1.length ≤ c1) (h : durable_Choices.f l0 l1 a2 = some (r1, r2)) :
    Calls Try.prog 21 #[.slice A0 l0.length c0, .slice A1 l1.length c1, .int .i64 a2] w fun e w' => ∃ v0_ : Value, e = .returned (.tuple #[v0_, .int .i64 r2]) ∧ Kd.S (Kd.slice 5 (Kd.int .u8)) 36 w' w.heap.size (fun _ => True) v0_ r1 ∧ Below w.heap.size w w' := by
  unfold durable_Choices.f at h
  split at h
  · rename_i hn
    have HA := Aside0.mk (after_ev A0 c0 l0 A1 c1 l1 w hr0 hr1 hn.1 (by omega))
    injection h with h
    have HN := Aside0.mk hn
    have HW := Aside0.mk (afterL_wf (l0 := l0) (l1 := l1))
    clear hr0 hr1 hc0 hc1 hn
    have HH := Aside0.mk h
    clear h
    generalize hAL : afterL l0 l1 = aL at HA HH HW
    obtain ⟨er, sl⟩ := aL
    simp only at HA HH HW
    clear hAL
    generalize hnn : l0.length = n at HA HN HW HH ⊢
    go_enter Try.func21, Try.ntmps21
    go_wp2_with (fail)
    refine HA.out.mono ?_
    rintro e w1 ⟨hb, ⟨h1, rfl⟩ | ⟨h1, S, st, rfl, hs, hl, hG, hP⟩⟩
    · have hh := HH.out
      rw [if_pos h1] at hh
      simp only [Prod.mk.injEq] at hh
      obtain ⟨rfl, rfl⟩ := hh
      have d0 : (er != 0) = true := bne_iff_ne.mpr h1
      have HB := Aside0.mk hb
      clear HA HH h1 hb
      go_wp2_with (fail)
      go_ret2
      exact ⟨_, rfl, Kd.S_nil _ _ _ _ _, HB.out⟩
    · subst h1
      have hh := HH.out
      rw [if_neg (by decide)] at hh
      by_cases q0 : a2 < 0
      · have d1 := decide_eq_true q0
        rw [if_pos (.inl q0)] at hh
        simp only [Prod.mk.injEq] at hh
        obtain ⟨rfl, rfl⟩ := hh
        have HB := Aside0.mk hb
        clear HA HH hb hs hG hP hl HW q0
        go_wp2_with (fail)
        go_ret2
        exact ⟨_, rfl, Kd.S_nil _ _ _ _ _, HB.out⟩
      · have d1 := decide_eq_false q0
        by_cases q1 : (n : Int) ≤ a2
        · have d2 := decide_eq_true q1
          rw [if_pos (.inr q1)] at hh
          simp only [Prod.mk.injEq] at hh
          obtain ⟨rfl, rfl⟩ := hh
          have HB := Aside0.mk hb
          clear HA HH hb hs hG hP hl HW q0 q1
          go_wp2_with (fail)
          go_ret2
          exact ⟨_, rfl, Kd.S_nil _ _ _ _ _, HB.out⟩
        · have d2 := decide_eq_false q1
          rw [if_neg (fun h => h.elim q0 q1)] at hh
          simp only [Prod.mk.injEq] at hh
          obtain ⟨rfl, rfl⟩ := hh
          have HB := Aside0.mk hb
          have hm := choicesP_b hG a2 (by omega) (by omega)
          rw [hl] at hm
          have hwf := HW.out rfl
          have hlN := map_len hm (fun b hb => by rw [choicesL_len hwf a2 (by omega) (by omega) b hb]; decide)
          have HPK := Aside0.mk (choicesP_pok hP a2)
          have hP1 : PokSt w1 st := ⟨fun p hp => (hP.1 p hp).below hb, fun p hp => (hP.2.1 p hp).below hb, fun o ho => (hP.2.2 o ho).below hb⟩
          have hlen : (choicesP st a2).length ≤ 1000000 := by
            have h3 : (choicesP st a2).length = (choicesL sl a2).length := by rw [← hm, List.length_map]
            have h4 := choicesL_length sl a2
            have h5 : sl.out.length = st.out.length := by rw [← hl]; simp [St.l]
            have := hG.1.2.2.1
            have := HN.out.2
            omega
          have HC := Aside0.mk (choices_calls w S st a2 w1 hs hP1 (by omega) (by rw [hG.1.2.1]; omega) (by rw [hG.1.1, hG.1.2.1]) (by have := hG.1.2.2.1; have := HN.out.2; omega))
          have HM := Aside0.mk hm
          have HLN := Aside0.mk hlN
          have HLE := Aside0.mk hlen
          clear HA HH hb hs hG hP hl HW q0 q1 hm hwf hlN hlen hP1
          generalize choicesP st a2 = xs at HC HM HLN HLE HPK
          go_wp2_with (fail)
          refine HC.out.mono ?_
          rintro e w2 ⟨v2, rfl, ho2, hb2⟩
          obtain ⟨A2, c2, e2⟩ := Kd.R_slice ho2
          subst e2
          have HB2 := Aside0.mk (HB.out.trans (hb2.mono HB.out.size))
          have HCO := Aside0.mk (copiesP_calls A2 c2 xs w2 (Kd.R_reads' ho2).2.2 (Kd.R_reads' ho2).2.1 (fun p hp => (HPK.out p hp).below HB2.out) HLE.out HLN.out)
          rw [HM.out] at HCO
          clear HC ho2 hb2
          go_wp2_with (fail)
          refine HCO.out.mono ?_
          rintro e w3 ⟨v3, rfl, ho3, hb3⟩
          have n0_ := Aside0.mk (Kd.S_lower ho3 HB2.out.size)
          have n1_ := Aside0.mk (below_step HB2.out hb3)
          clear HCO ho3 hb3
          go_wp2_with (fail)
          go_ret2
          exact ⟨_, rfl, n0_.out, n1_.out⟩
  · cases h

/-- What Ordered knows of a history: the first write, the second one, the first one is complete, a flush after that, ordered. -/
structure Od where
  a : Bool
  b : Bool
  d : Bool
  f : Bool
  o : Bool
def odS (a b : Int) (s : Od) (x : S38) : Od :=
  if x.f0 = 1 then ⟨s.a || x.f1 == a, s.b || x.f1 == b, s.d, s.f, if x.f1 == b then s.f else s.o⟩
  else if x.f0 = 2 ∧ x.f1 = a then ⟨s.a, s.b, true, s.f, s.o⟩
  else if x.f0 = 3 then ⟨s.a, s.b, s.d, s.f || s.d, s.o⟩
  else s
def odF (l : List S38) (a b : Int) : Od := l.foldl (odS a b) ⟨false, false, false, false, false⟩
def durable_Ordered.f (l0 : List (List Int)) (l1 : List S38) (a b : Int) : Option (Bool × Int) := if l0.length ≤ 1000000 ∧ l1.length ≤ 1000000 then some (if (afterL l0 l1).1 ≠ 0 then (false, (afterL l0 l1).1) else if (odF l1 a b).a = true ∧ (odF l1 a b).b = true then ((odF l1 a b).o, 0) else (false, 6)) else none
theorem rd_T38_nat (l : List S38) (i : Nat) (h : i < l.length) : rd_T38 l i = l[i] := by unfold rd_T38; simp [List.getD_eq_getElem?_getD, h]

set_option maxHeartbeats 4000000 in
theorem durable_Ordered.calls (A0 : Option Addr) (c0 : Nat) (l0 : List (List Int)) (A1 : Option Addr) (c1 : Nat) (l1 : List S38) (a2 : Int) (a3 : Int) (r1 : Bool) (r2 : Int) (w : World) (hr0 : Kd.C (Kd.slice 5 (Kd.int .u8)) w A0 l0.length l0) (hc0 : l0.length ≤ c0) (hr1 : Kd.C k38 w A1 l1.length l1) (hc1 : l1.length ≤ c1) (h : durable_Ordered.f l0 l1 a2 a3 = some (r1, r2)) :
    Calls Try.prog 19 #[.slice A0 l0.length c0, .slice A1 l1.length c1, .int .i64 a2, .int .i64 a3] w fun e w' => e = .returned (.tuple #[.bool r1, .int .i64 r2]) ∧ Below w.heap.size w w' := by
  unfold durable_Ordered.f at h
  split at h
  · rename_i hn
    have HA := Aside0.mk (durable_Check.calls A0 c0 l0 A1 c1 l1 (afterL l0 l1).1 w hr0 hc0 hr1 hc1 (by unfold durable_Check.f; rw [if_pos hn]))
    injection h with h
    have HR1 := Aside0.mk hr1
    have hn1 := hn.2
    clear hr0 hr1 hc0 hc1 hn
    generalize (afterL l0 l1).1 = er at HA h
    have HH := Aside0.mk h
    clear h
    obtain ⟨n, hnn⟩ : ∃ n, n = l1.length := ⟨_, rfl⟩
    have HN := Aside0.mk hnn
    rw [← hnn] at HA HR1 hn1 ⊢
    clear hnn
    have hu38 := Try.underlying38
    by_cases h1 : er ≠ 0
    · have hh := HH.out
      rw [if_pos h1] at hh
      simp only [Prod.mk.injEq] at hh
      obtain ⟨rfl, rfl⟩ := hh
      have d0 : (er != 0) = true := bne_iff_ne.mpr h1
      clear HH h1
      go_enter Try.func19, Try.ntmps19
      go_wp2_with (fail)
      refine HA.out.mono ?_
      rintro e w1 ⟨rfl, hb⟩
      clear HA
      go_wp2_with (fail)
      go_ret2
      exact ⟨rfl, hb⟩
    · have h1' : er = 0 := by omega
      subst h1'
      have hh := HH.out
      rw [if_neg (by decide)] at hh
      have HH2 := Aside0.mk hh
      clear hh HH h1
      go_enter Try.func19, Try.ntmps19
      go_wp2_with (fail)
      refine HA.out.mono ?_
      rintro e w1 ⟨rfl, hb⟩
      have HB := Aside0.mk hb
      clear HA hb
      go_wp2_with (fail)
      have HBK : Aside0 ((w1.alloc (.cells #[.bool false, .bool false] 46)).heap[w1.heap.size]? = some (.cells #[.bool false, .bool false] 46 (0, 0))) := ⟨heap_alloc_new w1 _⟩
      have HB1 := Aside0.mk (below_alloc HB.out (.cells #[.bool false, .bool false] 46))
      have HS := Aside0.mk HB.out.size
      clear HB
      generalize w1.alloc (.cells #[.bool false, .bool false] 46) = W2 at HBK HB1 ⊢
      generalize w1.heap.size = B at HBK HS ⊢
      go_loopg [12, 13, 14, 26] n (fun gg s12 s13 s14 s26 wr => ∃ (kk : Nat) (s : Od), kk ≤ n ∧ n - kk ≤ gg ∧ s26 = .int .i64 kk ∧ s12 = .bool s.d ∧ s13 = .bool s.f ∧ s14 = .bool s.o ∧ Aside0 (Below w.heap.size w wr) ∧ Aside0 (wr.heap[B]? = some (.cells #[.bool s.a, .bool s.b] 46 (0, 0))) ∧ Aside0 ((l1.drop kk).foldl (odS a2 a3) s = odF l1 a2 a3))
      case atStart => exact ⟨0, ⟨false, false, false, false, false⟩, Nat.zero_le _, by omega, rfl, rfl, rfl, rfl, HB1, HBK, ⟨rfl⟩⟩
      case round =>
        clear HB1 HBK
        obtain ⟨kk, s, hkk, hg, rfl, rfl, rfl, rfl, BW, HK, HF⟩ := hrel
        have hcA := cell_of_row wr B 0 _ _ _ HK.out
        have hcB := cell_of_row wr B 1 _ _ _ HK.out
        have hfA := frozen_of_row wr B 0 _ _ HK.out
        have hfB := frozen_of_row wr B 1 _ _ HK.out
        by_cases hlt : kk < n
        · have hltz : (kk : Int) < (n : Int) := by omega
          obtain ⟨ad, A3, c3, e0, hx0, hx1, hx2, hx3, _, _⟩ := at_T38 (Kd.C_below HR1.out BW.out) (kk : Int) (by omega) hltz
          cases e0
          simp only [Int.toNat_natCast] at hx0 hx1 hx2 hx3
          have hD : l1.drop kk = rd_T38 l1 kk :: l1.drop (kk + 1) := by have hk_ : kk < l1.length := (by rw [← HN.out]; exact hlt); rw [rd_T38_nat l1 kk hk_]; exact List.drop_eq_getElem_cons hk_
          have hF := HF.out
          rw [hD, List.foldl_cons] at hF
          have HF2 := Aside0.mk hF
          clear hF hD HF
          have hzA := fun o => pw_cell_below (below_alloc (Below.refl _ wr) o) hcA
          have hzB := fun o => pw_cell_below (below_alloc (Below.refl _ wr) o) hcB
          generalize rd_T38 l1 kk = x at hx0 hx1 hx2 hx3 HF2
          obtain ⟨xk, xi, xb, xd⟩ := x
          simp only at hx0 hx1 hx2 hx3
          obtain ⟨X, hX⟩ : ∃ X, X = Obj.cells #[.int .i64 xk, .int .i64 xi, .int .i64 xb, .slice A3 xd.length c3] 38 := ⟨_, rfl⟩
          have HKX : Aside0 ((wr.alloc (.cells #[.int .i64 xk, .int .i64 xi, .int .i64 xb, .slice A3 xd.length c3] 38)).heap[B]? = some (.cells #[.bool s.a, .bool s.b] 46 (0, 0))) := ⟨(Below.heap_alloc wr _ B (Array.getElem?_eq_some_iff.1 HK.out).1).trans HK.out⟩
          have HBX := Aside0.mk (below_alloc BW.out (.cells #[.int .i64 xk, .int .i64 xi, .int .i64 xb, .slice A3 xd.length c3] 38))
          clear X hX
          have hBne : B ≠ wr.heap.size := by have h_ := (Array.getElem?_eq_some_iff.1 HK.out).1; omega
          have hBne' := Ne.symm hBne
          have hgA := frozen_of_row _ B 0 _ _ HKX.out
          have hgB := frozen_of_row _ B 1 _ _ HKX.out
          by_cases k1 : xk = 1
          · subst k1
            by_cases b1 : xi = a3
            · have d1 : (xi == a3) = true := by simpa using b1
              by_cases b2 : xi = a2
              · have d2 : (xi == a2) = true := by simpa using b2
                clear b1 b2
                have HF3 : Aside0 ((l1.drop (kk + 1)).foldl (odS a2 a3) ⟨true, true, s.d, s.f, s.f⟩ = odF l1 a2 a3) := ⟨by have h_ := HF2.out; unfold odS at h_; simp only [d1, d2, if_pos, Bool.or_true] at h_; exact h_⟩
                clear HF2
                go_wp2_with (fail)
                go_roundg (n - (kk + 1))
                case measure => omega
                case rel => exact ⟨kk + 1, ⟨true, true, s.d, s.f, s.f⟩, by omega, by omega, by go_num, rfl, rfl, rfl, ⟨(below_set ((below_set (HBX.out) HS.out)) HS.out)⟩, ⟨(heap_setCell_same _ B 0 _ _ (.bool true) ((heap_setCell_same _ B 1 _ _ (.bool true) (HKX.out))))⟩, HF3⟩
              · have d2 : (xi == a2) = false := by simpa using b2
                clear b1 b2
                have HF3 : Aside0 ((l1.drop (kk + 1)).foldl (odS a2 a3) ⟨s.a, true, s.d, s.f, s.f⟩ = odF l1 a2 a3) := ⟨by have h_ := HF2.out; unfold odS at h_; simp only [d1, d2, if_pos, Bool.or_true, Bool.or_false] at h_; exact h_⟩
                clear HF2
                go_wp2_with (fail)
                go_roundg (n - (kk + 1))
                case measure => omega
                case rel => exact ⟨kk + 1, ⟨s.a, true, s.d, s.f, s.f⟩, by omega, by omega, by go_num, rfl, rfl, rfl, ⟨(below_set (HBX.out) HS.out)⟩, ⟨(heap_setCell_same _ B 1 _ _ (.bool true) (HKX.out))⟩, HF3⟩
            · have d1 : (xi == a3) = false := by simpa using b1
              by_cases b2 : xi = a2
              · have d2 : (xi == a2) = true := by simpa using b2
                clear b1 b2
                have HF3 : Aside0 ((l1.drop (kk + 1)).foldl (odS a2 a3) ⟨true, s.b, s.d, s.f, s.o⟩ = odF l1 a2 a3) := ⟨by have h_ := HF2.out; unfold odS at h_; simp only [d1, d2, if_pos, Bool.or_true, Bool.or_false, if_neg, Bool.false_eq_true] at h_; exact h_⟩
                clear HF2
                go_wp2_with (fail)
                go_roundg (n - (kk + 1))
                case measure => omega
                case rel => exact ⟨kk + 1, ⟨true, s.b, s.d, s.f, s.o⟩, by omega, by omega, by go_num, rfl, rfl, rfl, ⟨(below_set (HBX.out) HS.out)⟩, ⟨(heap_setCell_same _ B 0 _ _ (.bool true) (HKX.out))⟩, HF3⟩
              · have d2 : (xi == a2) = false := by simpa using b2
                clear b1 b2
                have HF3 : Aside0 ((l1.drop (kk + 1)).foldl (odS a2 a3) ⟨s.a, s.b, s.d, s.f, s.o⟩ = odF l1 a2 a3) := ⟨by have h_ := HF2.out; unfold odS at h_; simp only [d1, d2, if_pos, Bool.or_false, if_neg, Bool.false_eq_true] at h_; exact h_⟩
                clear HF2
                go_wp2_with (fail)
                go_roundg (n - (kk + 1))
                case measure => omega
                case rel => exact ⟨kk + 1, ⟨s.a, s.b, s.d, s.f, s.o⟩, by omega, by omega, by go_num, rfl, rfl, rfl, ⟨HBX.out⟩, ⟨HKX.out⟩, HF3⟩
          · have e1 : (xk == 1) = false := by simpa using k1
            by_cases k2 : xk = 2
            · subst k2
              by_cases b2 : xi = a2
              · have d2 : (xi == a2) = true := by simpa using b2
                have HF3 : Aside0 ((l1.drop (kk + 1)).foldl (odS a2 a3) ⟨s.a, s.b, true, s.f, s.o⟩ = odF l1 a2 a3) := ⟨by have h_ := HF2.out; unfold odS at h_; rw [if_neg (by show ¬ (2 : Int) = 1; decide), if_pos ⟨rfl, b2⟩] at h_; exact h_⟩
                clear HF2; (try clear b2)
                go_wp2_with (fail)
                go_roundg (n - (kk + 1))
                case measure => omega
                case rel => exact ⟨kk + 1, ⟨s.a, s.b, true, s.f, s.o⟩, by omega, by omega, by go_num, rfl, rfl, rfl, ⟨HBX.out⟩, ⟨HKX.out⟩, HF3⟩
              · have d2 : (xi == a2) = false := by simpa using b2
                have HF3 : Aside0 ((l1.drop (kk + 1)).foldl (odS a2 a3) s = odF l1 a2 a3) := ⟨by have h_ := HF2.out; unfold odS at h_; rw [if_neg (by show ¬ (2 : Int) = 1; decide), if_neg (fun h => b2 h.2), if_neg (by show ¬ (2 : Int) = 3; decide)] at h_; exact h_⟩
                clear HF2; (try clear b2)
                go_wp2_with (fail)
                go_roundg (n - (kk + 1))
                case measure => omega
                case rel => exact ⟨kk + 1, s, by omega, by omega, by go_num, rfl, rfl, rfl, ⟨HBX.out⟩, ⟨HKX.out⟩, HF3⟩
            · have e2 : (xk == 2) = false := by simpa using k2
              by_cases k3 : xk = 3
              · subst k3
                cases hsf : s.f with
                | true =>
                  have hsf' := hsf
                  have HF3 : Aside0 ((l1.drop (kk + 1)).foldl (odS a2 a3) ⟨s.a, s.b, s.d, true || s.d, s.o⟩ = odF l1 a2 a3) := ⟨by have h_ := HF2.out; unfold odS at h_; rw [if_neg (by show ¬ (3 : Int) = 1; decide), if_neg (fun h => absurd h.1 (by show ¬ (3 : Int) = 2; decide)), if_pos rfl, hsf] at h_; exact h_⟩
                  clear HF2; (try clear b2)
                  go_wp2_with (fail)
                  go_roundg (n - (kk + 1))
                  case measure => omega
                  case rel => exact ⟨kk + 1, ⟨s.a, s.b, s.d, true || s.d, s.o⟩, by omega, by omega, by go_num, rfl, rfl, rfl, ⟨HBX.out⟩, ⟨HKX.out⟩, HF3⟩
                | false =>
                  have hsf' := hsf
                  have HF3 : Aside0 ((l1.drop (kk + 1)).foldl (odS a2 a3) ⟨s.a, s.b, s.d, false || s.d, s.o⟩ = odF l1 a2 a3) := ⟨by have h_ := HF2.out; unfold odS at h_; rw [if_neg (by show ¬ (3 : Int) = 1; decide), if_neg (fun h => absurd h.1 (by show ¬ (3 : Int) = 2; decide)), if_pos rfl, hsf] at h_; exact h_⟩
                  clear HF2; (try clear b2)
                  go_wp2_with (fail)
                  go_roundg (n - (kk + 1))
                  case measure => omega
                  case rel => exact ⟨kk + 1, ⟨s.a, s.b, s.d, false || s.d, s.o⟩, by omega, by omega, by go_num, rfl, rfl, rfl, ⟨HBX.out⟩, ⟨HKX.out⟩, HF3⟩
              · have e3 : (xk == 3) = false := by simpa using k3
                have HF3 : Aside0 ((l1.drop (kk + 1)).foldl (odS a2 a3) s = odF l1 a2 a3) := ⟨by have h_ := HF2.out; unfold odS at h_; rw [if_neg k1, if_neg (fun h => k2 h.1), if_neg k3] at h_; exact h_⟩
                clear HF2; (try clear b2)
                go_wp2_with (fail)
                go_roundg (n - (kk + 1))
                case measure => omega
                case rel => exact ⟨kk + 1, s, by omega, by omega, by go_num, rfl, rfl, rfl, ⟨HBX.out⟩, ⟨HKX.out⟩, HF3⟩
        · have hltz : ¬ (kk : Int) < (n : Int) := by omega
          have : kk = n := by omega
          subst this
          have hF := HF.out
          rw [HN.out, List.drop_length, List.foldl_nil] at hF
          have hH := HH2.out
          rw [← hF] at hH
          clear HF HH2 hF HK
          obtain ⟨sa, sb, sd, sf, so⟩ := s
          simp only at hH hcA hcB
          cases sa with
          | false =>
            simp at hH
            obtain ⟨rfl, rfl⟩ := hH
            go_wp2_with (fail)
            go_ret2
            exact ⟨rfl, BW.out⟩
          | true =>
            cases sb with
            | false =>
              simp at hH
              obtain ⟨rfl, rfl⟩ := hH
              go_wp2_with (fail)
              go_ret2
              exact ⟨rfl, BW.out⟩
            | true =>
              simp at hH
              obtain ⟨rfl, rfl⟩ := hH
              go_wp2_with (fail)
              go_ret2
              exact ⟨rfl, BW.out⟩
  · cases h

/-- One content for each block, in every way. -/
def prodL {α : Type} : List (List α) → List (List α)
  | [] => [[]]
  | c :: rest => c.flatMap (fun x => (prodL rest).map (fun t => x :: t))
/-- A slice value. -/
structure Rw where
  A : Option Addr
  n : Nat
  c : Nat
def Rw.v (r : Rw) : Value := .slice r.A r.n r.c
def kR : Kd Rw := Kd.scalar Rw.v (fun _ => rfl)
def zR : Rw := ⟨none, 0, 0⟩
def rd_R (xs : List Rw) (i : Int) : Rw := xs.getD i.toNat zR
theorem at_R {w : World} {A : Option Addr} {n : Nat} {xs : List Rw} (h : Kd.C kR w A n xs) (i : Int) (h0 : 0 ≤ i) (h1 : i < n) : ∃ ad, A = some ad ∧ w.cell? (ad.add i.toNat) = some (.slice (rd_R xs i).A (rd_R xs i).n (rd_R xs i).c) := by
  obtain ⟨ad, c, e, _, hK, hc0⟩ := Kd.C_get h zR i h0 h1
  have hc : ∀ j u, c[j]? = some u → w.cell? (ad.add (i.toNat * 1 + j)) = some u := hc0
  have : c = [Rw.v (rd_R xs i)] := hK
  subst this
  exact ⟨ad, e, by have hq := hc 0 _ rfl; rwa [Nat.mul_one, Nat.add_zero] at hq⟩
theorem rd_R_nat (l : List Rw) (i : Nat) (h : i < l.length) : rd_R l i = l[i] := by unfold rd_R; simp [List.getD_eq_getElem?_getD, h]
def rd_LP (xs : List (List Pg)) (i : Int) : List Pg := xs.getD i.toNat []
theorem rd_LP_nat (l : List (List Pg)) (i : Nat) (h : i < l.length) : rd_LP l i = l[i] := by unfold rd_LP; simp [List.getD_eq_getElem?_getD, h]
/-- All of W0's blocks but two are as they were. -/
def KB (W0 w : World) (po pi : Nat) : Prop := w.os = W0.os ∧ w.tape = W0.tape ∧ w.output = W0.output ∧ W0.heap.size ≤ w.heap.size ∧ ∀ k, k < W0.heap.size → k ≠ po → k ≠ pi → w.heap[k]? = W0.heap[k]?
theorem KB.refl (W0 : World) (po pi : Nat) : KB W0 W0 po pi := ⟨rfl, rfl, rfl, Nat.le_refl _, fun _ _ _ _ => rfl⟩
theorem KB.below {W0 w w1 : World} {po pi : Nat} (h : KB W0 w po pi) (hb : Below W0.heap.size w w1) : KB W0 w1 po pi :=
  ⟨hb.os.trans h.1, hb.tape.trans h.2.1, hb.output.trans h.2.2.1, Nat.le_trans h.2.2.2.1 hb.size, fun k hk h1 h2 => (hb.block k hk).trans (h.2.2.2.2 k hk h1 h2)⟩
theorem KB.set {W0 w : World} {po pi g j : Nat} (h : KB W0 w po pi) (hg : g = po ∨ g = pi) (v : Value) : KB W0 (w.setCell ⟨g, j, none⟩ v) po pi :=
  ⟨h.1, h.2.1, h.2.2.1, by simpa [World.setCell] using h.2.2.2.1, fun k hk h1 h2 => (heap_setCell_other w ⟨g, j, none⟩ k v (by rcases hg with rfl | rfl; exact h1; exact h2)).trans (h.2.2.2.2 k hk h1 h2)⟩
theorem R_low {α : Type} {d : Kd α} {e base : Nat} {w : World} {ok : Nat → Prop} {v : Value} {xs : List α} (h : d.R e w base ok v xs) {g j : Nat} (hg : g < base) (u : Value) : d.R e (w.setCell ⟨g, j, none⟩ u) base ok v xs :=
  Kd.R_mono (Kd.R_far (p := ⟨g, j, none⟩) (Kd.R_bound h) (fun k hk e1 => by have h2 := hk.2.1; have e2 : k = g := e1; omega) u) (fun _ hk => hk.1)
abbrev dO : Kd (List (List Int)) := Kd.slice 36 (Kd.slice 5 (Kd.int .u8))
/-- The images so far, and the one that is being made. -/
def IS (W0 w : World) (po pi : Nat) (img : List Pg) (outs : List (List (List Int))) : Prop := KB W0 w po pi ∧ ∃ vi vo, w.heap[pi]? = some (.cells #[vi] 22 (0, 0)) ∧ w.heap[po]? = some (.cells #[vo] 29 (0, 0)) ∧ kP.R 36 w W0.heap.size (fun _ => True) vi img ∧ dO.R 22 w W0.heap.size (fun k => some k ≠ vi.ownBlock) vo outs
/-- What is read all the while. -/
structure Fix (W0 : World) (pa po pi pc : Nat) (n : Nat) (cs : List (List Pg)) : Prop where
  lt : po < W0.heap.size ∧ pi < W0.heap.size ∧ po ≠ pi
  len : cs.length = n
  ex : ∃ ga capa vals, ∀ w, KB W0 w po pi → w.cell? ⟨pa, 0, none⟩ = some (.slice ga n capa) ∧ kR.C w ga n vals ∧ (∀ j : Nat, j < n → (rd_R vals j).n = (rd_LP cs j).length ∧ kP.C w (rd_R vals j).A (rd_R vals j).n (rd_LP cs j)) ∧ w.cell? ⟨pc, 0, none⟩ = some (.func (.func 35) #[] #[.pointer (some ⟨pa, 0, none⟩), .pointer (some ⟨po, 0, none⟩), .pointer (some ⟨pi, 0, none⟩), .pointer (some ⟨pc, 0, none⟩)]) ∧ ∀ c ∈ cs, ∀ p ∈ c, Pok w p
  small : n ≤ 1000000 ∧ ∀ c ∈ cs, c.length ≤ 1000000 ∧ ∀ p ∈ c, p.b.length ≤ 1000000000
theorem put_out {W0 w w1 : World} {po pi : Nat} {img : List Pg} {vi v1 : Value} {outs1 : List (List (List Int))} (hk : KB W0 w po pi) (hl : po < W0.heap.size ∧ pi < W0.heap.size ∧ po ≠ pi) (hb : Below W0.heap.size w w1) (hpi : w.heap[pi]? = some (.cells #[vi] 22 (0, 0))) {vo : Value} (hpo : w.heap[po]? = some (.cells #[vo] 29 (0, 0)))
    (hi : kP.R 36 w1 W0.heap.size (fun _ => True) vi img) (ho : dO.R 22 w1 W0.heap.size (fun k => some k ≠ vi.ownBlock) v1 outs1) : IS W0 (w1.setCell ⟨po, 0, none⟩ v1) po pi img outs1 := by
  have e1 : w1.heap[po]? = some (.cells #[vo] 29 (0, 0)) := (hb.block po hl.1).trans hpo
  have e2 : w1.heap[pi]? = some (.cells #[vi] 22 (0, 0)) := (hb.block pi hl.2.1).trans hpi
  refine ⟨(hk.below hb).set (.inl rfl) _, vi, v1, (heap_setCell_other w1 _ pi _ (Ne.symm hl.2.2)).trans e2, ?_, R_low hi hl.1 _, R_low ho hl.1 _⟩
  rw [heap_setCell_same w1 po 0 _ _ v1 e1]; rfl
theorem put_img {W0 w w1 : World} {po pi : Nat} {img1 : List Pg} {vi v1 : Value} {outs : List (List (List Int))} (hk : KB W0 w po pi) (hl : po < W0.heap.size ∧ pi < W0.heap.size ∧ po ≠ pi) (hb : Below W0.heap.size w w1) (hpi : w.heap[pi]? = some (.cells #[vi] 22 (0, 0))) {vo : Value} (hpo : w.heap[po]? = some (.cells #[vo] 29 (0, 0)))
    (hi : kP.R 36 w1 W0.heap.size (fun _ => True) v1 img1) (ho : dO.R 22 w1 W0.heap.size (fun k => some k ≠ v1.ownBlock) vo outs) : IS W0 (w1.setCell ⟨pi, 0, none⟩ v1) po pi img1 outs := by
  have e1 : w1.heap[po]? = some (.cells #[vo] 29 (0, 0)) := (hb.block po hl.1).trans hpo
  have e2 : w1.heap[pi]? = some (.cells #[vi] 22 (0, 0)) := (hb.block pi hl.2.1).trans hpi
  refine ⟨(hk.below hb).set (.inr rfl) _, v1, vo, ?_, (heap_setCell_other w1 _ po _ hl.2.2).trans e1, R_low hi hl.2.1 _, R_low ho hl.2.1 _⟩
  rw [heap_setCell_same w1 pi 0 _ _ v1 e2]; rfl

theorem ne2236 : ∀ q, q ∈ 36 :: kP.E → q ≠ 22 := by decide
theorem ne_own {α : Type} {d : Kd α} {e base : Nat} {w : World} {ok : Nat → Prop} {v : Value} {xs : List α} (h : d.R e w base ok v xs) (k : Nat) (hk : w.heap.size ≤ k) : some k ≠ v.ownBlock := by
  intro e1
  obtain ⟨inner, ho⟩ := Kd.R_own h
  have := own_lt ho k e1.symm
  omega
set_option maxHeartbeats 4000000 in
theorem choose_leaf (W0 : World) (pa po pi pc n : Nat) (cs : List (List Pg)) (hF : Fix W0 pa po pi pc n cs) (w : World) (img : List Pg) (outs : List (List (List Int))) (hI : IS W0 w po pi img outs) (hP : ∀ p ∈ img, ∀ W, KB W0 W po pi → Pok W p) (hb : ∀ p ∈ img, p.b.length ≤ 1000000000) (hn : img.length = n) (hl : outs.length ≤ 1000000) :
    Calls Try.prog 35 #[.int .i64 n, .pointer (some ⟨pa, 0, none⟩), .pointer (some ⟨po, 0, none⟩), .pointer (some ⟨pi, 0, none⟩), .pointer (some ⟨pc, 0, none⟩)] w fun e w' => e = .returned (.tuple #[]) ∧ IS W0 w' po pi img (outs ++ [img.map Pg.b]) := by
  obtain ⟨hk, vi, vo, hpi, hpo, hi, ho⟩ := hI
  obtain ⟨ga, capa, vals, hx⟩ := hF.ex
  have hx0 := (hx w hk).1
  obtain ⟨AI, cI, eI⟩ := Kd.R_slice hi
  obtain ⟨AO, cO, eO⟩ := Kd.R_slice ho
  subst eI
  subst eO
  have hci := cell_of_row w pi 0 _ _ _ hpi
  have hco := cell_of_row w po 0 _ _ _ hpo
  have HCP := Aside0.mk (fun (W : World) (hb' : Below w.heap.size w W) => copiesP_calls AI cI img W (Kd.C_below (Kd.R_reads' hi).2.2 hb') (Kd.R_reads' hi).2.1 (fun p hp => hP p hp W (hk.below (hb'.mono hk.2.2.2.1))) (by have := hF.small.1; omega) hb)
  have HK := Aside0.mk hk
  have HPI := Aside0.mk hpi
  have HPO := Aside0.mk hpo
  have HI := Aside0.mk hi
  have HO := Aside0.mk ho
  have HL := Aside0.mk hF.lt
  have HB0 := Aside0.mk (below_drew1 (Below.refl w.heap.size w))
  have HN := Aside0.mk hn
  clear hk hpi hpo hi ho hx hF hn
  go_enter Try.func35, Try.ntmps35
  go_wp2_with (fail)
  have HLW := Aside0.mk HK.out.2.2.2.1
  go_region_law (first
    | (refine goes_ Try.func36 (by kernel_rfl) rfl #[.slice AI img.length cI] (by rfl) rfl rfl (by (try simp only [List.map_toArray, List.map_cons, List.map_nil]); first | done | rfl) ?_; refine (HCP.out _ (by repeat (first | exact Below.refl _ _ | apply below_drew1))).mono ?_; rintro e w1 ⟨v1, rfl, ho1, hb1⟩; obtain ⟨A1, c1, e1⟩ := Kd.R_slice (Kd.S_R ho1); rw [List.length_map] at e1; subst e1; have hbw : Below w.heap.size w w1 := HB0.out.trans hb1; have hco1 := pw_cell_below hbw hco; have hco1a := fun o => pw_cell_below (below_alloc hbw o) hco; refine ⟨_, rfl, ?_⟩)
    | (refine Kd.R_append_step dO (w0 := w) (W := w1) W0.heap.size (by rfl) (.tmp 12) (.tmp 15) 29 22 (.slice none 0 0) 24 (by rfl) Try.underlying29 info22 rfl (by decide) (by omega) (.slice AO outs.length cO) outs (img.map Pg.b) [.slice A1 img.length c1] (fun k => some k ≠ (Value.slice AI img.length cI).ownBlock) (fun k => w.heap.size ≤ k) rfl rfl ⟨_, rfl, Kd.R_lower (Kd.R_mono (Kd.R_bound (Kd.S_R ho1)) (fun k hk => hk.2.1)) HLW.out⟩ (fun k hk => ⟨ne_own HI.out k hk, ne_own HO.out k hk⟩) (fun k hk => ne_own HI.out k (Nat.le_trans hb1.size hk)) (Kd.R_below HO.out hbw) (hbw.mono HLW.out) (Nat.le_trans HLW.out hb1.size) (by omega) (fun v2 w2 ho2 hb2 hg2 hat2 => ?_); obtain ⟨A2, c2, e2⟩ := Kd.R_slice ho2; subst e2; have hco2 := cell_of_row w2 po 0 _ _ _ ((hb2.block po HL.out.1).trans HPO.out); have hfo2 := frozen_of_row w2 po 0 _ _ ((hb2.block po HL.out.1).trans HPO.out)))
  all_goals
    go_wp2_with (fail)
    refine bodyPost_ret (results_none rfl _ _ _) rfl ?_
    refine ⟨rfl, ?_⟩
    have hi2 := Kd.R_over (Kd.R_below HI.out hbw) (Kd.R_below HO.out hbw) ne2236 hg2
    have h3 := put_out HK.out HL.out hb2 HPI.out HPO.out hi2 ho2
    simp only [List.length_append, List.length_singleton] at h3
    exact h3

/-- Images that begin with img. -/
def withImg (img : List Pg) (ts : List (List Pg)) : List (List (List Int)) := ts.map (fun t => (img ++ t).map Pg.b)
/-- A content of the next block, and then one of each. -/
def flatP (c : List Pg) (rest : List (List Pg)) : List (List Pg) := c.flatMap (fun x => (prodL rest).map (fun t => x :: t))
theorem withImg_len (img : List Pg) (ts : List (List Pg)) : (withImg img ts).length = ts.length := List.length_map ..
theorem prodL_flat {rest : List (List Pg)} {img : List Pg} (c : List Pg) (j : Nat) (h : j < c.length) :
    withImg img (flatP (c.take (j + 1)) rest) = withImg img (flatP (c.take j) rest) ++ withImg (img ++ [rd_P c j]) (prodL rest) := by
  unfold withImg flatP
  rw [rd_P_nat c j h, List.take_succ_eq_append_getElem h, List.flatMap_append, List.map_append]
  congr 1
  simp [List.flatMap_cons, List.map_map, Function.comp_def]
theorem flat_len {α β : Type} (f : α → List β) (c : List α) (j : Nat) : ((c.take j).flatMap f).length ≤ (c.flatMap f).length := by
  conv => rhs; rw [← List.take_append_drop j c, List.flatMap_append, List.length_append]
  omega
/-- The images so far, when the image's row has been written or made anew. -/
theorem out_after {W w1 : World} {base : Nat} {vi v1 vo : Value} {outs : List (List (List Int))} (ho : dO.R 22 W base (fun k => some k ≠ vi.ownBlock) vo outs) (hg : W.grownBy w1 vi.ownBlock) (hat : v1.ownBlock = vi.ownBlock ∨ ∃ b, v1.ownBlock = some b ∧ W.heap.size ≤ b) : dO.R 22 w1 base (fun k => some k ≠ v1.ownBlock) vo outs := by
  refine Kd.R_mono (Kd.R_grown (Kd.R_bound ho) hg (fun k hk => hk.1)) (fun k hk e1 => ?_)
  rcases hat with h | ⟨b, h, h2⟩
  · rw [h] at e1; exact hk.1 e1
  · rw [h] at e1; injection e1 with e1; have := hk.2.2.1; omega
set_option maxHeartbeats 8000000 in
set_option maxRecDepth 100000 in
theorem choose_calls (W0 : World) (pa po pi pc n : Nat) (cs : List (List Pg)) (hF : Fix W0 pa po pi pc n cs) : ∀ (d block : Nat), block + d = n → ∀ (w : World) (img : List Pg) (outs : List (List (List Int))), IS W0 w po pi img outs → (∀ p ∈ img, ∀ W, KB W0 W po pi → Pok W p) → (∀ p ∈ img, p.b.length ≤ 1000000000) → img.length = block → outs.length + (prodL (cs.drop block)).length ≤ 1000000 →
    Calls Try.prog 35 #[.int .i64 block, .pointer (some ⟨pa, 0, none⟩), .pointer (some ⟨po, 0, none⟩), .pointer (some ⟨pi, 0, none⟩), .pointer (some ⟨pc, 0, none⟩)] w fun e w' => e = .returned (.tuple #[]) ∧ IS W0 w' po pi img (outs ++ withImg img (prodL (cs.drop block)))
  | 0, block, hd, w, img, outs, hI, hP, hb, hn, hl => by
    have hbl : block = n := by omega
    subst hbl
    have hlen := hF.len
    rw [List.drop_of_length_le (by omega)] at hl ⊢
    have := choose_leaf W0 pa po pi pc block cs hF w img outs hI hP hb hn (by omega)
    simpa [prodL, withImg] using this
  | d + 1, block, hd, w, img, outs, hI, hP, hb, hn, hl => by
    have ih := choose_calls W0 pa po pi pc n cs hF d (block + 1) (by omega)
    have hlen := hF.len
    have hbn : block < n := by omega
    obtain ⟨ga, capa, vals, hx⟩ := hF.ex
    have hc0 : cs.drop block = rd_LP cs block :: cs.drop (block + 1) := by rw [rd_LP_nat cs block (by omega)]; exact List.drop_eq_getElem_cons (by omega)
    have hcm : rd_LP cs block ∈ cs := by rw [rd_LP_nat cs block (by omega)]; exact List.getElem_mem _
    obtain ⟨hx0, hx1, hx2, hx3, hx4⟩ := hx w hI.1
    have hj := hx2 block hbn
    obtain ⟨ad, e0, hy⟩ := at_R hx1 (block : Int) (by omega) (by omega)
    subst e0
    simp only [Int.toNat_natCast] at hy
    have hrn := hj.1
    rw [hc0] at hl ⊢
    have HX := Aside0.mk hx
    have HSM : Aside0 ((rd_LP cs block).length ≤ 1000000 ∧ ∀ p ∈ rd_LP cs block, p.b.length ≤ 1000000000) := ⟨hF.small.2 _ hcm⟩
    have HPOK : Aside0 (∀ p ∈ rd_LP cs block, ∀ W, KB W0 W po pi → Pok W p) := ⟨fun p hp W hW => (hx W hW).2.2.2.2 _ hcm p hp⟩
    have HCH : Aside0 (∀ W, KB W0 W po pi → kP.C W (rd_R vals block).A (rd_R vals block).n (rd_LP cs block)) := ⟨fun W hW => ((hx W hW).2.2.1 block hbn).2⟩
    generalize rd_LP cs block = c at *
    generalize hrest : cs.drop (block + 1) = rest at *
    generalize rd_R vals block = r at *
    obtain ⟨rA, rn, rc⟩ := r
    simp only at hy hrn HCH
    subst hrn
    have HI0 := Aside0.mk hI
    have HP := Aside0.mk hP
    have HB := Aside0.mk hb
    have HN := Aside0.mk hn
    have HL := Aside0.mk hl
    have HF := Aside0.mk hF.lt
    have HIH := Aside0.mk ih
    have hne : ((block : Int) == (n : Int)) = false := by simp; omega
    have hbz : (block : Int) < (n : Int) := by omega
    have hbs : (block : Int) ≤ 1000000 := by have := hF.small.1; omega
    obtain ⟨m, hm⟩ : ∃ m, m = c.length := ⟨_, rfl⟩
    have HM := Aside0.mk hm
    have hmb : m ≤ 1000000 := by have := HSM.out.1; omega
    rw [← hm] at hy HCH
    clear hI hP hb hn hl hx hx1 hx2 hx3 hx4 hj hm hc0 hcm ih hrest hd hlen hF hbn
    have eg : ∀ args w, (callFunc 35 args).run Try.prog w = .ok (.enter 35 args) w := entered Try.func35 (by kernel_rfl) rfl
    go_enter Try.func35, Try.ntmps35
    go_wp2_with (fail)
    go_loopg [7, 22] m (fun gg _ s22 wr => ∃ jj : Nat, jj ≤ m ∧ m - jj ≤ gg ∧ s22 = .int .i64 jj ∧ Aside0 (IS W0 wr po pi img (outs ++ withImg img (flatP (c.take jj) rest))))
    case atStart => exact ⟨0, Nat.zero_le _, by omega, rfl, ⟨by have := HI0.out; simpa [flatP, withImg] using this⟩⟩
    case round =>
      clear HI0
      obtain ⟨jj, hjj, hg, rfl, HI⟩ := hrel
      by_cases hlt : jj < m
      · have hltz : (jj : Int) < (m : Int) := by omega
        have hjc : jj < c.length := by rw [← HM.out]; exact hlt
        obtain ⟨ad2, e0, hz⟩ := at_P (HCH.out wr HI.out.1) (jj : Int) (by omega) hltz
        subst e0
        simp only [Int.toNat_natCast] at hz
        have HFL := Aside0.mk (prodL_flat (rest := rest) (img := img) c jj hjc)
        have HLN : Aside0 ((outs ++ withImg img (flatP (c.take jj) rest)).length + (prodL rest).length ≤ 1000000) := ⟨by
          have h1 := flat_len (fun x : Pg => (prodL rest).map (fun t => x :: t)) c (jj + 1)
          have h2 := congrArg List.length HFL.out
          have h3 := HL.out
          simp only [prodL] at h3
          simp only [withImg_len, List.length_append] at h2 ⊢
          unfold flatP at h2 ⊢
          omega⟩
        have hxm : rd_P c jj ∈ c := by rw [rd_P_nat c jj hjc]; exact List.getElem_mem _
        have HPX := Aside0.mk (HPOK.out _ hxm)
        have HBX := Aside0.mk (HSM.out.2 _ hxm)
        clear hxm hjc
        obtain ⟨oj, hoj⟩ : ∃ oj, oj = (outs ++ withImg img (flatP (c.take jj) rest)) := ⟨_, rfl⟩
        rw [← hoj] at HI HLN
        have HOJ : Aside0 (outs ++ withImg img (flatP (c.take (jj + 1)) rest) = oj ++ withImg (img ++ [rd_P c jj]) (prodL rest)) := ⟨by rw [HFL.out, ← List.append_assoc, ← hoj]⟩
        clear hoj HFL
        generalize rd_P c jj = x at hz HOJ HPX HBX
        obtain ⟨xA, xc, xb⟩ := x
        simp only at hz
        obtain ⟨hk, vi, vo, hpi, hpo, hi, ho⟩ := HI.out
        obtain ⟨AI, cI, eI⟩ := Kd.R_slice hi
        subst eI
        have hci := cell_of_row wr pi 0 _ _ _ hpi
        have HK := Aside0.mk hk
        have HPI := Aside0.mk hpi
        have HPO := Aside0.mk hpo
        have HII := Aside0.mk hi
        have HOO := Aside0.mk ho
        have HLW := Aside0.mk hk.2.2.2.1
        have HBB := Aside0.mk (Below.refl W0.heap.size wr)
        clear hk hpi hpo hi ho HI
        go_wp2_with (first | ((with_reducible refine gate_builtin (b := .append) (xs := #[.tmp 26, .tmp 28]) rfl ?_); (try (refine gate_guard (by rfl) ?_; dsimp only)); at_builtin; refine Kd.R_append kP (w0 := wr) W0.heap.size rfl (.tmp 26) (.tmp 28) 22 36 (.slice none 0 0) 24 rfl Try.underlying22 info36 rfl (by decide) (by omega) (.slice AI img.length cI) img (⟨xA, xc, xb⟩ : Pg) [.slice xA xb.length xc] (fun _ => True) (fun _ => False) rfl rfl ?aP (fun _ hk => hk.elim) ?aF ?aO ?aB ?aS ?aL ?_; (case aP => rfl); (case aB => exact HBB.out); (case aF => exact (fun _ _ => trivial)); (case aO => exact HII.out); (case aS => exact HLW.out); (case aL => have := HN.out; omega); intro v1 w1 ho1 hb1 hg1 hat1; obtain ⟨A1, c1, e1⟩ := Kd.R_slice ho1; subst e1; have hci1 := cell_of_row w1 pi 0 _ _ _ ((hb1.block pi HF.out.2.1).trans HPI.out); have hfi1 := frozen_of_row w1 pi 0 _ _ ((hb1.block pi HF.out.2.1).trans HPI.out); have H3 := put_img HK.out HF.out hb1 HPI.out HPO.out ho1 (out_after HOO.out hg1 hat1); have hpc3 := (HX.out _ H3.1).2.2.2.1; simp only [List.length_append, List.length_singleton] at hpc3; have HIS3 := Aside0.mk H3; clear H3 ho1 hb1 hg1 hat1))
        have HIH2 := HIH.out _ (img ++ [⟨xA, xc, xb⟩]) oj HIS3.out (fun p hp W hW => by
            rcases List.mem_append.1 hp with hp | hp
            · exact HP.out p hp W hW
            · rw [List.mem_singleton.1 hp]; exact HPX.out W hW) (fun p hp => by
            rcases List.mem_append.1 hp with hp | hp
            · exact HB.out p hp
            · rw [List.mem_singleton.1 hp]; exact HBX.out) (by rw [List.length_append, HN.out]; rfl) HLN.out
        rw [show ((block + 1 : Nat) : Int) = (block : Int) + 1 from by omega] at HIH2
        simp only [List.length_append, List.length_singleton] at HIH2
        refine HIH2.mono ?_
        rintro e w4 ⟨rfl, h4⟩
        have h4' := h4
        obtain ⟨hk4, vi4, vo4, hpi4, hpo4, hi4, ho4⟩ := h4
        obtain ⟨A4, c4, e4⟩ := Kd.R_slice hi4
        subst e4
        have hhi : (block : Int) ≤ (c4 : Int) := by have h_ := (Kd.R_reads' hi4).2.1; rw [List.length_append, HN.out] at h_; simp at h_; omega
        have hhn : block ≤ c4 := by omega
        have hci4 := cell_of_row w4 pi 0 _ _ _ hpi4
        have hfi4 := frozen_of_row w4 pi 0 _ _ hpi4
        have HR4 : Aside0 (IS W0 (w4.setCell ⟨pi, 0, none⟩ (.slice A4 block c4)) po pi img (oj ++ withImg (img ++ [(⟨xA, xc, xb⟩ : Pg)]) (prodL rest))) := ⟨by
          have ht := Kd.R_take (m := block) hi4 (by rw [List.length_append, HN.out]; omega)
          rw [List.take_append_of_le_length (by rw [HN.out]; exact Nat.le_refl _), List.take_of_length_le (by rw [HN.out]; exact Nat.le_refl _)] at ht
          refine put_img hk4 HF.out (Below.refl _ _) hpi4 hpo4 ht ?_
          have e5 : (Value.slice A4 block c4).ownBlock = (Value.slice A4 (img ++ [(⟨xA, xc, xb⟩ : Pg)]).length c4).ownBlock := by cases A4 <;> rfl
          rw [e5]; exact ho4⟩
        clear h4' hk4 hpi4 hpo4 hi4 ho4 HIH2 HIS3 hpc3
        go_wp2_with (fail)
        go_roundg (m - (jj + 1))
        case measure => omega
        case rel => exact ⟨jj + 1, by omega, by omega, by go_num, ⟨by rw [HOJ.out]; exact HR4.out⟩⟩
      · have hltz : ¬ (jj : Int) < (m : Int) := by omega
        have : jj = m := by omega
        subst this
        go_wp2_with (fail)
        go_end0
        refine ⟨rfl, ?_⟩
        have h_ := HI.out
        rw [HM.out, List.take_length] at h_
        exact h_

theorem make_run29 (n : Nat) (hn : n ≤ 1000000) (W : World) : (Instr.makeSlice 29 (.int .i64 n) (.int .i64 n)).run Try.prog W = .ok (.slice (some ⟨W.heap.size, 0, none⟩) n n) (W.alloc (.cells (mzP n) 22)) := by
  obtain ⟨i0, hi, hz0, hz1, hz2⟩ := info_parts info22
  have hr := run_make (P := Try.prog) W 29 22 i0 (.slice none 0 0) Try.underlying29 hi hz0 .i64 .i64 (n : Int) (n : Int) (by omega) (by omega)
    (by rw [hz2]; omega) (by omega)
  simp only [Int.toNat_natCast] at hr
  rw [hz1] at hr
  rw [hr]; rfl
theorem make_R29 (n : Nat) (hn : n ≤ 1000000) (W : World) (base : Nat) (hb : base ≤ W.heap.size) : kR.R 22 (W.alloc (.cells (mzP n) 22)) base (fun _ => True) (.slice (some ⟨W.heap.size, 0, none⟩) n n) (List.replicate n zR) := by
  have hrep := fun (R : Rw → List Value → Prop) (h : R zR (Value.slice none 0 0).cells.toList) => Kd.reps_made (R := R) (z := .slice none 0 0) (size := 1) (z0 := zR) rfl (by decide) h n
  have hl : (mzP n).size = n * 1 := by have := (hrep (fun _ _ => True) trivial).1; simpa [mzP] using this
  refine ⟨fun k hk => trivial, (mzP n).toList, ⟨?_, .inr ⟨W.heap.size, n, mzP n, by rw [List.length_replicate], hb, heap_alloc_new W _, by simp, by unfold maxLen; omega, hl, ?_⟩⟩, ?_⟩
  · rw [show kR.sz = 1 from rfl]; simpa using hl
  · rw [List.take_of_length_le]; rw [show kR.sz = 1 from rfl]; simp [hl]
  · exact hrep _ rfl
/-- Too many images: the product passes 64. -/
def limL {α : Type} : List (List α) → Int → Bool
  | [], _ => false
  | c :: rest, n => if n * (c.length : Int) > 64 then true else limL rest (n * (c.length : Int))
theorem flat_const {α : Type} (m : List (List α)) : ∀ c : List α, (c.flatMap (fun x => m.map (fun t => x :: t))).length = c.length * m.length
  | [] => by simp
  | x :: c => by rw [List.flatMap_cons, List.length_append, flat_const m c, List.length_map, List.length_cons, Nat.add_mul]; omega
theorem prodL_len {α : Type} : ∀ cs : List (List α), ∀ n : Nat, limL cs (n : Int) = false → n ≤ 64 → n * (prodL cs).length ≤ 64
  | [], n, _, h => by simp [prodL]; exact h
  | c :: rest, n, h, hn => by
    unfold limL at h
    by_cases q : (n : Int) * (c.length : Int) > 64
    · rw [if_pos q] at h; cases h
    · rw [if_neg q] at h
      have e : ((n : Int) * (c.length : Int)) = ((n * c.length : Nat) : Int) := by simp
      rw [e] at h q
      have ih := prodL_len rest (n * c.length) h (by omega)
      have el : (prodL (c :: rest)).length = c.length * (prodL rest).length := by
        simp only [prodL]
        exact flat_const _ _
      rw [el, ← Nat.mul_assoc]; exact ih
theorem limL_map {α β : Type} (f : List α → List β) (hf : ∀ c, (f c).length = c.length) : ∀ (cs : List (List α)) (n : Int), limL (cs.map f) n = limL cs n
  | [], n => rfl
  | c :: rest, n => by simp only [List.map_cons, limL, hf, limL_map f hf rest]
theorem prodL_map {α β : Type} (f : α → β) : ∀ cs : List (List α), (prodL cs).map (fun t => t.map f) = prodL (cs.map (fun c => c.map f))
  | [] => rfl
  | c :: rest => by
    simp only [prodL, List.map_cons, ← prodL_map f rest, List.map_flatMap, List.flatMap_map, List.map_map, Function.comp_def]
def csP (st : St) (n : Nat) : List (List Pg) := (List.range n).map (fun i : Nat => choicesP st i)
def csL (st : StL) (n : Nat) : List (List (List Int)) := (List.range n).map (fun i : Nat => choicesL st i)
theorem csP_map {n j : Nat} {st : St} (hG : Good n j st) : (csP st n).map (fun c => c.map Pg.b) = csL st.l n := by
  unfold csP csL
  rw [List.map_map]
  refine List.map_congr_left (fun i hi => ?_)
  exact choicesP_b hG i (by omega) (by have := List.mem_range.1 hi; omega)
theorem csP_len (st : St) (n : Nat) : (csP st n).length = n := by unfold csP; simp
theorem rd_csP (st : St) (n i : Nat) (h : i < n) : rd_LP (csP st n) i = choicesP st i := by
  rw [rd_LP_nat _ i (by rw [csP_len]; exact h)]; unfold csP; simp
/-- From the world behind the loop: what the choice reads, and its start. -/
theorem start_fix {w wr : World} {pa g n : Nat} {vals : List Rw} {cs : List (List Pg)} (hb : Below w.heap.size w wr) (hpa : wr.heap[pa]? = some (.cells #[.slice (some ⟨g, 0, none⟩) n n] 29 (0, 0)))
    (hv : kR.R 22 wr w.heap.size (fun _ => True) (.slice (some ⟨g, 0, none⟩) n n) vals) (hlen : cs.length = n) (hc : ∀ j : Nat, j < n → (rd_R vals j).n = (rd_LP cs j).length ∧ kP.R 36 wr w.heap.size (fun k => k ≠ g) (rd_R vals j).v (rd_LP cs j))
    (hP : ∀ c ∈ cs, ∀ p ∈ c, Pok w p) (hs : n ≤ 1000000 ∧ ∀ c ∈ cs, c.length ≤ 1000000 ∧ ∀ p ∈ c, p.b.length ≤ 1000000000) (W0 : World) (fv : Value)
    (hfv : fv = .func (.func 35) #[] #[.pointer (some ⟨pa, 0, none⟩), .pointer (some ⟨wr.heap.size, 0, none⟩), .pointer (some ⟨wr.heap.size + 1, 0, none⟩), .pointer (some ⟨wr.heap.size + 2, 0, none⟩)])
    (hW : W0.os = wr.os ∧ W0.tape = wr.tape ∧ W0.output = wr.output ∧ W0.heap.size = wr.heap.size + 3 ∧ (∀ k, k < wr.heap.size → W0.heap[k]? = wr.heap[k]?) ∧ W0.heap[wr.heap.size]? = some (.cells #[.slice none 0 0] 29 (0, 0)) ∧ W0.heap[wr.heap.size + 1]? = some (.cells #[.slice none 0 0] 22 (0, 0)) ∧ ∃ t, W0.heap[wr.heap.size + 2]? = some (.cells #[fv] t (0, 0))) :
    Fix W0 pa wr.heap.size (wr.heap.size + 1) (wr.heap.size + 2) n cs ∧ IS W0 W0 wr.heap.size (wr.heap.size + 1) [] [] := by
  obtain ⟨h1, h2, h3, h4, h5, h6, h7, t, h8⟩ := hW
  have hpl := (Array.getElem?_eq_some_iff.1 hpa).1
  refine ⟨⟨⟨by omega, by omega, by omega⟩, hlen, ⟨some ⟨g, 0, none⟩, n, vals, fun w' hK => ?_⟩, hs⟩, KB.refl _ _ _, .slice none 0 0, .slice none 0 0, h7, h6, Kd.R_nil _ _ _ _ _, Kd.R_nil _ _ _ _ _⟩
  have mv : ∀ k, k < wr.heap.size → w'.heap[k]? = wr.heap[k]? := fun k hk => (hK.2.2.2.2 k (by omega) (by omega) (by omega)).trans (h5 k hk)
  have hbw : Below w.heap.size w w' := ⟨hK.1.trans (h1.trans hb.os), hK.2.1.trans (h2.trans hb.tape), hK.2.2.1.trans (h3.trans hb.output), by have := hK.2.2.2.1; have := hb.size; omega, fun k hk => (mv k (by have := hb.size; omega)).trans (hb.block k hk)⟩
  refine ⟨?_, ?_, fun j hj => ⟨(hc j hj).1, ?_⟩, ?_, fun c hc p hp => (hP c hc p hp).below hbw⟩
  · have h_ := cell_of_row w' pa 0 _ _ _ ((mv pa hpl).trans hpa); rw [h_]; rfl
  · have := (Kd.R_reads' (Kd.R_step hv (fun k _ hk => mv k hk))).2.2
    have e := (Kd.R_reads' hv).1
    rwa [← e] at this
  · have hr := Kd.R_step (hc j hj).2 (fun k _ hk => mv k hk)
    have h_ := (Kd.R_reads' (d := kP) (A := (rd_R vals j).A) (n := (rd_R vals j).n) (c := (rd_R vals j).c) hr).2.2
    rw [(hc j hj).1]; exact h_
  · have h_ := cell_of_row w' (wr.heap.size + 2) 0 _ _ _ ((hK.2.2.2.2 _ (by omega) (by omega) (by omega)).trans h8); rw [h_, ← hfv]; rfl

theorem frozen_below {w w1 : World} {g j : Nat} (hb : Below w.heap.size w w1) (hg : g < w.heap.size) (h : w.frozen? ⟨g, j, none⟩ = false) : w1.frozen? ⟨g, j, none⟩ = false := by
  have e : w1.heap[g]? = w.heap[g]? := hb.block g hg
  simp only [World.frozen?] at h ⊢
  rw [e]; exact h
theorem rd_R_set (l : List Rw) (i j : Nat) (r : Rw) (h : i < l.length) : rd_R (l.set i r) j = if j = i then r else rd_R l j := by
  unfold rd_R
  rw [List.getD_eq_getElem?_getD, List.getD_eq_getElem?_getD, Int.toNat_natCast, List.getElem?_set]
  by_cases c : j = i
  · subst c; rw [if_pos rfl, if_pos rfl, if_pos h]; rfl
  · rw [if_neg (fun e => c e.symm), if_neg c]
/-- What the loop over the blocks keeps. -/
def LI (w w1 wr : World) (g pa n kk : Nat) (cs : List (List Pg)) (vals : List Rw) : Prop := Below w1.heap.size w1 wr ∧ wr.heap[pa]? = some (.cells #[.slice (some ⟨g, 0, none⟩) n n] 29 (0, 0)) ∧ kR.R 22 wr w.heap.size (fun _ => True) (.slice (some ⟨g, 0, none⟩) n n) vals ∧
  ∀ j : Nat, j < kk → (rd_R vals j).n = (rd_LP cs j).length ∧ kP.R 36 wr w.heap.size (fun k => k ≠ g) (rd_R vals j).v (rd_LP cs j)
theorem LI.put {w w1 wr W w2 : World} {g pa n kk : Nat} {cs : List (List Pg)} {vals : List Rw} {A2 : Option Addr} {c2 : Nat} {ch : List Pg} (h : LI w w1 wr g pa n kk cs vals) (hne : pa ≠ g) (hg : w1.heap.size ≤ g) (hw : w.heap.size ≤ w1.heap.size) (hk : kk < n) (hch : rd_LP cs kk = ch)
    (hb1 : Below wr.heap.size wr W) (hb2 : Below W.heap.size W w2) (ho : kP.R 36 w2 W.heap.size (fun _ => True) (.slice A2 ch.length c2) ch) : LI w w1 (w2.setCell ⟨g, kk, none⟩ (.slice A2 ch.length c2)) g pa n (kk + 1) cs (vals.set kk ⟨A2, ch.length, c2⟩) := by
  obtain ⟨l1, l2, l3, l4⟩ := h
  have hb3 : Below wr.heap.size wr w2 := hb1.trans (hb2.mono hb1.size)
  have hvl : vals.length = n := ((Kd.R_reads' l3).1).symm
  have l3' := Kd.R_below l3 hb3
  have hgs : g < wr.heap.size := by
    obtain ⟨inner, hi⟩ := Kd.R_own l3
    exact own_lt hi g rfl
  refine ⟨below_set (l1.trans (hb3.mono l1.size)) hg, (heap_setCell_other w2 _ pa _ hne).trans ((hb3.block pa (Array.getElem?_eq_some_iff.1 l2).1).trans l2), ?_, fun j hj => ?_⟩
  · have h_ := Kd.R_putn l3' (kk : Int) (⟨A2, ch.length, c2⟩ : Rw)
    rw [Int.toNat_natCast] at h_
    exact h_
  · rw [rd_R_set vals kk j _ (by omega)]
    by_cases c : j = kk
    · rw [if_pos c, c, hch]
      refine ⟨rfl, Kd.R_far (Kd.R_lower (Kd.R_mono (Kd.R_bound ho) (fun k hk2 e => ?_)) ?_) (fun k hk2 => hk2) _⟩
      · have z1 := hk2.2.1
        have z2 := hb1.size
        have z3 : k = g := e
        omega
      · have z1 := hb1.size
        have z2 := l1.size
        omega
    · rw [if_neg c]
      obtain ⟨a, b⟩ := l4 j (by omega)
      exact ⟨a, Kd.R_far (Kd.R_below b hb3) (fun k hk2 => hk2) _⟩

@[go_sem] theorem run_store_func1 {a : Addr} {m : Mode} {P : Program} {w : World} (fn : Fn) (first captured : Array Value) : (store a (.func fn first captured) m).run P w = stored P w a (.func fn first captured) m := run_store P w a _ m rfl
def durable_Images.f (l0 : List (List Int)) (l1 : List S38) : Option (List (List (List Int)) × Int) := if l0.length ≤ 1000000 ∧ l1.length ≤ 900000 then some (if (afterL l0 l1).1 ≠ 0 then ([], (afterL l0 l1).1) else if limL (csL (afterL l0 l1).2 l0.length) 1 = true then ([], 9) else (prodL (csL (afterL l0 l1).2 l0.length), 0)) else none
set_option maxHeartbeats 8000000 in
set_option maxRecDepth 100000 in
theorem durable_Images.calls (A0 : Option Addr) (c0 : Nat) (l0 : List (List Int)) (A1 : Option Addr) (c1 : Nat) (l1 : List S38) (r1 : List (List (List Int))) (r2 : Int) (w : World) (hr0 : Kd.C (Kd.slice 5 (Kd.int .u8)) w A0 l0.length l0) (hc0 : l0.length ≤ c0) (hr1 : Kd.C k38 w A1 l1.length l1) (hc1 : l1.length ≤ c1) (h : durable_Images.f l0 l1 = some (r1, r2)) :
    Calls Try.prog 16 #[.slice A0 l0.length c0, .slice A1 l1.length c1] w fun e w' => ∃ v0_ : Value, e = .returned (.tuple #[v0_, .int .i64 r2]) ∧ Kd.R (Kd.slice 36 (Kd.slice 5 (Kd.int .u8))) 22 w' w.heap.size (fun _ => True) v0_ r1 ∧ Below w.heap.size w w' := by
  unfold durable_Images.f at h
  split at h
  · rename_i hn
    have HA := Aside0.mk (after_ev A0 c0 l0 A1 c1 l1 w hr0 hr1 hn.1 (by omega))
    injection h with h
    have HN := Aside0.mk hn
    have HW := Aside0.mk (afterL_wf (l0 := l0) (l1 := l1))
    clear hr0 hr1 hc0 hc1 hn
    have HH := Aside0.mk h
    clear h
    generalize hAL : afterL l0 l1 = aL at HA HH HW
    obtain ⟨er, sl⟩ := aL
    simp only at HA HH HW
    clear hAL
    generalize hnn : l0.length = n at HA HN HW HH ⊢
    go_enter Try.func16, Try.ntmps16
    go_wp2_with (fail)
    refine HA.out.mono ?_
    rintro e w1 ⟨hb, ⟨h1, rfl⟩ | ⟨h1, S, st, rfl, hs, hl, hG, hP⟩⟩
    · have hh := HH.out
      rw [if_pos h1] at hh
      simp only [Prod.mk.injEq] at hh
      obtain ⟨rfl, rfl⟩ := hh
      have d0 : (er != 0) = true := bne_iff_ne.mpr h1
      have HB := Aside0.mk hb
      clear HA HH h1 hb
      go_wp2_with (fail)
      go_ret2
      exact ⟨_, rfl, Kd.R_nil _ _ _ _ _, HB.out⟩
    · subst h1
      have hh := HH.out
      rw [if_neg (by decide)] at hh
      have hm := csP_map hG
      rw [hl] at hm
      have HLM : Aside0 ((if limL (csP st n) 1 = true then (([] : List (List (List Int))), (9 : Int)) else ((prodL (csP st n)).map (fun t => t.map Pg.b), 0)) = (r1, r2)) := ⟨by rw [prodL_map, hm, ← limL_map (fun c => c.map Pg.b) (fun c => List.length_map ..) (csP st n) 1, hm]; exact hh⟩
      have hwf := HW.out rfl
      have hsm : n ≤ 1000000 ∧ ∀ c ∈ csP st n, c.length ≤ 1000000 ∧ ∀ p ∈ c, p.b.length ≤ 1000000000 := by
        refine ⟨HN.out.1, fun c hc => ?_⟩
        obtain ⟨i, hi, rfl⟩ := List.mem_map.1 hc
        have hi' := List.mem_range.1 hi
        have hmi := choicesP_b hG i (by omega) (by omega)
        rw [hl] at hmi
        refine ⟨?_, map_len hmi (fun b hb => by rw [choicesL_len hwf i (by omega) (by omega) b hb]; decide)⟩
        have h3 : (choicesP st i).length = (choicesL sl i).length := by rw [← hmi, List.length_map]
        have h4 := choicesL_length sl i
        have h5 : sl.out.length = st.out.length := by rw [← hl]; simp [St.l]
        have := hG.1.2.2.1
        have := HN.out.2
        omega
      have hpk : ∀ c ∈ csP st n, ∀ p ∈ c, Pok w p := by
        intro c hc p hp
        obtain ⟨i, hi, rfl⟩ := List.mem_map.1 hc
        exact choicesP_pok hP i p hp
      have HCH := Aside0.mk (fun (i : Nat) (hi : i < n) (W : World) (hb' : Below w1.heap.size w1 W) => choices_calls w S st i W (hs.below hb') (⟨fun p hp => (hP.1 p hp).below (hb.trans (hb'.mono hb.size)), fun p hp => (hP.2.1 p hp).below (hb.trans (hb'.mono hb.size)), fun o ho => (hP.2.2 o ho).below (hb.trans (hb'.mono hb.size))⟩ : PokSt W st) (by omega) (by rw [hG.1.2.1]; omega) (by rw [hG.1.1, hG.1.2.1]) (by have := hG.1.2.2.1; have := HN.out.2; omega))
      have HRC := Aside0.mk (rd_csP st n)
      have HCL := Aside0.mk (csP_len st n)
      have HSM := Aside0.mk hsm
      have HPK := Aside0.mk hpk
      have HB := Aside0.mk hb
      clear HA HH hb hs hG hP hl HW hm hwf hsm hpk hh
      generalize csP st n = cs at HLM HRC HCL HSM HPK
      have hn1 : n ≤ 1000000 := HN.out.1
      have HM := make_run29 n hn1
      go_wp2_with (fail)
      have HLI0 : Aside0 (LI w w1 ((w1.alloc (.cells (mzP n) 22)).alloc (.cells #[.slice (some ⟨w1.heap.size, 0, none⟩) n n] 29)) w1.heap.size (w1.heap.size + 1) n 0 cs (List.replicate n zR)) := ⟨by
        refine ⟨below_alloc (below_alloc (Below.refl _ w1) _) _, ?_, Kd.R_alloc (make_R29 n hn1 w1 w.heap.size HB.out.size) _, fun j hj => by omega⟩
        have := heap_alloc_new (w1.alloc (.cells (mzP n) 22)) (.cells #[.slice (some ⟨w1.heap.size, 0, none⟩) n n] 29)
        rwa [size_a] at this⟩
      obtain ⟨g, hg⟩ : ∃ g, g = w1.heap.size := ⟨_, rfl⟩
      obtain ⟨pa, hpa⟩ : ∃ pa, pa = w1.heap.size + 1 := ⟨_, rfl⟩
      have HG := Aside0.mk (show w1.heap.size ≤ g ∧ pa ≠ g ∧ w.heap.size ≤ w1.heap.size from ⟨by omega, by omega, HB.out.size⟩)
      rw [← hpa, ← hg] at HLI0 ⊢
      generalize (w1.alloc (.cells (mzP n) 22)).alloc (.cells #[.slice (some ⟨g, 0, none⟩) n n] 29) = W2 at HLI0 ⊢
      clear hpa hg HM
      go_loopg [9, 10, 28] n (fun gg s9 _ s28 wr => ∃ (kk : Nat) (N : Int) (vals : List Rw), kk ≤ n ∧ n - kk ≤ gg ∧ s28 = .int .i64 kk ∧ s9 = .int .i64 N ∧ Aside0 (LI w w1 wr g pa n kk cs vals) ∧ Aside0 (0 ≤ N ∧ N ≤ 64 ∧ limL cs 1 = limL (cs.drop kk) N))
      case atStart => exact ⟨0, 1, _, Nat.zero_le _, by omega, rfl, rfl, HLI0, ⟨by omega, by omega, rfl⟩⟩
      case round =>
        clear HLI0
        obtain ⟨kk, N, vals, hkk, hgg, rfl, rfl, HI, HNN⟩ := hrel
        by_cases hlt : kk < n
        · have hltz : (kk : Int) < (n : Int) := by omega
          have hch := HRC.out kk hlt
          have HCC := Aside0.mk (HCH.out kk hlt)
          have HCHE := Aside0.mk hch
          have hcm : rd_LP cs kk ∈ cs := by rw [rd_LP_nat cs kk (by rw [HCL.out]; exact hlt)]; exact List.getElem_mem _
          have hml := (HSM.out.2 _ hcm).1
          have hdr : cs.drop kk = rd_LP cs kk :: cs.drop (kk + 1) := by rw [rd_LP_nat cs kk (by rw [HCL.out]; exact hlt)]; exact List.drop_eq_getElem_cons (by rw [HCL.out]; exact hlt)
          have hlim := HNN.out.2.2
          rw [hdr, limL, hch] at hlim
          rw [hch] at hml
          have HLIM := Aside0.mk hlim
          clear hch hcm hdr hlim
          generalize choicesP st kk = ch at HCC HCHE HLIM hml
          obtain ⟨m, hm⟩ : ∃ m, m = ch.length := ⟨_, rfl⟩
          have HMM := Aside0.mk hm
          have hN0 := HNN.out.1
          have hN1 := HNN.out.2.1
          have hNm : 0 ≤ N * (m : Int) ∧ N * (m : Int) ≤ 64 * 1000000 := ⟨Int.mul_nonneg hN0 (by omega), by
            have h1 : N * (m : Int) ≤ 64 * (m : Int) := Int.mul_le_mul_of_nonneg_right hN1 (by omega)
            omega⟩
          have hwr : wrap64 (N * (m : Int)) = N * (m : Int) := by obtain ⟨a, b⟩ := hNm; unfold wrap64; omega
          rw [← hm] at HLIM
          have hpc := cell_of_row wr pa 0 _ _ _ HI.out.2.1
          obtain ⟨ad9, e9, hgc⟩ := at_R (Kd.R_reads' HI.out.2.2.1).2.2 (kk : Int) (by omega) (by have := (Kd.R_reads' HI.out.2.2.1).1; omega)
          injection e9 with e9
          subst e9
          simp only [Addr.add_lit, Nat.zero_add, Int.toNat_natCast] at hgc
          have hbr := HI.out.1
          have HBR := Aside0.mk hbr
          have HLT := Aside0.mk (World.block_lt_of_cell? _ _ hgc)
          have HLP := Aside0.mk (Array.getElem?_eq_some_iff.1 HI.out.2.1).1
          have hfz : wr.frozen? ⟨g, kk, none⟩ = false := by
            obtain ⟨_, _, _, _, hf⟩ := Kd.R_elem HI.out.2.2.1 zR kk (by omega) (by have := (Kd.R_reads' HI.out.2.2.1).1; omega)
            have h_ := hf 0
            rwa [show kR.sz = 1 from rfl, Nat.mul_one, Nat.add_zero, Int.toNat_natCast] at h_
          have hne := HG.out.2.1
          have hne' := Ne.symm hne
          clear hm hbr
          by_cases q : N * (m : Int) > 64
          · have d0 : decide (N * (m : Int) > 64) = true := decide_eq_true q
            rw [if_pos q] at HLIM
            clear q
            go_wp2_with (fail)
            go_region_law (refine goes_ Try.func34 (by kernel_rfl) rfl #[.pointer (some ⟨S, 0, none⟩), .int .i64 kk] (by rfl) rfl rfl (by (try simp only [List.map_toArray, List.map_cons, List.map_nil]); first | done | rfl) ?_; refine (HCC.out _ (below_drew1 HBR.out)).mono ?_; rintro e w2 ⟨v2, rfl, ho2, hb2⟩; obtain ⟨A2, c2, e2⟩ := Kd.R_slice ho2; rw [← HMM.out] at e2; subst e2; have hpc2 := pw_cell_below (hb2.mono (Nat.le_refl wr.heap.size)) hpc; have hgc2 := pw_cell_below (hb2.mono (Nat.le_refl wr.heap.size)) hgc; have hfz2 := frozen_below hb2 HLT.out hfz; refine ⟨_, rfl, ?_⟩)
            all_goals
              have HI3 := Aside0.mk (LI.put HI.out HG.out.2.1 HG.out.1 HG.out.2.2 hlt HCHE.out (below_drew1 (Below.refl wr.heap.size wr)) hb2 (by rw [← HMM.out]; exact ho2))
              rw [← HMM.out] at HI3
              have hpc3 := cell_of_row _ pa 0 _ _ _ HI3.out.2.1
              clear HI HCC ho2 hb2 hpc hgc
              go_wp2_with (fail)
              have hh := HLM.out
              rw [if_pos HLIM.out] at hh
              simp only [Prod.mk.injEq] at hh
              obtain ⟨rfl, rfl⟩ := hh
              go_ret2
              exact ⟨_, rfl, Kd.R_nil _ _ _ _ _, HB.out.trans (HI3.out.1.mono HB.out.size)⟩
          · have d0 : decide (N * (m : Int) > 64) = false := decide_eq_false q
            rw [if_neg q] at HLIM
            have hq64 := Aside0.mk (show N * (m : Int) ≤ 64 by omega)
            clear q
            go_wp2_with (fail)
            go_region_law (refine goes_ Try.func34 (by kernel_rfl) rfl #[.pointer (some ⟨S, 0, none⟩), .int .i64 kk] (by rfl) rfl rfl (by (try simp only [List.map_toArray, List.map_cons, List.map_nil]); first | done | rfl) ?_; refine (HCC.out _ (below_drew1 HBR.out)).mono ?_; rintro e w2 ⟨v2, rfl, ho2, hb2⟩; obtain ⟨A2, c2, e2⟩ := Kd.R_slice ho2; rw [← HMM.out] at e2; subst e2; have hpc2 := pw_cell_below (hb2.mono (Nat.le_refl wr.heap.size)) hpc; have hgc2 := pw_cell_below (hb2.mono (Nat.le_refl wr.heap.size)) hgc; have hfz2 := frozen_below hb2 HLT.out hfz; refine ⟨_, rfl, ?_⟩)
            all_goals
              have HI3 := Aside0.mk (LI.put HI.out HG.out.2.1 HG.out.1 HG.out.2.2 hlt HCHE.out (below_drew1 (Below.refl wr.heap.size wr)) hb2 (by rw [← HMM.out]; exact ho2))
              rw [← HMM.out] at HI3
              have hpc3 := cell_of_row _ pa 0 _ _ _ HI3.out.2.1
              clear HI HCC ho2 hb2 hpc hgc
              go_wp2_with (fail)
              go_roundg (n - (kk + 1))
              case measure => omega
              case rel => exact ⟨kk + 1, N * (m : Int), _, by omega, by omega, by go_num, rfl, HI3, ⟨hNm.1, hq64.out, HLIM.out⟩⟩
        · have hltz : ¬ ((kk : Int) < (n : Int)) := by omega
          obtain rfl : kk = n := by omega
          obtain ⟨q1, q2, q3, q4⟩ := HI.out
          have HSF := Aside0.mk (fun (W0 : World) (fv : Value) => start_fix (w := w) (wr := wr) (HB.out.trans (q1.mono HB.out.size)) q2 q3 HCL.out q4 HPK.out HSM.out W0 fv)
          have HBW := Aside0.mk (HB.out.trans (q1.mono HB.out.size))
          have HPL := Aside0.mk (prodL_len cs 1 (by have := HNN.out.2.2; rw [List.drop_of_length_le (by rw [HCL.out]; exact Nat.le_refl _)] at this; exact this) (by decide))
          have HLF : Aside0 (limL cs 1 = false) := ⟨by have := HNN.out.2.2; rw [List.drop_of_length_le (by rw [HCL.out]; exact Nat.le_refl _)] at this; exact this⟩
          clear q1 q2 q3 q4 HI HCH HRC
          have hrow : (((wr.alloc (.cells #[.slice none 0 0] 29)).alloc (.cells #[.slice none 0 0] 22)).alloc (.cells #[.nilFunc] 53)).heap[wr.heap.size + 1 + 1]? = some (.cells #[.nilFunc] 53 (0, 0)) := by
            have := heap_alloc_new ((wr.alloc (.cells #[.slice none 0 0] 29)).alloc (.cells #[.slice none 0 0] 22)) (.cells #[.nilFunc] 53)
            rwa [size_a, size_a] at this
          have hfz := frozen_of_row _ (wr.heap.size + 1 + 1) 0 _ _ hrow
          have hcc : (((wr.alloc (.cells #[.slice none 0 0] 29)).alloc (.cells #[.slice none 0 0] 22)).alloc (.cells #[.nilFunc] 53)).cell? ⟨wr.heap.size + 1 + 1, 0, none⟩ = some .nilFunc := cell_of_row _ (wr.heap.size + 1 + 1) 0 _ _ _ hrow
          have HROW := Aside0.mk hrow
          clear hrow
          go_wp2_with (fail)
          generalize hW0 : ((wr.alloc (.cells #[.slice none 0 0] 29)).alloc (.cells #[.slice none 0 0] 22)).alloc (.cells #[.func (.func 35) #[] #[.pointer (some ⟨pa, 0, none⟩), .pointer (some ⟨wr.heap.size, 0, none⟩), .pointer (some ⟨wr.heap.size + 1, 0, none⟩), .pointer (some ⟨wr.heap.size + 1 + 1, 0, none⟩)]] 53) = W0
          have e1 : W0.os = wr.os := by rw [← hW0]; rfl
          have e2 : W0.tape = wr.tape := by rw [← hW0]; rfl
          have e3 : W0.output = wr.output := by rw [← hW0]; rfl
          have e4 : W0.heap.size = wr.heap.size + 3 := by rw [← hW0, size_a, size_a, size_a]
          have e5 : ∀ k, k < wr.heap.size → W0.heap[k]? = wr.heap[k]? := fun k hk => by
            rw [← hW0, heap_alloc_old _ _ (by rw [size_a, size_a]; omega), heap_alloc_old _ _ (by rw [size_a]; omega), heap_alloc_old _ _ hk]
          have e6 : W0.heap[wr.heap.size]? = some (.cells #[.slice none 0 0] 29 (0, 0)) := by
            rw [← hW0, heap_alloc_old _ _ (by rw [size_a, size_a]; omega), heap_alloc_old _ _ (by rw [size_a]; omega), heap_alloc_new]
          have e7 : W0.heap[wr.heap.size + 1]? = some (.cells #[.slice none 0 0] 22 (0, 0)) := by
            rw [← hW0, heap_alloc_old _ _ (by rw [size_a, size_a]; omega)]
            have := heap_alloc_new (wr.alloc (.cells #[.slice none 0 0] 29)) (.cells #[.slice none 0 0] 22); rwa [size_a] at this
          have e8 : W0.heap[wr.heap.size + 2]? = some (.cells #[.func (.func 35) #[] #[.pointer (some ⟨pa, 0, none⟩), .pointer (some ⟨wr.heap.size, 0, none⟩), .pointer (some ⟨wr.heap.size + 1, 0, none⟩), .pointer (some ⟨wr.heap.size + 1 + 1, 0, none⟩)]] 53 (0, 0)) := by
            have := heap_alloc_new ((wr.alloc (.cells #[.slice none 0 0] 29)).alloc (.cells #[.slice none 0 0] 22)) (.cells #[.func (.func 35) #[] #[.pointer (some ⟨pa, 0, none⟩), .pointer (some ⟨wr.heap.size, 0, none⟩), .pointer (some ⟨wr.heap.size + 1, 0, none⟩), .pointer (some ⟨wr.heap.size + 1 + 1, 0, none⟩)]] 53)
            rw [size_a, size_a, hW0] at this; exact this
          obtain ⟨hF, hI⟩ := HSF.out W0 _ rfl ⟨e1, e2, e3, e4, e5, e6, e7, 53, e8⟩
          have hbw : Below wr.heap.size wr W0 := ⟨e1, e2, e3, by omega, fun k hk => e5 k hk⟩
          have hcl := choose_calls W0 pa wr.heap.size (wr.heap.size + 1) (wr.heap.size + 2) kk cs hF kk 0 (by omega) W0 [] [] hI (fun _ h => by cases h) (fun _ h => by cases h) rfl (by have := HPL.out; simp only [List.length_nil, List.drop_zero]; omega)
          refine hcl.mono ?_
          clear hW0 hF hcl hI hfz hcc
          rintro e w5 ⟨rfl, hk5, vi, vo, hpi5, hpo5, hi5, ho5⟩
          have hc5 := cell_of_row w5 wr.heap.size 0 _ _ _ hpo5
          have hh := HLM.out
          rw [HLF.out, if_neg (by decide)] at hh
          simp only [Prod.mk.injEq] at hh
          obtain ⟨rfl, rfl⟩ := hh
          have hbb : Below w.heap.size w w5 := by
            refine HBW.out.trans ((hbw.mono HBW.out.size).trans ?_)
            have z1 := HBW.out.size
            exact ⟨hk5.1, hk5.2.1, hk5.2.2.1, hk5.2.2.2.1, fun k hk => hk5.2.2.2.2 k (by omega) (by omega) (by omega)⟩
          have HBB := Aside0.mk hbb
          have HO5 := Aside0.mk ho5
          obtain ⟨A5, c5, e5⟩ := Kd.R_slice ho5
          subst e5
          clear hbb ho5 hi5 hpi5 hpo5 hk5
          have hsz : w.heap.size ≤ W0.heap.size := by
            have z1 := HBW.out.size
            omega
          go_wp2_with (fail)
          go_ret2
          exact ⟨_, rfl, Kd.R_lower (Kd.R_mono HO5.out (fun _ _ => trivial)) hsz, HBB.out⟩
  · cases h
end Go.Proofs.Ytghmkmpgfpkfmaa.X
