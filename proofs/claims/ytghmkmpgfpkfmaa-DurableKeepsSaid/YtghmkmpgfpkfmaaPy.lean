/- Plain laws of chapter 11, without the loops of the reference: images, longer histories. -/
import Derived.Test.YtghmkmpgfpkfmaaPz
namespace Go.Proofs.Ytghmkmpgfpkfmaa.X
open Go.RowKit Go.Proofs.YtghmkmpgfpkfmaaW.PrintWords Go.Proofs.YtghmkmpgfpkfmaaW.PrintLast Go.Proofs.YtghmkmpgfpkfmaaW.PrintMore
set_option linter.unusedVariables false
set_option linter.unusedSimpArgs false
theorem rdL4 (l : List (List (List Int))) (i : Nat) (h : i < l.length) : rd_L4 l i = l[i] := by
  unfold rd_L4; rw [List.getD_eq_getElem?_getD, Int.toNat_natCast, List.getElem?_eq_getElem h]; rfl
def csR (l0 : List (List Int)) (l1 : List S38) : List (List (List Int)) := (List.range l0.length).map (fun b => chR l0 l1 b)
theorem csR_len (l0 : List (List Int)) (l1 : List S38) : (csR l0 l1).length = l0.length := by unfold csR; rw [List.length_map, List.length_range]
theorem chR_32 {l0 : List (List Int)} {l1 : List S38} (ok : Ok l0 l1) (b : Nat) (hb : b < l0.length) : ∀ x ∈ chR l0 l1 b, x.length = 32 := by
  obtain ⟨ids, iv⟩ := ok.iv
  rw [← choices_same ok b hb]
  exact choicesL_len iv.wf b (by omega) (by omega)
def imgA (l0 : List (List Int)) (l1 : List S38) : List (List (List Int)) × Int := if checkE l0 l1 = 0 then (if limL (csR l0 l1) 1 = true then ([], 9) else (prodL (csR l0 l1), 0)) else ([], checkE l0 l1)
theorem csL_csR {l0 : List (List Int)} {l1 : List S38} (c : checkE l0 l1 = 0) : csL (afterL l0 l1).2 l0.length = csR l0 l1 := by
  unfold csL csR
  refine List.map_congr_left (fun i hi => ?_)
  exact choices_same (ok_of c) i (List.mem_range.1 hi)
theorem images_val (l0 : List (List Int)) (l1 : List S38) (h0 : l0.length ≤ 1000) (h1 : l1.length ≤ 800) : durable_Images.f l0 l1 = some (imgA l0 l1) := by
  unfold durable_Images.f imgA
  rw [if_pos ⟨by omega, by omega⟩, (after_iv l0 l1).1]
  by_cases c : checkE l0 l1 = 0
  · rw [if_neg (show ¬ checkE l0 l1 ≠ 0 from fun q => q c), if_pos c, csL_csR c]
  · rw [if_pos (show checkE l0 l1 ≠ 0 from c), if_neg c]
theorem prodL_mem {α : Type} : ∀ (cs : List (List α)) (t : List α), t ∈ prodL cs → t.length = cs.length
  | [], t, h => by rw [List.mem_singleton.1 h]; rfl
  | c :: cs, t, h => by
    rw [prodL] at h
    obtain ⟨x, _, h⟩ := List.mem_flatMap.1 h
    obtain ⟨u, hu, rfl⟩ := List.mem_map.1 h
    rw [List.length_cons, prodL_mem cs u hu]; rfl
theorem imgA_len (l0 : List (List Int)) (l1 : List S38) : (imgA l0 l1).1.length ≤ 64 ∧ ∀ im ∈ (imgA l0 l1).1, im.length = l0.length := by
  unfold imgA
  split
  · split
    · exact ⟨by decide, fun im h => by cases h⟩
    · rename_i h
      have := prodL_len (csR l0 l1) 1 (by simpa using h) (by decide)
      exact ⟨by simpa using this, fun im h => by rw [prodL_mem _ im h, csR_len]⟩
  · exact ⟨Nat.zero_le _, fun im h => by cases h⟩
theorem more_done {l0 : List (List Int)} {l : List S38} (h : checkE l0 l = 0) (id : Int) (h1 : 0 ≤ subN 1 l id l.length) (h2 : subN 2 l id l.length < 0) : checkE l0 (l ++ [⟨2, id, 0, []⟩]) = 0 := by
  refine check_more h _ ?_
  unfold evE
  rw [rd_last]
  show (if (2 : Int) = 1 then _ else if (2 : Int) = 2 then (if (0 : Int) ≠ 0 ∨ ((0 : Nat) : Int) ≠ 0 then 1 else if subN 1 (l ++ [⟨2, id, 0, []⟩]) id l.length < 0 ∨ 0 ≤ subN 2 (l ++ [⟨2, id, 0, []⟩]) id l.length then 6 else 0) else _) = (0 : Int)
  rw [if_neg (by decide), if_pos rfl, if_neg (by decide), sub_app 1 l _ _ _ (Nat.le_refl _), sub_app 2 l _ _ _ (Nat.le_refl _), if_neg (by omega)]
theorem more_flush {l0 : List (List Int)} {l : List S38} (h : checkE l0 l = 0) : checkE l0 (l ++ [⟨3, 0, 0, []⟩]) = 0 := by
  refine check_more h _ ?_
  unfold evE
  rw [rd_last, if_neg (by decide), if_neg (by decide), if_pos rfl, if_neg (by decide)]
/-- The history with the completions of the first i writes. -/
structure FI (l0 : List (List Int)) (l : List S38) (i : Nat) (x : List S38) : Prop where
  ok : checkE l0 x = 0
  ex : ∃ D, x = l ++ D ∧ D.length ≤ i ∧ ∀ y ∈ D, y.f0 = 2 ∧ ∃ j : Nat, j < i ∧ j < l.length ∧ (rd_T38 l j).f0 = 1 ∧ (rd_T38 l j).f1 = y.f1
  dn : ∀ j : Nat, j < i → j < l.length → (rd_T38 l j).f0 = 1 → 0 ≤ subN 2 x (rd_T38 l j).f1 x.length
theorem sub2_snoc (l : List S38) (x : S38) (id : Int) : 0 ≤ subN 2 (l ++ [x]) id (l ++ [x]).length ↔ 0 ≤ subN 2 l id l.length ∨ (x.f0 = 2 ∧ x.f1 = id) := by
  have h := sub_nx 2 (l ++ [x]) id l.length (by rw [List.length_append]; exact Nat.lt_succ_self _)
  rw [sub_app 2 l [x] id l.length (Nat.le_refl _), rd_last, show l.length + 1 = (l ++ [x]).length by rw [List.length_append]; rfl] at h
  rw [← decide_eq_true_eq (p := 0 ≤ subN 2 (l ++ [x]) id (l ++ [x]).length), h, Bool.or_eq_true, decide_eq_true_eq, decide_eq_true_eq]
theorem FI.first {l0 : List (List Int)} {l : List S38} (h : checkE l0 l = 0) : FI l0 l 0 l := ⟨h, ⟨[], (List.append_nil l).symm, Nat.le_refl _, fun y hy => nomatch hy⟩, fun j hj => by omega⟩
theorem FI.skip {l0 : List (List Int)} {l x : List S38} {i : Nat} (h : FI l0 l i x) (hn : i < l.length → (rd_T38 l i).f0 = 1 → 0 ≤ subN 2 x (rd_T38 l i).f1 x.length) : FI l0 l (i + 1) x := by
  obtain ⟨D, e, hl, hd⟩ := h.ex
  refine ⟨h.ok, ⟨D, e, by omega, fun y hy => ?_⟩, fun j hj h1 h2 => ?_⟩
  · obtain ⟨a, j, b, c⟩ := hd y hy
    exact ⟨a, j, by omega, c⟩
  · by_cases c : j = i
    · subst c; exact hn h1 h2
    · exact h.dn j (by omega) h1 h2
theorem FI.more {l0 : List (List Int)} {l x : List S38} {i : Nat} (hl : checkE l0 l = 0) (h : FI l0 l i x) (hi : i < l.length) (k : (rd_T38 l i).f0 = 1) (hn : subN 2 l (rd_T38 l i).f1 l.length < 0) : FI l0 l (i + 1) (x ++ [⟨2, (rd_T38 l i).f1, 0, []⟩]) := by
  obtain ⟨D, e, hle, hd⟩ := h.ex
  obtain ⟨ids, iv⟩ := (ok_of hl).iv
  have hown := iv.own i hi k
  have h1 : 0 ≤ subN 1 x (rd_T38 l i).f1 x.length := by
    have := subN_mono 1 x (rd_T38 l i).f1 l.length (x.length - l.length) (by rw [e, sub_app 1 l D _ _ (Nat.le_refl _), hown]; omega)
    rw [show l.length + (x.length - l.length) = x.length by rw [e, List.length_append]; omega] at this
    rw [this, e, sub_app 1 l D _ _ (Nat.le_refl _), hown]; omega
  have h2 : subN 2 x (rd_T38 l i).f1 x.length < 0 := by
    by_cases c : 0 ≤ subN 2 x (rd_T38 l i).f1 x.length
    · obtain ⟨j, j1, j2, j3, j4, j5⟩ := subN_at 2 x _ _ c
      by_cases q : j < l.length
      · rw [e, rd_app l D j q] at j4 j5
        have := (subN_of 2 l (rd_T38 l i).f1 l.length j q q j4 j5).1
        omega
      · have hm : rd_T38 x j ∈ D := by
          rw [rd38 x j j3]
          have : x[j] = (l ++ D)[j]'(by rw [← e]; exact j3) := by simp only [e]
          rw [this, List.getElem_append_right (by omega)]
          exact List.getElem_mem _
        obtain ⟨_, t, t1, t2, t3, t4⟩ := hd _ hm
        have := iv.own t t2 t3
        rw [t4, j5, hown] at this
        omega
    · omega
  refine ⟨more_done h.ok _ h1 h2, ⟨D ++ [⟨2, (rd_T38 l i).f1, 0, []⟩], by rw [e, List.append_assoc], by rw [List.length_append, List.length_singleton]; omega, fun y hy => ?_⟩, fun j hj q1 q2 => ?_⟩
  · rcases List.mem_append.1 hy with hy | hy
    · obtain ⟨a, j, b, c⟩ := hd y hy
      exact ⟨a, j, by omega, c⟩
    · rw [List.mem_singleton.1 hy]
      exact ⟨rfl, i, by omega, hi, k, rfl⟩
  · rw [sub2_snoc]
    by_cases c : j = i
    · subst c; exact .inr ⟨rfl, rfl⟩
    · exact .inl (h.dn j (by omega) q1 q2)
/-- A completion of write i, among the events before n. -/
theorem sub2_from {l0 : List (List Int)} {l : List S38} (h : Ok l0 l) {i n : Nat} (hi : i < l.length) (hn : n ≤ l.length) (k : (rd_T38 l i).f0 = 1) : 0 ≤ subN 2 l (rd_T38 l i).f1 n ↔ ∃ j : Nat, i ≤ j ∧ j < n ∧ (rd_T38 l j).f0 = 2 ∧ (rd_T38 l j).f1 = (rd_T38 l i).f1 := by
  constructor
  · intro q
    obtain ⟨j, j1, j2, j3, j4, j5⟩ := subN_at 2 l _ _ q
    refine ⟨j, ?_, j2, j4, j5⟩
    obtain ⟨_, t, t1, t2, t3, t4⟩ := h.wr j3 j4
    obtain ⟨ids, iv⟩ := h.iv
    have e1 := iv.own t (by omega) t3
    have e2 := iv.own i hi k
    rw [t4, j5, e2] at e1
    omega
  · rintro ⟨j, j1, j2, j3, j4⟩
    exact (subN_of 2 l _ n j j2 (by omega) j3 j4).1
structure Done (l0 : List (List Int)) (l : List S38) : Prop where
  ok : checkE l0 l = 0
  fl : flE l l.length = l.length
  no : ∀ b, wrR l b 0 = []
theorem FI.done {l0 : List (List Int)} {l x : List S38} (h : FI l0 l l.length x) : Done l0 (x ++ [⟨3, 0, 0, []⟩]) := by
  refine ⟨more_flush h.ok, ?_, fun b => ?_⟩
  · rw [List.length_append, List.length_singleton, flE, rd_last, if_pos rfl]
  · unfold wrR
    rw [List.map_eq_nil_iff, List.filter_eq_nil_iff]
    intro y hy q
    simp only [Bool.and_eq_true, beq_iff_eq, decide_eq_true_eq] at q
    obtain ⟨⟨q1, _⟩, q2⟩ := q
    rw [List.drop_zero] at hy
    obtain ⟨D, e, _, hd⟩ := h.ex
    have hs : 0 ≤ subN 2 x y.f1 x.length := by
      rcases List.mem_append.1 hy with hy | hy
      · rw [e] at hy
        rcases List.mem_append.1 hy with hy | hy
        · obtain ⟨j, j1, rfl⟩ := List.getElem_of_mem hy
          rw [← rd38 l j j1] at q1 ⊢
          exact h.dn j j1 j1 q1
        · have := (hd y hy).1
          rw [q1] at this; exact absurd this (by decide)
      · rw [List.mem_singleton.1 hy] at q1; exact absurd q1 (by decide)
    have := (sub2_snoc x ⟨3, 0, 0, []⟩ y.f1).2 (.inl hs)
    omega
theorem Done.one {l0 : List (List Int)} {l : List S38} (h : Done l0 l) (b : Nat) : chR l0 l b = [uptoN l0 l l.length b] := by
  unfold chR
  rw [h.fl, h.no, List.append_nil]
  unfold dedL
  rw [if_neg (by simp)]
  unfold dedL
  rw [if_pos (by simp [eqB])]
  rfl
theorem lim_ones {α : Type} (f : Nat → α) : ∀ (ns : List Nat), limL (ns.map (fun b => [f b])) 1 = false
  | [] => rfl
  | n :: ns => by
    rw [List.map_cons, limL, if_neg (by simp)]
    exact lim_ones f ns
theorem prod_ones {α : Type} (f : Nat → α) : ∀ (ns : List Nat), prodL (ns.map (fun b => [f b])) = [ns.map f]
  | [] => rfl
  | n :: ns => by
    rw [List.map_cons, prodL, prod_ones f ns]; rfl
theorem Done.img {l0 : List (List Int)} {l : List S38} (h : Done l0 l) : imgA l0 l = ([allN l0 l l.length], 0) := by
  have e : csR l0 l = (List.range l0.length).map (fun b => [uptoN l0 l l.length b]) := by
    unfold csR
    exact List.map_congr_left (fun b _ => h.one b)
  unfold imgA
  rw [if_pos h.ok, e, lim_ones, prod_ones, if_neg (by decide)]; rfl
end Go.Proofs.Ytghmkmpgfpkfmaa.X
