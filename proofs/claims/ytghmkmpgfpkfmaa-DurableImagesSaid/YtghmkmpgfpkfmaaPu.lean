/- Plain laws of chapter 11: the possible images. -/
import Derived.Test.YtghmkmpgfpkfmaaPt
import Derived.Test.YtghmkmpgfpkfmaaX36
namespace Go.Proofs.Ytghmkmpgfpkfmaa.X
open Go.RowKit Go.Proofs.YtghmkmpgfpkfmaaW.PrintWords
set_option linter.unusedVariables false
theorem rdL4 (l : List (List (List Int))) (i : Nat) (h : i < l.length) : rd_L4 l i = l[i] := by
  unfold rd_L4; rw [List.getD_eq_getElem?_getD, Int.toNat_natCast, List.getElem?_eq_getElem h]; rfl
/-- Each image, with each of the contents of the next block. -/
def nxI {α : Type} (out : List (List α)) (c : List α) : List (List α) := out.flatMap (fun im => c.map (fun x => im ++ [x]))
theorem nxI_len {α : Type} (c : List α) : ∀ out : List (List α), (nxI out c).length = out.length * c.length
  | [] => by simp [nxI]
  | x :: out => by
    have := nxI_len c out
    unfold nxI at this ⊢
    rw [List.flatMap_cons, List.length_append, this, List.length_map, List.length_cons, Nat.add_mul]; omega
theorem nxI_prod {α : Type} : ∀ (cs : List (List α)) (out : List (List α)), cs.foldl nxI out = out.flatMap (fun im => (prodL cs).map (fun t => im ++ t))
  | [], out => by
    rw [List.foldl_nil]
    unfold prodL
    simp
  | c :: cs, out => by
    rw [List.foldl_cons, nxI_prod cs, prodL]
    unfold nxI
    simp only [List.flatMap_assoc, List.flatMap_map, List.map_flatMap, List.map_map, Function.comp_def, List.append_assoc, List.singleton_append]
theorem nxI_snoc {α : Type} (out : List (List α)) (im : List α) (c : List α) : nxI (out ++ [im]) c = nxI out c ++ c.map (fun x => im ++ [x]) := by
  unfold nxI; rw [List.flatMap_append]; simp
theorem img_l3 (l0 : List (List Int)) (l1 : List S38) (out : List (List (List Int))) (b : Int) (c : List (List Int)) (nxt : List (List (List Int))) (i j : Nat) (hi : i < out.length) (hj : j < c.length)
    (hn : nxt.length ≤ 1000000) (hb : out[i].length ≤ 1000000) (hx : ∀ x ∈ out[i], x.length ≤ 1000000) (hc : ∀ x ∈ c, x.length ≤ 1000000) (hjl : c.length ≤ 1000000) (R : List (List (List Int)) × Int)
    (h : Ev (fun k => estoversref11_Images.l2 k l0 l1 out b c (nxt ++ [out[i] ++ [c[j]]]) i (j + 1 : Nat)) R) : ∀ (d n : Nat), n + d = out[i].length → Ev (fun k => estoversref11_Images.l3 k l0 l1 out b c nxt i j (out[i].take n) n) R
  | 0, n, e => by
    refine Ev.step (fun k => by rw [estoversref11_Images.l3]) ?_
    rw [rdL4 out i hi, rdL1 c j hj]
    refine Ev.pos (by omega) (Ev.pos (by omega) (Ev.neg (by omega) (Ev.pos (by omega) (Ev.pos (by omega) (Ev.had (own_ev _ (hc _ (List.getElem_mem _))) (Ev.pos (by rw [List.length_take]; omega) (Ev.pos (by omega) ?_)))))))
    rw [pl_wrap j (by omega), List.take_of_length_le (by omega)]
    exact h
  | d + 1, n, e => by
    refine Ev.step (fun k => by rw [estoversref11_Images.l3]) ?_
    rw [rdL4 out i hi, rdL1 out[i] n (by omega)]
    refine Ev.pos (by omega) (Ev.pos (by omega) (Ev.pos (by omega) (Ev.pos (by omega) (Ev.had (own_ev _ (hx _ (List.getElem_mem _))) (Ev.pos (by rw [List.length_take]; omega) ?_)))))
    rw [pl_wrap n (by omega), ← List.take_succ_eq_append_getElem (by omega)]
    exact img_l3 l0 l1 out b c nxt i j hi hj hn hb hx hc hjl R h d (n + 1) (by omega)
theorem img_l2 (l0 : List (List Int)) (l1 : List S38) (out : List (List (List Int))) (b : Int) (c : List (List Int)) (nxt : List (List (List Int))) (i : Nat) (hi : i < out.length)
    (hn : nxt.length + c.length ≤ 1000000) (ho : out.length ≤ 1000000) (hb : out[i].length ≤ 1000000) (hx : ∀ x ∈ out[i], x.length ≤ 1000000) (hc : ∀ x ∈ c, x.length ≤ 1000000) (R : List (List (List Int)) × Int)
    (h : Ev (fun k => estoversref11_Images.l1 k l0 l1 out b c (nxt ++ c.map (fun x => out[i] ++ [x])) (i + 1 : Nat)) R) : ∀ (d j : Nat), j + d = c.length → Ev (fun k => estoversref11_Images.l2 k l0 l1 out b c (nxt ++ (c.take j).map (fun x => out[i] ++ [x])) i j) R
  | 0, j, e => by
    refine Ev.step (fun k => by rw [estoversref11_Images.l2]) ?_
    refine Ev.neg (by omega) ?_
    rw [pl_wrap i (by omega), List.take_of_length_le (by omega)]
    exact h
  | d + 1, j, e => by
    refine Ev.step (fun k => by rw [estoversref11_Images.l2]) ?_
    refine Ev.pos (by omega) (img_l3 l0 l1 out b c _ i j hi (by omega) (by rw [List.length_append, List.length_map, List.length_take]; omega) hb hx hc (by omega) R ?_ out[i].length 0 (by omega))
    have := img_l2 l0 l1 out b c nxt i hi hn ho hb hx hc R h d (j + 1) (by omega)
    rw [List.take_succ_eq_append_getElem (by omega), List.map_append, ← List.append_assoc] at this
    exact this
theorem img_l1 (l0 : List (List Int)) (l1 : List S38) (out : List (List (List Int))) (b : Nat) (c : List (List Int)) (ho : out.length ≤ 1000) (hcl : c.length ≤ 900) (hbl : b ≤ 100000)
    (hb : ∀ im ∈ out, im.length ≤ 1000000) (hx : ∀ im ∈ out, ∀ x ∈ im, x.length ≤ 1000000) (hc : ∀ x ∈ c, x.length ≤ 1000000) (R : List (List (List Int)) × Int)
    (h : Ev (fun k => estoversref11_Images.l0 k l0 l1 (nxI out c) (b + 1 : Nat)) R) : ∀ (d i : Nat), i + d = out.length → Ev (fun k => estoversref11_Images.l1 k l0 l1 out b c (nxI (out.take i) c) i) R
  | 0, i, e => by
    refine Ev.step (fun k => by rw [estoversref11_Images.l1]) ?_
    refine Ev.neg (by omega) ?_
    rw [pl_wrap b (by omega), List.take_of_length_le (by omega)]
    exact h
  | d + 1, i, e => by
    refine Ev.step (fun k => by rw [estoversref11_Images.l1]) ?_
    have hl : (nxI (out.take i) c).length ≤ 900000 := by
      rw [nxI_len, List.length_take]
      have : min i out.length * c.length ≤ 1000 * 900 := Nat.mul_le_mul (by omega) hcl
      omega
    have key := img_l2 l0 l1 out b c (nxI (out.take i) c) i (by omega) (by omega) (by omega) (hb _ (List.getElem_mem _)) (hx _ (List.getElem_mem _)) hc R ?_ c.length 0 (by omega)
    · refine Ev.pos (by omega) ?_
      rw [List.take_zero, List.map_nil, List.append_nil] at key
      exact key
    · have := img_l1 l0 l1 out b c ho hcl hbl hb hx hc R h d (i + 1) (by omega)
      rw [List.take_succ_eq_append_getElem (by omega), nxI_snoc] at this
      exact this
def csR (l0 : List (List Int)) (l1 : List S38) : List (List (List Int)) := (List.range l0.length).map (fun b => chR l0 l1 b)
theorem csR_len (l0 : List (List Int)) (l1 : List S38) : (csR l0 l1).length = l0.length := by unfold csR; rw [List.length_map, List.length_range]
theorem chR_32 {l0 : List (List Int)} {l1 : List S38} (ok : Ok l0 l1) (b : Nat) (hb : b < l0.length) : ∀ x ∈ chR l0 l1 b, x.length = 32 := by
  obtain ⟨ids, iv⟩ := ok.iv
  rw [← choices_same ok b hb]
  exact choicesL_len iv.wf b (by omega) (by omega)
theorem img_l0 (l0 : List (List Int)) (l1 : List S38) (ok : checkE l0 l1 = 0) (h0 : l0.length ≤ 1000) (h1 : l1.length ≤ 800) : ∀ (d b : Nat) (out : List (List (List Int))), b + d = l0.length → out.length ≤ 64 → (∀ im ∈ out, im.length = b) → (∀ im ∈ out, ∀ x ∈ im, x.length = 32) →
    Ev (fun k => estoversref11_Images.l0 k l0 l1 out b) (if limL ((csR l0 l1).drop b) out.length = true then ([], 9) else (((csR l0 l1).drop b).foldl nxI out, 0))
  | 0, b, out, e, ho, hb, hx => by
    refine Ev.step (fun k => by rw [estoversref11_Images.l0]) ?_
    rw [List.drop_of_length_le (by rw [csR_len]; omega)]
    refine Ev.to (if_neg (by unfold limL; decide)) (Ev.neg (by omega) (Ev.now _))
  | d + 1, b, out, e, ho, hb, hx => by
    refine Ev.step (fun k => by rw [estoversref11_Images.l0]) ?_
    have hcl := chR_len l0 l1 b
    have hd : (csR l0 l1).drop b = chR l0 l1 b :: (csR l0 l1).drop (b + 1) := by
      rw [List.drop_eq_getElem_cons (by rw [csR_len]; omega)]
      congr 1
      unfold csR; rw [List.getElem_map, List.getElem_range]
    have hm : wrap64 ((out.length : Int) * ((chR l0 l1 b).length : Int)) = (out.length : Int) * ((chR l0 l1 b).length : Int) := by
      have : out.length * (chR l0 l1 b).length ≤ 64 * 802 := Nat.mul_le_mul ho (by omega)
      have e : (out.length : Int) * ((chR l0 l1 b).length : Int) = ((out.length * (chR l0 l1 b).length : Nat) : Int) := by simp
      rw [e]
      generalize out.length * (chR l0 l1 b).length = q at this
      unfold wrap64; omega
    refine Ev.pos (by omega) (Ev.had (choicesR_val l0 l1 b (by omega) (by omega) ok (by omega) (by omega)) ?_)
    rw [Int.toNat_natCast, hd, hm]
    by_cases c : (out.length : Int) * ((chR l0 l1 b).length : Int) > 64
    · refine Ev.to (if_pos (by unfold limL; rw [if_pos c])) (Ev.pos c (Ev.now _))
    · refine Ev.neg c ?_
      have hl : limL (chR l0 l1 b :: (csR l0 l1).drop (b + 1)) (out.length : Int) = limL ((csR l0 l1).drop (b + 1)) ((nxI out (chR l0 l1 b)).length : Int) := by
        rw [limL, if_neg c, nxI_len]; simp
      have c2 : out.length * (chR l0 l1 b).length ≤ 64 := by
        have e : (out.length : Int) * ((chR l0 l1 b).length : Int) = ((out.length * (chR l0 l1 b).length : Nat) : Int) := by simp
        rw [e] at c; omega
      rw [hl, List.foldl_cons]
      have ih := img_l0 l0 l1 ok h0 h1 d (b + 1) (nxI out (chR l0 l1 b)) (by omega) (by rw [nxI_len]; exact c2) (by
        intro im h
        obtain ⟨q, q1, q2⟩ := List.mem_flatMap.1 h
        obtain ⟨x, x1, rfl⟩ := List.mem_map.1 q2
        rw [List.length_append, hb q q1]; rfl) (by
        intro im h
        obtain ⟨q, q1, q2⟩ := List.mem_flatMap.1 h
        obtain ⟨x, x1, rfl⟩ := List.mem_map.1 q2
        intro y hy
        rcases List.mem_append.1 hy with hy | hy
        · exact hx q q1 y hy
        · rw [List.mem_singleton.1 hy]; exact chR_32 (ok_of ok) b (by omega) x x1)
      exact img_l1 l0 l1 out b (chR l0 l1 b) (by omega) (by omega) (by omega) (fun im h => by rw [hb im h]; omega) (fun im h x hx' => by rw [hx im h x hx']; decide) (fun x h => by rw [chR_32 (ok_of ok) b (by omega) x h]; decide) _ ih out.length 0 (by omega)
def imgA (l0 : List (List Int)) (l1 : List S38) : List (List (List Int)) × Int := if checkE l0 l1 = 0 then (if limL (csR l0 l1) 1 = true then ([], 9) else (prodL (csR l0 l1), 0)) else ([], checkE l0 l1)
theorem images_ev (l0 : List (List Int)) (l1 : List S38) (h0 : l0.length ≤ 1000) (h1 : l1.length ≤ 800) : Ev (fun k => estoversref11_Images.f k l0 l1) (imgA l0 l1) := by
  unfold estoversref11_Images.f imgA
  refine Ev.bind (check_ev l0 l1 (by omega) (by omega)) ?_
  by_cases c : checkE l0 l1 = 0
  · refine Ev.to (if_pos c) (Ev.pos c ?_)
    have := img_l0 l0 l1 c h0 h1 l0.length 0 [[]] (by omega) (by decide) (by intro im h; rw [List.mem_singleton.1 h]; rfl) (by intro im h; rw [List.mem_singleton.1 h]; intro x hx; cases hx)
    rw [List.drop_zero, nxI_prod] at this
    have e : [[]].flatMap (fun im : List (List Int) => (prodL (csR l0 l1)).map (fun t => im ++ t)) = prodL (csR l0 l1) := by simp
    rw [e] at this
    exact this
  · exact Ev.to (if_neg c) (Ev.neg c (Ev.now _))
theorem csL_csR {l0 : List (List Int)} {l1 : List S38} (c : checkE l0 l1 = 0) : csL (afterL l0 l1).2 l0.length = csR l0 l1 := by
  unfold csL csR
  refine List.map_congr_left (fun i hi => ?_)
  exact choices_same (ok_of c) i (List.mem_range.1 hi)
theorem images_val (l0 : List (List Int)) (l1 : List S38) (h0 : l0.length ≤ 1000) (h1 : l1.length ≤ 800) : durable_Images.f l0 l1 = some (imgA l0 l1) := by
  unfold durable_Images.f imgA
  rw [if_pos ⟨by omega, by omega⟩, (after_iv l0 l1).1]
  by_cases c : checkE l0 l1 = 0
  · rw [if_neg (show ¬ checkE l0 l1 ≠ 0 from fun q => q c), if_pos c, csL_csR c]
  · rw [if_pos (show checkE l0 l1 ≠ 0 from c), if_neg c]
theorem prodL_mem {α : Type} : ∀ (cs : List (List α)) (t : List α), t ∈ prodL cs → t.length = cs.length
  | [], t, h => by rw [List.mem_singleton.1 h]; rfl
  | c :: cs, t, h => by
    rw [prodL] at h
    obtain ⟨x, _, h⟩ := List.mem_flatMap.1 h
    obtain ⟨u, hu, rfl⟩ := List.mem_map.1 h
    rw [List.length_cons, prodL_mem cs u hu]; rfl
theorem imgA_len (l0 : List (List Int)) (l1 : List S38) : (imgA l0 l1).1.length ≤ 64 ∧ ∀ im ∈ (imgA l0 l1).1, im.length = l0.length := by
  unfold imgA
  split
  · split
    · exact ⟨by decide, fun im h => by cases h⟩
    · rename_i h
      have := prodL_len (csR l0 l1) 1 (by simpa using h) (by decide)
      exact ⟨by simpa using this, fun im h => by rw [prodL_mem _ im h, csR_len]⟩
  · exact ⟨Nat.zero_le _, fun im h => by cases h⟩
end Go.Proofs.Ytghmkmpgfpkfmaa.X
