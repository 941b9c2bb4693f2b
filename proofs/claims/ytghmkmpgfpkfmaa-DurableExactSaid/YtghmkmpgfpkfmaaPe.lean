/- Plain laws of chapter 11: the images are different, as many as the products, and all allowed. -/
import Derived.Test.YtghmkmpgfpkfmaaPy
import Derived.Test.YtghmkmpgfpkfmaaDq
namespace Go.Proofs.Ytghmkmpgfpkfmaa.X
open Go.RowKit Go.Proofs.YtghmkmpgfpkfmaaW.PrintWords
set_option linter.unusedVariables false
theorem eqB_refl (a : List Int) : eqB a a = true := by unfold eqB; exact beq_self_eq_true _
theorem eqB_symm (a b : List Int) : eqB a b = eqB b a := by unfold eqB; exact Bool.eq_iff_iff.2 (by rw [beq_iff_eq, beq_iff_eq]; exact eq_comm)
def sameL : List (List Int) → List (List Int) → Bool
  | [], [] => true
  | x :: a, y :: b => eqB x y && sameL a b
  | _, _ => false
theorem sameL_len : ∀ a b : List (List Int), sameL a b = true → a.length = b.length
  | [], [], _ => rfl
  | x :: a, y :: b, h => by
    rw [sameL, Bool.and_eq_true] at h
    rw [List.length_cons, List.length_cons, sameL_len a b h.2]
  | [], y :: b, h => by cases h
  | x :: a, [], h => by cases h
theorem sameL_symm : ∀ a b : List (List Int), sameL a b = sameL b a
  | [], [] => rfl
  | x :: a, y :: b => by rw [sameL, sameL, sameL_symm a b, eqB_symm]
  | [], y :: b => rfl
  | x :: a, [] => rfl
theorem same2_l0 (a b : List (List Int)) (hl : a.length = b.length) (ha : a.length ≤ 1000000) : ∀ (d i : Nat), i + d = a.length → Ev (fun k => estoversref11_Same.l0 k a b i) (sameL (a.drop i) (b.drop i))
  | 0, i, e => by
    refine Ev.step (fun k => by rw [estoversref11_Same.l0]) ?_
    rw [List.drop_of_length_le (by omega), List.drop_of_length_le (by omega)]
    exact Ev.neg (by omega) (Ev.now _)
  | d + 1, i, e => by
    refine Ev.step (fun k => by rw [estoversref11_Same.l0]) ?_
    refine Ev.pos (by omega) (Ev.pos (by omega) (Ev.pos (by omega) ?_))
    rw [List.drop_eq_getElem_cons (by omega : i < a.length), List.drop_eq_getElem_cons (by omega : i < b.length), rdL1 a i (by omega), rdL1 b i (by omega), sameL]
    by_cases c : (strOfNums a[i]).toList = (strOfNums (b[i]'(by omega))).toList
    · have e1 : eqB a[i] (b[i]'(by omega)) = true := by unfold eqB; exact beq_iff_eq.2 c
      rw [e1, Bool.true_and]
      refine Ev.pos c ?_
      rw [pl_wrap i (by omega)]
      exact same2_l0 a b hl ha d (i + 1) (by omega)
    · have e1 : eqB a[i] (b[i]'(by omega)) = false := by unfold eqB; exact beq_eq_false_iff_ne.2 c
      rw [e1, Bool.false_and]
      exact Ev.neg c (Ev.now _)
theorem same2_ev (a b : List (List Int)) (ha : a.length ≤ 1000000) : Ev (fun k => estoversref11_Same.f k a b) (sameL a b) := by
  unfold estoversref11_Same.f
  by_cases c : a.length = b.length
  · exact Ev.pos (by omega) (same2_l0 a b c ha a.length 0 (by omega))
  · have : sameL a b = false := by
      cases e : sameL a b with
      | false => rfl
      | true => exact absurd (sameL_len a b e) c
    rw [this]
    exact Ev.neg (by omega) (Ev.now _)
theorem dedL_grow : ∀ (l out : List (List Int)), out.length ≤ (dedL l out).length
  | [], out => Nat.le_refl _
  | x :: l, out => by
    rw [dedL]
    split
    · exact dedL_grow l out
    · have := dedL_grow l (out ++ [x]); rw [List.length_append, List.length_singleton] at this; omega
theorem chR_pos (l0 : List (List Int)) (l : List S38) (b : Nat) : 0 < (chR l0 l b).length := by
  unfold chR
  rw [List.cons_append, dedL_put]
  have := dedL_grow ([uptoN l0 l l.length b] ++ wrR l b 0) (putL [] (uptoN l0 l (flE l l.length) b))
  unfold putL at this ⊢
  rw [if_neg (by simp)] at this ⊢
  simp only [List.nil_append, List.length_cons, List.length_nil] at this ⊢
  omega
theorem dedL_pw : ∀ (l out : List (List Int)), out.Pairwise (fun x y => eqB x y = false) → (dedL l out).Pairwise (fun x y => eqB x y = false)
  | [], out, h => h
  | b :: l, out, h => by
    rw [dedL]
    split
    · exact dedL_pw l out h
    · rename_i c
      refine dedL_pw l _ (List.pairwise_append.2 ⟨h, List.pairwise_singleton _ _, fun x hx y hy => ?_⟩)
      rw [List.mem_singleton.1 hy]
      cases e : eqB x b with
      | false => rfl
      | true => exact absurd (List.any_eq_true.2 ⟨x, hx, by rw [eqB_symm]; exact e⟩) c
theorem dedL_out : ∀ (l out : List (List Int)) (b : List Int), b ∈ out → b ∈ dedL l out
  | [], out, b, h => h
  | x :: l, out, b, h => by
    rw [dedL]
    split
    · exact dedL_out l out b h
    · exact dedL_out l _ b (List.mem_append.2 (.inl h))
theorem dedL_has : ∀ (l out : List (List Int)) (b : List Int), b ∈ l → ∃ y ∈ dedL l out, eqB y b = true
  | [], out, b, h => by cases h
  | x :: l, out, b, h => by
    rw [dedL]
    rcases List.mem_cons.1 h with rfl | h
    · split
      · rename_i c
        obtain ⟨y, hy, e⟩ := List.any_eq_true.1 c
        exact ⟨y, dedL_out l out y hy, by rw [eqB_symm]; exact e⟩
      · exact ⟨b, dedL_out l _ b (List.mem_append.2 (.inr (List.mem_singleton.2 rfl))), eqB_refl b⟩
    · split
      · exact dedL_has l out b h
      · exact dedL_has l _ b h
theorem prod_pw : ∀ cs : List (List (List Int)), (∀ c ∈ cs, c.Pairwise (fun x y => eqB x y = false)) → (prodL cs).Pairwise (fun s t => sameL t s = false)
  | [], _ => List.pairwise_singleton _ _
  | c :: cs, h => by
    have ih := prod_pw cs (fun d hd => h d (List.mem_cons_of_mem _ hd))
    have hc := h c List.mem_cons_self
    rw [prodL]
    have key : ∀ c : List (List Int), c.Pairwise (fun x y => eqB x y = false) → (c.flatMap (fun x => (prodL cs).map (fun t => x :: t))).Pairwise (fun s t => sameL t s = false) := by
      intro c
      induction c with
      | nil => intro _; exact List.Pairwise.nil
      | cons x c hi =>
        intro hc
        rw [List.pairwise_cons] at hc
        rw [List.flatMap_cons]
        refine List.pairwise_append.2 ⟨List.pairwise_map.2 (ih.imp (fun {s t} e => by rw [sameL, e, Bool.and_false])), hi hc.2, fun a ha b hb => ?_⟩
        obtain ⟨s, _, rfl⟩ := List.mem_map.1 ha
        obtain ⟨y, hy, hb⟩ := List.mem_flatMap.1 hb
        obtain ⟨t, _, rfl⟩ := List.mem_map.1 hb
        rw [sameL, eqB_symm, hc.1 y hy, Bool.false_and]
    exact key c hc
theorem csR_pw (l0 : List (List Int)) (l1 : List S38) : ∀ c ∈ csR l0 l1, c.Pairwise (fun x y => eqB x y = false) := by
  intro c hc
  unfold csR at hc
  obtain ⟨b, _, rfl⟩ := List.mem_map.1 hc
  exact dedL_pw _ _ List.Pairwise.nil
/-- Two images at different places are different. -/
theorem imgs_ne (l0 : List (List Int)) (l1 : List S38) (i j : Nat) (hij : j < i) (hi : i < (prodL (csR l0 l1)).length) : sameL (prodL (csR l0 l1))[i] ((prodL (csR l0 l1))[j]'(by omega)) = false :=
  List.pairwise_iff_getElem.1 (prod_pw _ (csR_pw l0 l1)) j i (by omega) hi hij
theorem al_prod (st : StL) : ∀ (cs : List (List (List Int))) (im : List (List Int)) (i : Nat), im ∈ prodL cs → (∀ j (h : j < cs.length), choicesL st ((i + j : Nat) : Int) = cs[j]) → alF st im i = true
  | [], im, i, h, _ => by rw [List.mem_singleton.1 h]; rfl
  | c :: cs, im, i, h, hc => by
    rw [prodL] at h
    obtain ⟨x, hx, h⟩ := List.mem_flatMap.1 h
    obtain ⟨t, ht, rfl⟩ := List.mem_map.1 h
    have h0 := hc 0 (by rw [List.length_cons]; omega)
    rw [Nat.add_zero, List.getElem_cons_zero] at h0
    rw [alF, h0, List.any_eq_true.2 ⟨x, hx, eqB_refl x⟩, Bool.true_and]
    have ih := al_prod st cs t (i + 1) ht (fun j hj => by
      have := hc (j + 1) (by rw [List.length_cons]; omega)
      rw [List.getElem_cons_succ] at this
      rw [← this]; congr 2; omega)
    exact ih
theorem allows_all {l0 : List (List Int)} {l1 : List S38} (ok : checkE l0 l1 = 0) (h0 : l0.length ≤ 1000) (h1 : l1.length ≤ 800) (im : List (List Int)) (hm : im ∈ prodL (csR l0 l1)) : durable_Allows.f l0 l1 im = some (true, 0) := by
  have hl : im.length = l0.length := by rw [prodL_mem _ im hm, csR_len]
  have ha : alF (afterL l0 l1).2 im 0 = true := al_prod _ (csR l0 l1) im 0 hm (fun j hj => by
    rw [csR_len] at hj
    rw [Nat.zero_add, choices_same (ok_of ok) j hj]
    simp only [csR, List.getElem_map, List.getElem_range])
  unfold durable_Allows.f
  rw [if_pos ⟨by omega, by omega⟩, (after_iv l0 l1).1, if_neg (show ¬ checkE l0 l1 ≠ 0 from fun q => q ok), if_neg (show ¬ im.length ≠ l0.length from fun q => q hl), ha]
theorem prod_hit : ∀ (ns : List Nat) (c : Nat → List (List Int)) (u : Nat → List Int), (∀ n ∈ ns, ∃ y ∈ c n, eqB y (u n) = true) → ∃ im ∈ prodL (ns.map c), sameL im (ns.map u) = true
  | [], c, u, _ => ⟨[], by simp [prodL], rfl⟩
  | n :: ns, c, u, h => by
    obtain ⟨y, hy, e⟩ := h n List.mem_cons_self
    obtain ⟨im, hi, e2⟩ := prod_hit ns c u (fun m hm => h m (List.mem_cons_of_mem _ hm))
    refine ⟨y :: im, ?_, by rw [List.map_cons, sameL, e, e2]; rfl⟩
    rw [List.map_cons, prodL]
    exact List.mem_flatMap.2 ⟨y, hy, List.mem_map.2 ⟨im, hi, rfl⟩⟩
theorem hit_latest (l0 : List (List Int)) (l1 : List S38) : ∃ im ∈ prodL (csR l0 l1), sameL im (allN l0 l1 l1.length) = true :=
  prod_hit (List.range l0.length) _ _ (fun n _ => dedL_has _ _ _ (by simp))
theorem hit_sure (l0 : List (List Int)) (l1 : List S38) : ∃ im ∈ prodL (csR l0 l1), sameL im (allN l0 l1 (flE l1 l1.length)) = true :=
  prod_hit (List.range l0.length) _ _ (fun n _ => dedL_has _ _ _ (by simp))
/-- The product that the law makes: never above 1000. -/
def nF {α : Type} : List (List α) → Int → Int
  | [], n => n
  | c :: cs, n => nF cs (min (n * (c.length : Int)) 1000)
theorem nF_big {α : Type} : ∀ (cs : List (List α)) (n : Int), (∀ c ∈ cs, 0 < c.length) → 64 < n → 64 < nF cs n
  | [], n, _, h => h
  | c :: cs, n, hc, h => by
    have h1 := hc c List.mem_cons_self
    have h2 : n * 1 ≤ n * (c.length : Int) := Int.mul_le_mul_of_nonneg_left (by omega) (by omega)
    exact nF_big cs _ (fun d hd => hc d (List.mem_cons_of_mem _ hd)) (by omega)
theorem nF_lim {α : Type} : ∀ (cs : List (List α)) (n : Int), (∀ c ∈ cs, 0 < c.length) → 0 < n → limL cs n = true → 64 < nF cs n
  | [], n, _, _, h => by cases h
  | c :: cs, n, hc, h0, h => by
    have h1 := hc c List.mem_cons_self
    have h2 : n * 1 ≤ n * (c.length : Int) := Int.mul_le_mul_of_nonneg_left (by omega) (by omega)
    rw [limL] at h
    rw [nF]
    split at h
    · exact nF_big cs _ (fun d hd => hc d (List.mem_cons_of_mem _ hd)) (by omega)
    · rw [show min (n * (c.length : Int)) 1000 = n * (c.length : Int) by omega]
      exact nF_lim cs _ (fun d hd => hc d (List.mem_cons_of_mem _ hd)) (by omega) h
theorem nF_fit {α : Type} : ∀ (cs : List (List α)) (n : Nat), limL cs (n : Int) = false → n ≤ 64 → nF cs (n : Int) = ((n * (prodL cs).length : Nat) : Int)
  | [], n, _, h => by simp [nF, prodL]
  | c :: cs, n, h, hn => by
    rw [limL] at h
    rw [nF]
    split at h
    · cases h
    · rename_i q
      have e : (n : Int) * (c.length : Int) = ((n * c.length : Nat) : Int) := by simp
      rw [e] at h q
      rw [e, show min (((n * c.length : Nat) : Int)) 1000 = ((n * c.length : Nat) : Int) by omega, nF_fit cs (n * c.length) h (by omega)]
      have el : (prodL (c :: cs)).length = c.length * (prodL cs).length := by
        simp only [prodL]
        exact flat_const _ _
      rw [el, Nat.mul_assoc]
end Go.Proofs.Ytghmkmpgfpkfmaa.X
