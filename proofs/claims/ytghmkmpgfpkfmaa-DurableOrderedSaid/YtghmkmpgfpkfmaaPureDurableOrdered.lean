/- The plain statement of DurableOrdered. -/
import Derived.Test.YtghmkmpgfpkfmaaPw
import Derived.Test.YtghmkmpgfpkfmaaX41
import Derived.Test.YtghmkmpgfpkfmaaRd
namespace Go.Proofs.Ytghmkmpgfpkfmaa.X
open Go.RowKit Go.Proofs.YtghmkmpgfpkfmaaW.PrintWords
set_option linter.unusedVariables false
/-- What the law knows: write a at s in block blk, complete at c, a flush at p, write b at t. -/
structure Sep (l0 : List (List Int)) (l : List S38) (a b : Int) (s c p t blk : Nat) : Prop where
  ok : checkE l0 l = 0
  hs : subN 1 l a l.length = s
  hc : subN 2 l a l.length = c
  ht : subN 1 l b l.length = t
  cp : c ≤ p
  pt : p < t
  h3 : (rd_T38 l p).f0 = 3
  bk : (rd_T38 l s).f2 = blk
  bl : blk < l0.length
theorem sep_of {l0 : List (List Int)} {l : List S38} {a b : Int} (ok : checkE l0 l = 0) (h : (ordR l a b).1 = true) : ∃ s c p t blk, Sep l0 l a b s c p t blk := by
  unfold ordR at h
  by_cases q : 0 ≤ subN 1 l a l.length ∧ 0 ≤ subN 1 l b l.length
  · rw [if_pos q] at h
    by_cases d : 0 ≤ subN 2 l a l.length
    · replace h : hasF l ((subN 1 l b l.length).toNat - (subN 2 l a l.length).toNat) (subN 2 l a l.length).toNat = true := by rw [if_pos d] at h; exact h
      obtain ⟨p, p1, p2, p3⟩ := (hasF_iff l _ _).1 h
      obtain ⟨s, s1, s2, s3, s4, s5⟩ := subN_at 1 l a _ q.1
      have hw := (ok_of ok).write s3 s4
      refine ⟨s, (subN 2 l a l.length).toNat, p, (subN 1 l b l.length).toNat, (rd_T38 l s).f2.toNat, ok, s1, by omega, by omega, p1, by omega, p3, by omega, by omega⟩
    · rw [if_neg d] at h; cases h
  · rw [if_neg q] at h; cases h
theorem Sep.cont {l0 : List (List Int)} {l : List S38} {a b : Int} {s c p t blk : Nat} (h : Sep l0 l a b s c p t blk) (n : Nat) (hn : t < n) (hn2 : n ≤ l.length) : checkE l0 (l.take n) = 0 ∧ ∀ x ∈ chR l0 (l.take n) blk, ∃ i, Wit l (rd_T38 l s).f2 x c i := by
  have ok2 := check_less h.ok n
  refine ⟨ok2, fun x hx => ?_⟩
  obtain ⟨c', c0, c1, c2, c3, c4⟩ := subN_at 2 l a l.length (by rw [h.hc]; omega)
  obtain rfl : c' = c := by have := h.hc; omega
  have cp := h.cp
  have pt := h.pt
  have hlen : (l.take n).length = n := by rw [List.length_take]; omega
  have rt : ∀ i, i < n → rd_T38 (l.take n) i = rd_T38 l i := fun i hi => by
    have := rd_app (l.take n) (l.drop n) i (by rw [hlen]; exact hi)
    rw [List.take_append_drop] at this; exact this.symm
  have st : ∀ kd id m, m ≤ n → subN kd (l.take n) id m = subN kd l id m := fun kd id m hm => by
    have := sub_app kd (l.take n) (l.drop n) id m (by rw [hlen]; exact hm)
    rw [List.take_append_drop] at this; exact this.symm
  obtain ⟨_, j, j1, j2, j3, j4⟩ := (ok_of h.ok).wr c2 c3
  have js : j = s := by
    obtain ⟨ids, iv⟩ := (ok_of h.ok).iv
    have := iv.own j (by omega) j3
    rw [j4, c4, h.hs] at this; omega
  have hb : (wrN (l.take n) c').f2 = blk := by
    unfold wrN
    rw [rt c' (by omega), st 1 _ c' (by omega), j1, rt j (by omega), js, h.bk]
  obtain ⟨i, i1, i2, i3, i4, i5⟩ := behind (ok_of ok2) blk c' p (by rw [hlen]; omega) cp (by rw [rt p (by omega)]; exact h.h3) (by rw [rt c' (by omega)]; exact c3) hb x hx
  rw [hlen] at i1
  rw [rt i i1] at i2 i3 i4 i5
  exact ⟨i, by omega, i2, by rw [i3, h.bk], i4, fun q q1 q2 q3 => i5 q q1 q2 (by rw [rt q (by omega)]; exact q3)⟩
theorem ord_l2 {l0 : List (List Int)} {l : List S38} {a b : Int} {s c p t blk : Nat} (h : Sep l0 l a b s c p t blk) (hl : l.length ≤ 800) (n : Nat) (hn : t < n) (hn2 : n ≤ l.length) (R : Bool)
    (hR : Ev (fun k => estoverslaw11_DurableOrdered.l1 k a blk (n + 1 : Nat) l0 l) R) (e1 : R = true) : ∀ (d i : Nat), i + d = (chR l0 (l.take n) blk).length → Ev (fun k => estoverslaw11_DurableOrdered.l2 k a blk n (chR l0 (l.take n) blk) i l0 l) R
  | 0, i, e => by
    refine Ev.step (fun k => by rw [estoverslaw11_DurableOrdered.l2]) ?_
    refine Ev.neg (by omega) ?_
    rw [pl_wrap n (by omega)]; exact hR
  | d + 1, i, e => by
    refine Ev.step (fun k => by rw [estoverslaw11_DurableOrdered.l2]) ?_
    have hcl := chR_len l0 (l.take n) blk
    rw [List.length_take] at hcl
    refine Ev.pos (by omega) (Ev.pos (by omega) ?_)
    rw [rdL1 _ i (by omega)]
    have hw := (h.cont n hn hn2).2 (chR l0 (l.take n) blk)[i] (List.getElem_mem _)
    refine Ev.bind (settled_ev (ok_of h.ok) (by omega) a _ s c h.hs h.hc hw) (Ev.pos rfl ?_)
    rw [pl_wrap i (by omega)]
    exact ord_l2 h hl n hn hn2 R hR e1 d (i + 1) (by omega)
theorem ord_l1 {l0 : List (List Int)} {l : List S38} {a b : Int} {s c p t blk : Nat} (h : Sep l0 l a b s c p t blk) (h0 : l0.length ≤ 1000) (hl : l.length ≤ 800) : ∀ (d n : Nat), t < n → n + d = l.length + 1 → Ev (fun k => estoverslaw11_DurableOrdered.l1 k a blk n l0 l) true
  | 0, n, hn, e => by
    refine Ev.step (fun k => by rw [estoverslaw11_DurableOrdered.l1]) ?_
    exact Ev.neg (by omega) awake_some
  | d + 1, n, hn, e => by
    refine Ev.step (fun k => by rw [estoverslaw11_DurableOrdered.l1]) ?_
    have ih := ord_l1 h h0 hl d (n + 1) (by omega) (by omega)
    have hv := choices_val l0 (l.take n) (by omega) (by rw [List.length_take]; omega) blk
    have hb := h.bl
    unfold chA at hv
    rw [if_pos (h.cont n hn (by omega)).1, if_neg (by omega), Int.toNat_natCast] at hv
    have hp := chR_pos l0 (l.take n) blk
    refine Ev.pos (by omega) (Ev.pos (by omega) ?_)
    rw [Int.toNat_natCast]
    refine Ev.had hv (Ev.pos rfl (Ev.step (fun k => by rw [estoverslaw11_DurableOrdered.j6]) (Ev.neg ?_ ?_)))
    · intro q
      have := beq_iff_eq.1 q
      show False
      have e2 : ((chR l0 (l.take n) blk).length : Int) = 0 := this
      omega
    · exact ord_l2 h hl n hn (by omega) true ih rfl _ 0 (Nat.zero_add _)
theorem ord_l0 {l0 : List (List Int)} {l : List S38} {a b : Int} {s c p t blk : Nat} (h : Sep l0 l a b s c p t blk) (h0 : l0.length ≤ 1000) (hl : l.length ≤ 800) : ∀ (d j : Nat), j + d = l.length → Ev (fun k => estoverslaw11_DurableOrdered.l0 k a b (if s < j then (blk : Int) else -1) (if t < j then (t : Int) + 1 else -1) j l0 l) true
  | 0, j, e => by
    have hs1 := subN_lt 1 l a l.length
    have ht1 := subN_lt 1 l b l.length
    have hs := h.hs
    have ht := h.ht
    rw [if_pos (by omega), if_pos (by omega)]
    refine Ev.step (fun k => by rw [estoverslaw11_DurableOrdered.l0]) ?_
    refine Ev.neg (by omega) (Ev.neg (by omega) (Ev.step (fun k => by rw [estoverslaw11_DurableOrdered.j4]) (Ev.neg (by rw [decide_eq_true_eq]; omega) ?_)))
    have := ord_l1 h h0 hl (l.length - t) (t + 1) (by omega) (by omega)
    exact this
  | d + 1, j, e => by
    refine Ev.step (fun k => by rw [estoverslaw11_DurableOrdered.l0]) ?_
    have ih := ord_l0 h h0 hl d (j + 1) (by omega)
    obtain ⟨ids, iv⟩ := (ok_of h.ok).iv
    have hs := h.hs
    have ht := h.ht
    obtain ⟨s', s0, s1, s2, s3, s4⟩ := subN_at 1 l a l.length (by omega)
    obtain ⟨t', t0, t1, t2, t3, t4⟩ := subN_at 1 l b l.length (by omega)
    obtain rfl : s' = s := by omega
    obtain rfl : t' = t := by omega
    have key1 : (rd_T38 l j).f0 = 1 → (rd_T38 l j).f1 = a → j = s' := fun q1 q2 => by
      have := iv.own j (by omega) q1
      rw [q2] at this; omega
    have key2 : (rd_T38 l j).f0 = 1 → (rd_T38 l j).f1 = b → j = t' := fun q1 q2 => by
      have := iv.own j (by omega) q1
      rw [q2] at this; omega
    have w1 : j ≠ s' → (if s' < j + 1 then (blk : Int) else -1) = if s' < j then (blk : Int) else -1 := fun q => by
      by_cases r : s' < j
      · rw [if_pos r, if_pos (by omega)]
      · rw [if_neg r, if_neg (by omega)]
    have w2 : j = s' → (if s' < j + 1 then (blk : Int) else -1) = (rd_T38 l j).f2 := fun q => by rw [if_pos (by omega), q, h.bk]
    have a1 : j ≠ t' → (if t' < j + 1 then (t' : Int) + 1 else -1) = if t' < j then (t' : Int) + 1 else -1 := fun q => by
      by_cases r : t' < j
      · rw [if_pos r, if_pos (by omega)]
      · rw [if_neg r, if_neg (by omega)]
    have a2 : j = t' → (if t' < j + 1 then (t' : Int) + 1 else -1) = ((j + 1 : Nat) : Int) := fun q => by rw [if_pos (by omega), q]; rfl
    have no : ∀ x : Int, Ev (fun k => estoverslaw11_DurableOrdered.l0 k a b x (if t' < j + 1 then (t' : Int) + 1 else -1) (j + 1 : Nat) l0 l) true → Ev (fun k => if (rd_T38 l j).f0 = 1 then (if (rd_T38 l j).f1 = b then estoverslaw11_DurableOrdered.l0 k a b x (wrap64 ((j : Int) + 1)) (wrap64 ((j : Int) + 1)) l0 l else estoverslaw11_DurableOrdered.l0 k a b x (if t' < j then (t' : Int) + 1 else -1) (wrap64 ((j : Int) + 1)) l0 l) else estoverslaw11_DurableOrdered.l0 k a b x (if t' < j then (t' : Int) + 1 else -1) (wrap64 ((j : Int) + 1)) l0 l) true := fun x hx => by
      rw [pl_wrap j (by omega)]
      by_cases q1 : (rd_T38 l j).f0 = 1
      · refine Ev.pos q1 ?_
        by_cases q2 : (rd_T38 l j).f1 = b
        · rw [a2 (key2 q1 q2)] at hx
          exact Ev.pos q2 hx
        · rw [a1 (fun r => q2 (by rw [r, t4]))] at hx
          exact Ev.neg q2 hx
      · rw [a1 (fun r => q1 (by rw [r, t3]))] at hx
        exact Ev.neg q1 hx
    refine Ev.pos (by omega) (Ev.pos (by omega) ?_)
    by_cases q1 : (rd_T38 l j).f0 = 1
    · refine Ev.pos q1 (Ev.step (fun k => by rw [estoverslaw11_DurableOrdered.j3]) ?_)
      by_cases q2 : (rd_T38 l j).f1 = a
      · rw [w2 (key1 q1 q2)] at ih
        exact Ev.pos (beq_iff_eq.2 q2) (Ev.pos (by omega) (Ev.pos (by omega) (no _ ih)))
      · rw [w1 (fun r => q2 (by rw [r, s4]))] at ih
        exact Ev.neg (fun r => q2 (beq_iff_eq.1 r)) (Ev.pos (by omega) (Ev.pos (by omega) (no _ ih)))
    · rw [w1 (fun r => q1 (by rw [r, s3]))] at ih
      exact Ev.neg q1 (Ev.step (fun k => by rw [estoverslaw11_DurableOrdered.j3]) (Ev.neg (by decide) (Ev.pos (by omega) (Ev.pos (by omega) (no _ ih)))))
end Go.Proofs.Ytghmkmpgfpkfmaa.X
namespace Go.Proofs.Ytghmkmpgfpkfmaa.Pure
open Go.RowKit Go.Proofs.Ytghmkmpgfpkfmaa.X Go.Proofs.YtghmkmpgfpkfmaaW.PrintWords
theorem DurableOrdered : ∀ (s0 : S25) (a1 : Int) (a2 : Int), G25 s0 → (Lit.int .i64 a1).wf = true → (Lit.int .i64 a2).wf = true → ∃ k, estoverslaw11_DurableOrdered.f k s0.f0 s0.f1 a1 a2 = some true := by
  rintro ⟨l0, l1⟩ a b _ _ _
  refine Ev.rounds ?_
  show Ev (fun k => estoverslaw11_DurableOrdered.f k l0 l1 a b) true
  unfold estoverslaw11_DurableOrdered.f
  obtain ⟨c, hc, hs⟩ := small_ev l0 l1
  refine Ev.bind hc ?_
  cases c with
  | false => exact Ev.neg (by decide) (Ev.step (fun k => by rw [estoverslaw11_DurableOrdered.j0]) (Ev.pos rfl awake_some))
  | true =>
    obtain ⟨h0, h1⟩ := hs rfl
    refine Ev.pos rfl (Ev.bind (check_ev l0 l1 (by omega) (by omega)) (Ev.step (fun k => by rw [estoverslaw11_DurableOrdered.j0]) ?_))
    by_cases c : checkE l0 l1 = 0
    · have hv := ordF_val l0 l1 (by omega) (by omega) a b
      rw [if_pos c] at hv
      refine Ev.neg (by rw [c]; decide) (Ev.had hv ?_)
      by_cases q : (ordR l1 a b).1 = true
      · have e2 : (ordR l1 a b).2 = 0 := by
          unfold ordR at q ⊢
          by_cases r : 0 ≤ subN 1 l1 a l1.length ∧ 0 ≤ subN 1 l1 b l1.length
          · rw [if_pos r]
          · rw [if_neg r] at q; cases q
        refine Ev.pos q (Ev.step (fun k => by rw [estoverslaw11_DurableOrdered.j1]) (Ev.neg (by rw [e2]; decide) ?_))
        obtain ⟨s, cc, p, t, blk, h⟩ := sep_of c q
        have := ord_l0 h (by omega) (by omega) l1.length 0 (by omega)
        exact this
      · exact Ev.neg q (Ev.step (fun k => by rw [estoverslaw11_DurableOrdered.j1]) (Ev.pos rfl awake_some))
    · exact Ev.pos (bne_iff_ne.2 c) awake_some
end Go.Proofs.Ytghmkmpgfpkfmaa.Pure
