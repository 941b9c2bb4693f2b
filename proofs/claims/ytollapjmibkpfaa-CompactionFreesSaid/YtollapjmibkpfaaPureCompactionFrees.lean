/- The plain statement of CompactionFrees. -/
import Derived.Test.YtollapjmibkpfaaPq
import Derived.Test.YtollapjmibkpfaaK22
import Derived.Test.YtollapjmibkpfaaRd
namespace Go.Proofs.Ytollapjmibkpfaa.Pure
open Go.RowKit Go.Proofs.Ytollapjmibkpfaa.X Go.Proofs.YtollapjmibkpfaaW.PrintWords
/-- The movable cells of a range among those from i on. -/
def inN (l : List Int) (s e : Nat) : Nat → Nat → Int
  | 0, _ => 0
  | d + 1, i => (if s ≤ i ∧ i < e ∧ rd l i = 1 then 1 else 0) + inN l s e d (i + 1)
theorem inN_bd (l : List Int) (s e : Nat) : ∀ d i, 0 ≤ inN l s e d i ∧ inN l s e d i ≤ d
  | 0, i => ⟨by simp [inN], by simp [inN]⟩
  | d + 1, i => by have := inN_bd l s e d (i + 1); unfold inN; split <;> omega
theorem inN_add (l : List Int) (s e g : Nat) : ∀ f j, inN l s e (f + g) j = inN l s e f j + inN l s e g (j + f)
  | 0, j => by simp [inN]
  | f + 1, j => by
    rw [show f + 1 + g = f + g + 1 from by omega, inN, inN, inN_add l s e g f (j + 1), show j + 1 + f = j + (f + 1) from by omega]; omega
theorem inN_out (l : List Int) (s e : Nat) : ∀ f j, (j + f ≤ s ∨ e ≤ j) → inN l s e f j = 0
  | 0, j, _ => rfl
  | f + 1, j, h => by rw [inN, inN_out l s e f (j + 1) (by omega), if_neg (by omega)]; rfl
theorem inN_in (l : List Int) (s e : Nat) (he : e ≤ l.length) : ∀ f j, s ≤ j → j + f ≤ e → inN l s e f j = cntN 1 ((l.drop j).take f)
  | 0, j, _, _ => by simp [inN, cntN]
  | f + 1, j, h1, h2 => by
    rw [inN, inN_in l s e he f (j + 1) (by omega) (by omega), cntN_drop 1 l j f (by omega)]
    by_cases c : rd l j = 1
    · rw [if_pos ⟨h1, by omega, c⟩, if_pos c]
    · rw [if_neg (fun h => c h.2.2), if_neg c]
theorem inN_all (l : List Int) (s n : Nat) (h : s + n ≤ l.length) : inN l s (s + n) l.length 0 = cntN 1 ((l.drop s).take n) := by
  have e1 := inN_add l s (s + n) (n + (l.length - (s + n))) s 0
  have e2 := inN_add l s (s + n) (l.length - (s + n)) n (0 + s)
  rw [show s + (n + (l.length - (s + n))) = l.length from by omega] at e1
  rw [e1, e2, inN_out l s (s + n) s 0 (by omega), inN_out l s (s + n) _ (0 + s + n) (by omega), inN_in l s (s + n) (by omega) n (0 + s) (by omega) (by omega), Nat.zero_add]; omega
theorem frees_l0 (l g : List Int) (ms : List S26) (s e c : Nat) (hl : l.length ≤ 4096) (hg : g.length = l.length) (hs : s + c = e) (he : e ≤ l.length) (hk : chk g = 0) (hn : ∀ v, cntN v g = cntN v l)
    (hi : ∀ j : Int, s ≤ j → j < e → rd g j = 0 ∧ rd l j ≠ 2) (ho : ∀ j : Int, 0 ≤ j → j < l.length → (j < s ∨ e ≤ j) → rd g j = rd l j ∨ (rd l j = 0 ∧ rd g j = 1)) :
    ∀ (d i : Nat) (o : Int), l.length - i = d → i ≤ l.length → 0 ≤ o → o ≤ i →
    Ev (fun k => estoverslaw40_CompactionFrees.l0 k l s c ms g o (g.length : Int) i (cntN 0 l) (cntN 1 l) (cntN 2 l)) ((ms.length : Int) == o + inN l s e d i)
  | 0, i, o, h0, h1, _, _ => by
    refine Ev.step (fun k => by rw [estoverslaw40_CompactionFrees.l0]) ?_
    refine Ev.neg (by omega) (Ev.bind (kinds_valid g hk) (Ev.pos rfl ?_))
    rw [hn, hn, hn, inN, Int.add_zero]
    exact Ev.pos (by simp) (Ev.now _)
  | d + 1, i, o, h0, h1, o0, o1 => by
    refine Ev.step (fun k => by rw [estoverslaw40_CompactionFrees.l0]) ?_
    refine Ev.pos (by omega) ?_
    rw [wrap_id ((s : Int) + c) (by omega) (by omega), inN]
    have ih := fun o' => frees_l0 l g ms s e c hl hg hs he hk hn hi ho d (i + 1) o' (by omega) (by omega)
    have next : ∀ b : Bool, b = (decide (s ≤ i) && decide (i < e)) → Ev (fun k => estoverslaw40_CompactionFrees.j3 k l s c ms g o i b (g.length : Int) i (cntN 0 l) (cntN 1 l) (cntN 2 l)) ((ms.length : Int) == o + ((if s ≤ i ∧ i < e ∧ rd l i = 1 then 1 else 0) + inN l s e d (i + 1))) := by
      intro b hb
      refine Ev.step (fun k => by rw [estoverslaw40_CompactionFrees.j3]) ?_
      by_cases q : s ≤ i ∧ i < e
      · have hb' : b = true := by rw [hb, decide_eq_true q.1, decide_eq_true q.2]; rfl
        have hh := hi i (by omega) (by omega)
        refine Ev.pos hb' (Ev.pos (by omega) (Ev.pos (by omega) (Ev.pos hh.1 (Ev.pos (by omega) (Ev.neg hh.2 ?_)))))
        refine Ev.step (fun k => by rw [estoverslaw40_CompactionFrees.j4]) ?_
        refine Ev.neg (by simp) (Ev.pos hb' (Ev.pos (by omega) (Ev.pos (by omega) ?_)))
        rw [wrap_nat i (by omega), wrap_id (o + 1) (by omega) (by omega)]
        by_cases c1 : rd l i = 1
        · rw [if_pos ⟨q.1, q.2, c1⟩, ← Int.add_assoc]
          exact Ev.pos c1 (ih (o + 1) (by omega) (by omega))
        · rw [if_neg (fun h => c1 h.2.2), Int.zero_add]
          exact Ev.neg c1 (ih o (by omega) (by omega))
      · have hb' : ¬ b = true := by rw [hb, Bool.and_eq_true, decide_eq_true_eq, decide_eq_true_eq]; exact q
        have hh := ho i (by omega) (by omega) (by omega)
        have j4 : ∀ x : Bool, x = false → Ev (fun k => estoverslaw40_CompactionFrees.j4 k l s c ms g o i b (g.length : Int) i x (cntN 0 l) (cntN 1 l) (cntN 2 l)) ((ms.length : Int) == o + ((if s ≤ i ∧ i < e ∧ rd l i = 1 then 1 else 0) + inN l s e d (i + 1))) := by
          intro x hx
          refine Ev.step (fun k => by rw [estoverslaw40_CompactionFrees.j4]) ?_
          refine Ev.neg (by simp [hx]) (Ev.neg hb' ?_)
          rw [wrap_nat i (by omega), if_neg (fun h => q ⟨h.1, h.2.1⟩), Int.zero_add]
          exact ih o (by omega) (by omega)
        refine Ev.neg hb' (Ev.pos (by omega) (Ev.pos (by omega) (Ev.pos (by omega) ?_)))
        by_cases z : rd g i = rd l i
        · exact Ev.pos z (j4 _ rfl)
        · have hh' : rd l i = 0 ∧ rd g i = 1 := by rcases hh with w | w; exact absurd w z; exact w
          exact Ev.neg z (Ev.pos hh'.1 (j4 _ (by rw [hh'.2]; rfl)))
    by_cases q : s ≤ i
    · exact Ev.pos (by omega) (next _ (by rw [decide_eq_true q, Bool.true_and, decide_eq_decide]; omega))
    · exact Ev.neg (by omega) (next _ (by rw [decide_eq_false q]; rfl))
theorem CompactionFrees : ∀ (l0 : List (Int)) (a1 : Int) (a2 : Int), l0.length ≤ 9223372036854775807 → (Gl (fun n : Int => (Lit.int .i64 n).wf = true) l0) → (Lit.int .u8 a1).wf = true → (Lit.int .u8 a2).wf = true → ∃ k, estoverslaw40_CompactionFrees.f k l0 a1 a2 = some true := by
  intro l a b hlen _ ha hb'
  have hab : (0 ≤ a ∧ a ≤ 255) ∧ (0 ≤ b ∧ b ≤ 255) := by
    have m0 : IntKind.u8.min = 0 := by decide
    have m1 : IntKind.u8.max = 255 := by decide
    constructor
    · simp [Lit.wf] at ha; omega
    · simp [Lit.wf] at hb'; omega
  obtain ⟨p, p1, p2, p3⟩ := kinds_ev l hlen
  refine Ev.rounds ?_
  unfold estoverslaw40_CompactionFrees.f
  have jT : ∀ x : Bool, x = true → Ev (fun k => estoverslaw40_CompactionFrees.j0 k l a b x p.1 p.2.1 p.2.2.1) true := by
    intro x hx
    refine Ev.step (fun k => by rw [estoverslaw40_CompactionFrees.j0]) ?_
    exact Ev.pos hx (Ev.had (x := true) rfl (Ev.now _))
  refine Ev.bind p1 (Ev.had (x := true) rfl (Ev.pos rfl (Ev.had (x := decide ((l.length : Int) ≤ 80)) rfl ?_)))
  by_cases h : (l.length : Int) ≤ 80
  · refine Ev.pos (by simpa using h) ?_
    cases hb : l.any bad with
    | true => exact jT _ (by rw [p2, hb]; rfl)
    | false =>
      have hk := chk_of (show l.length ≤ 4096 by omega) hb
      rw [p3 hb]
      refine Ev.step (fun k => by rw [estoverslaw40_CompactionFrees.j0]) ?_
      refine Ev.neg (by simp) ?_
      rw [wrap_id a (by omega) (by omega), wrap_id b (by omega) (by omega), wrap_id (a + b) (by omega) (by omega)]
      refine Ev.bind (clear_ev l a b) ?_
      by_cases hx : a < 0 ∨ b < 0 ∨ a > l.length ∨ b > l.length - a
      · rw [clearF_out l a b hk hx]; exact Ev.neg (by simp) (Ev.now _)
      · rw [clearF_in l a b hk hx]
        by_cases h2 : cntN 2 ((l.drop a.toNat).take b.toNat) > 0
        · rw [if_pos h2]; exact Ev.neg (by simp) (Ev.now _)
        · rw [if_neg h2]
          obtain ⟨s, rfl⟩ : ∃ s : Nat, a = s := ⟨a.toNat, by omega⟩
          obtain ⟨n, rfl⟩ : ∃ n : Nat, b = n := ⟨b.toNat, by omega⟩
          rw [Int.toNat_natCast, Int.toNat_natCast] at h2 ⊢
          by_cases hf : (fill l s (s + n) n s 0 []).2 = 0
          · obtain ⟨suf, g, a1, a2, a3, a4, a5, a6, a7, a8, a9⟩ := fill_go l s (s + n) (by omega) (by omega) n s 0 [] l (by omega) (by omega) (by omega) rfl hk (fun _ _ _ => rfl) (fun _ _ _ _ => rfl) hf
            rw [List.nil_append] at a1
            have eA : compaction_Apply.f l (fill l s (s + n) n s 0 []).1 = some (g, 0) := by unfold compaction_Apply.f applyF; rw [if_pos hk, a1, a2]
            refine Ev.pos hf (Ev.had eA (Ev.pos rfl (Ev.pos (by rw [a3]) ?_)))
            refine Ev.step (fun k => by rw [estoverslaw40_CompactionFrees.j1]) ?_
            refine Ev.neg (by simp; omega) ?_
            have np : ∀ j : Int, s ≤ j → j < (s + n : Nat) → rd l j ≠ 2 := by
              intro j j0 j1 e
              have e2 : cntN 2 ((l.drop s).take n) = 0 := by have := cntN_bd 2 ((l.drop s).take n); omega
              have := cntN_split 2 (l.take (j.toNat + 1)) s
              have e3 := cntN_take 2 l j.toNat (by omega)
              rw [show ((j.toNat : Nat) : Int) = j from by omega, if_pos e] at e3
              have e4 := cntN_mono 2 l s j.toNat (by omega)
              have e5 := cntN_mono 2 l (j.toNat + 1) (s + n) (by omega)
              have e6 := cntN_split 2 (l.take (s + n)) s
              rw [List.take_take, Nat.min_eq_left (by omega), List.drop_take, show s + n - s = n from by omega, e2] at e6
              omega
            have hin : ∀ j : Int, s ≤ j → j < (s + n : Nat) → rd g j = 0 ∧ rd l j ≠ 2 := by
              intro j j0 j1
              refine ⟨?_, np j j0 j1⟩
              rw [a6 j j0 j1]
              split
              · rfl
              · rename_i z
                have hbad := chk_bad hk (l[j.toNat]'(by omega)) (List.getElem_mem _)
                rw [← rd_int l j (by omega) (by omega)] at hbad
                have z2 := np j j0 j1
                unfold bad at hbad
                simpa [z, z2] using hbad
            have := frees_l0 l g suf s (s + n) n (by omega) a3 rfl (by omega) a4 a5 hin a8 l.length 0 0 (by omega) (by omega) (by omega) (by omega)
            rw [inN_all l s n (by omega), Int.zero_add, ← a9, beq_self_eq_true] at this
            rw [a1]
            exact this
          · refine Ev.neg hf ?_
            have e8 : (fill l s (s + n) n s 0 []) = ([], 8) := by
              by_cases q : nT l s (s + n) (l.length - 0) 0 < cntN 1 ((l.drop s).take n)
              · exact fill_no l s (s + n) n s 0 [] (by omega) (by omega) q
              · exact absurd (fill_yes l s (s + n) n s 0 [] (by omega) (by omega) (by omega)) hf
            rw [e8]; exact Ev.now _
  · exact Ev.neg (by simpa using h) (jT _ rfl)
end Go.Proofs.Ytollapjmibkpfaa.Pure
