/- The plain statement of CompactionPacks. -/
import Derived.Test.YtollapjmibkpfaaPq
import Derived.Test.YtollapjmibkpfaaK21
import Derived.Test.YtollapjmibkpfaaRd
namespace Go.Proofs.Ytollapjmibkpfaa.Pure
open Go.RowKit Go.Proofs.Ytollapjmibkpfaa.X Go.Proofs.YtollapjmibkpfaaW.PrintWords
theorem packs_l0 (l g : List Int) (ms : List S26) (n0 n1 n2 : Int) (hl : l.length ≤ 4096) (hg : g.length = l.length) (hp : ∀ j : Int, 0 ≤ j → j < l.length → (rd g j = 2 ↔ rd l j = 2)) (ho : ∀ a b : Int, 0 ≤ a → a < b → b < l.length → rd g a = 0 → rd g b ≠ 1) :
    ∀ (d i : Nat) (fr : Bool) (r o : Int), l.length - i = d → i ≤ l.length → (fr = true → ∃ a : Int, 0 ≤ a ∧ a < i ∧ rd g a = 0) → 0 ≤ r → r ≤ i → 0 ≤ o → o ≤ i →
    Ev (fun k => estoverslaw40_CompactionPacks.l0 k l ms fr r o g (g.length : Int) i n0 n1 n2) ((ms.length : Int) == o + cT n1 r (l.drop i))
  | 0, i, fr, r, o, h0, h1, hf, _, _, _, _ => by
    refine Ev.step (fun k => by rw [estoverslaw40_CompactionPacks.l0]) ?_
    rw [List.drop_eq_nil_of_le (by omega), show cT n1 r [] = 0 from rfl, Int.add_zero]
    exact Ev.neg (by omega) (Ev.now _)
  | d + 1, i, fr, r, o, h0, h1, hf, r0, r1, o0, o1 => by
    have hd : l.drop i = rd l i :: l.drop (i + 1) := by rw [rd_nat l i (by omega)]; exact List.drop_eq_getElem_cons (by omega)
    refine Ev.step (fun k => by rw [estoverslaw40_CompactionPacks.l0]) ?_
    refine Ev.pos (by omega) (Ev.pos (by omega) (Ev.pos (by omega) (Ev.pos (by omega) (Ev.neg ?_ ?_))))
    · have := hp i (by omega) (by omega)
      by_cases c : rd l i = 2
      · rw [this.2 c, c]; decide
      · have c' : rd g i ≠ 2 := fun h => c (this.1 h)
        rw [show (rd g i == 2) = false from by simpa using c', show (rd l i == 2) = false from by simpa using c]; decide
    · have next : ∀ fr' : Bool, (fr' = true → ∃ a : Int, 0 ≤ a ∧ a < i + 1 ∧ rd g a = 0) → Ev (fun k => estoverslaw40_CompactionPacks.j5 k l ms fr' r o i g (g.length : Int) i n0 n1 n2) ((ms.length : Int) == o + cT n1 r (l.drop i)) := by
        intro fr' hf'
        refine Ev.step (fun k => by rw [estoverslaw40_CompactionPacks.j5]) ?_
        refine Ev.pos (by omega) (Ev.pos (by omega) ?_)
        rw [hd, cT, wrap_nat i (by omega), wrap_id (r + 1) (by omega) (by omega), wrap_id (o + 1) (by omega) (by omega)]
        by_cases c : rd l i = 2
        · rw [if_pos c]
          exact Ev.pos c (packs_l0 l g ms n0 n1 n2 hl hg hp ho d (i + 1) fr' r o (by omega) (by omega) (by simpa using hf') r0 (by omega) o0 (by omega))
        · rw [if_neg c]
          refine Ev.neg c ?_
          by_cases c1 : r + 1 > n1
          · refine Ev.pos c1 ?_
            by_cases c2 : rd l i = 1
            · rw [if_pos ⟨c1, c2⟩, ← Int.add_assoc]
              exact Ev.pos c2 (packs_l0 l g ms n0 n1 n2 hl hg hp ho d (i + 1) fr' (r + 1) (o + 1) (by omega) (by omega) (by simpa using hf') (by omega) (by omega) (by omega) (by omega))
            · rw [if_neg (fun h => c2 h.2), Int.zero_add]
              exact Ev.neg c2 (packs_l0 l g ms n0 n1 n2 hl hg hp ho d (i + 1) fr' (r + 1) o (by omega) (by omega) (by simpa using hf') (by omega) (by omega) (by omega) (by omega))
          · rw [if_neg (fun h => c1 h.1), Int.zero_add]
            exact Ev.neg c1 (packs_l0 l g ms n0 n1 n2 hl hg hp ho d (i + 1) fr' (r + 1) o (by omega) (by omega) (by simpa using hf') (by omega) (by omega) (by omega) (by omega))
      cases fr with
      | true =>
        obtain ⟨a, a0, a1, a2⟩ := hf rfl
        have := ho a i a0 a1 (by omega) a2
        refine Ev.pos rfl (Ev.step (fun k => by rw [estoverslaw40_CompactionPacks.j4]) ?_)
        exact Ev.neg (by simpa using this) (Ev.pos rfl (next true (fun _ => ⟨a, a0, by omega, a2⟩)))
      | false =>
        refine Ev.neg (by simp) (Ev.step (fun k => by rw [estoverslaw40_CompactionPacks.j4]) ?_)
        exact Ev.neg (by simp) (Ev.neg (by simp) (next _ (fun h => ⟨i, by omega, by omega, by simpa using h⟩)))
theorem CompactionPacks : ∀ (l0 : List (Int)), l0.length ≤ 9223372036854775807 → (Gl (fun n : Int => (Lit.int .i64 n).wf = true) l0) → ∃ k, estoverslaw40_CompactionPacks.f k l0 = some true := by
  intro l hlen _
  obtain ⟨p, p1, p2, p3⟩ := kinds_ev l hlen
  refine Ev.rounds ?_
  unfold estoverslaw40_CompactionPacks.f
  have jT : ∀ b : Bool, b = true → Ev (fun k => estoverslaw40_CompactionPacks.j0 k l b p.1 p.2.1 p.2.2.1) true := by
    intro b hb
    refine Ev.step (fun k => by rw [estoverslaw40_CompactionPacks.j0]) ?_
    exact Ev.pos hb (Ev.had (x := true) rfl (Ev.now _))
  refine Ev.bind p1 (Ev.had (x := true) rfl (Ev.pos rfl (Ev.had (x := decide ((l.length : Int) ≤ 80)) rfl ?_)))
  by_cases h : (l.length : Int) ≤ 80
  · refine Ev.pos (by simpa using h) ?_
    cases hb : l.any bad with
    | true => exact jT _ (by rw [p2, hb]; rfl)
    | false =>
      have hk := chk_of (show l.length ≤ 4096 by omega) hb
      rw [p3 hb]
      refine Ev.step (fun k => by rw [estoverslaw40_CompactionPacks.j0]) ?_
      refine Ev.neg (by simp) ?_
      obtain ⟨g, h1, h2, h3, h4, h5, h6, h7⟩ := plan_go (l.length + 1) l hk (by have := (lastM_is l).2.1; omega)
      have eP : planF l = (planL (l.length + 1) l, 0) := by unfold planF; rw [if_pos hk]
      have eA : compaction_Apply.f l (planL (l.length + 1) l) = some (g, 0) := by unfold compaction_Apply.f applyF; rw [if_pos hk, h1]
      refine Ev.bind (plan_ev l) ?_
      rw [eP]
      refine Ev.had eA (Ev.pos rfl (Ev.pos rfl ?_))
      refine Ev.step (fun k => by rw [estoverslaw40_CompactionPacks.j1]) ?_
      refine Ev.neg (by simp [h2]) ?_
      refine Ev.bind (kinds_valid g h3) (Ev.pos rfl ?_)
      refine Ev.step (fun k => by rw [estoverslaw40_CompactionPacks.j2]) ?_
      refine Ev.neg (by simp [h5]) ?_
      have ho : ∀ a b : Int, 0 ≤ a → a < b → b < l.length → rd g a = 0 → rd g b ≠ 1 := by
        intro a b a0 ab bl ra rb
        obtain ⟨m1, m2, m3, m4⟩ := lastM_is g
        obtain ⟨f1, f2, f3, f4⟩ := firstF_is g
        have q1 : firstF g ≤ a := by
          by_cases c : firstF g ≤ a
          · exact c
          · exact absurd ra (f4 a a0 (by omega))
        have q2 : b ≤ lastM g := by
          by_cases c : b ≤ lastM g
          · exact c
          · exact absurd rb (m4 b (by omega) (by omega))
        omega
      have := packs_l0 l g (planL (l.length + 1) l) (cntN 0 l) (cntN 1 l) (cntN 2 l) (by omega) h2 h6 ho l.length 0 false 0 0 (by omega) (by omega) (by simp) (by omega) (by omega) (by omega) (by omega)
      rw [List.drop_zero, Int.zero_add, h7, beq_self_eq_true] at this
      exact this
  · exact Ev.neg (by simpa using h) (jT _ rfl)
end Go.Proofs.Ytollapjmibkpfaa.Pure
