/- The plain statement of SlotsAlone. -/
import Derived.Test.YtjaondnglmimaaaPm
import Derived.Test.YtjaondnglmimaaaX10
namespace Go.Proofs.Ytjaondnglmimaaa.X
open Go.RowKit Go.Proofs.YtjaondnglmimaaaW.PrintWords
theorem alone_l0 (l : List S41) (a : Int) (x : S41) (hl : l.length ≤ 100) (h0 : 0 ≤ a) (h1 : a < l.length) : ∀ (d k i : Nat), l.length - i = d → i ≤ l.length → d < k →
    estoverslaw32_SlotsAlone.l0 k l a (l.set a.toNat x) ((l.set a.toNat x).length : Int) i = some true
  | d, 0, i, _, _, h => absurd h (by omega)
  | 0, k + 1, i, e0, e1, _ => by
    simp only [estoverslaw32_SlotsAlone.l0, List.length_set]
    rw [if_neg (by omega), if_pos (by omega), decide_eq_true h1]
  | d + 1, k + 1, i, e0, e1, e2 => by
    have ih := alone_l0 l a x hl h0 h1 d k (i + 1) (by omega) (by omega) (by omega)
    simp only [List.length_set] at ih
    simp only [estoverslaw32_SlotsAlone.l0, List.length_set]
    rw [if_pos (by omega), wrap_nat i (by omega)]
    by_cases c : (i : Int) = a
    · rw [if_pos c]; exact ih
    · rw [if_neg c, if_pos (by omega), if_pos (by omega), if_pos (by omega), if_neg (by rw [rd_set_other l a i x (by omega) h0 (fun e => c e.symm)]; simp)]
      exact ih
theorem alone_ok (l : List S41) (a : Int) (x : S41) (hl : l.length ≤ 100) (h0 : 0 ≤ a) (h1 : a < l.length) : Ev (fun k => estoverslaw32_SlotsAlone.j2 k l a (l.set a.toNat x) 0) true := by
  refine Ev.step (fun k => by rw [estoverslaw32_SlotsAlone.j2]) ?_
  refine Ev.pos rfl (Ev.pos (by simp) ?_)
  exact Ev.of (fun k => (estoverslaw32_SlotsAlone.mono_l k).2.2.1 _ _ _ _ _) (k := l.length + 1) (by
    have := alone_l0 l a x hl h0 h1 l.length (l.length + 1) 0 (by omega) (by omega) (by omega)
    simpa using this)
theorem alone_no (l : List S41) (a e : Int) (h : e ≠ 0) : Ev (fun k => estoverslaw32_SlotsAlone.j2 k l a [] e) true := by
  refine Ev.step (fun k => by rw [estoverslaw32_SlotsAlone.j2]) ?_
  exact Ev.neg h (Ev.now _)
theorem alone_wth (l : List S41) (a : Int) (F : S41 → Int × S41) (hl : l.length ≤ 100) : Ev (fun k => estoverslaw32_SlotsAlone.j2 k l a (wth l a F).1 (wth l a F).2) true := by
  by_cases h : (wth l a F).2 = 0
  · obtain ⟨_, hh, _, hw⟩ := wth_ok l a F h
    obtain ⟨p1, p2, _⟩ := (here_iff l a).1 hh
    rw [hw]; exact alone_ok l a _ hl p1 p2
  · rw [wth_no l a F h]; exact alone_no l a _ h
theorem alone_j1 (l : List S41) (hl : l.length ≤ 100) (o : S34) (a K : Int) (_ha : a = o.f1) (b : Bool) : Ev (fun k => estoverslaw32_SlotsAlone.j1 k l a K b o.f0 o.f1 o.f2) true := by
  refine Ev.step (fun k => by rw [estoverslaw32_SlotsAlone.j1]) ?_
  cases b with
  | true => exact Ev.pos rfl (Ev.had (x := ((wth l a (dropF (o.f0 == 3))).1, drops l a (o.f0 == 3), (wth l a (dropF (o.f0 == 3))).2)) rfl (alone_wth l a _ hl))
  | false =>
    refine Ev.neg (by simp) ?_
    by_cases h : K = 4
    · exact Ev.pos h (Ev.had (x := wth l a relF) rfl (alone_wth l a _ hl))
    · exact Ev.neg h (Ev.had (x := wth l a (plcF o.f2)) rfl (alone_wth l a _ hl))
end Go.Proofs.Ytjaondnglmimaaa.X
namespace Go.Proofs.Ytjaondnglmimaaa.Pure
open Go.RowKit Go.Proofs.Ytjaondnglmimaaa.X Go.Proofs.YtjaondnglmimaaaW.PrintWords
theorem SlotsAlone : ∀ (l0 : List (S41)) (s1 : S34), (Gl G41 l0) → G34 s1 → ∃ k, estoverslaw32_SlotsAlone.f k l0 s1.f0 s1.f1 s1.f2 = some true := by
  intro l o _ _
  refine Ev.rounds ?_
  unfold estoverslaw32_SlotsAlone.f
  refine Ev.bind awake_ev (Ev.pos rfl ?_)
  refine Ev.step (fun k => by rw [estoverslaw32_SlotsAlone.j0]) ?_
  by_cases h : (l.length : Int) > 100
  · exact Ev.pos (by simpa using h) (Ev.bind awake_ev (Ev.now _))
  · have hl : l.length ≤ 100 := by omega
    refine Ev.neg (by simpa using h) ?_
    by_cases c0 : o.f0 = 0
    · refine Ev.pos c0 (Ev.had (x := allocF l) rfl ?_)
      by_cases he : (allocF l).2.2 = 0
      · obtain ⟨_, p1, p2, _, ha⟩ := allocF_ok l he
        rw [ha]; exact alone_ok l _ _ hl p1 p2
      · rw [allocF_no l he]; exact alone_no l _ _ he
    · refine Ev.neg c0 ?_
      by_cases c1 : o.f0 = 1
      · exact Ev.pos c1 (Ev.had (x := wth l o.f1 dupF) rfl (alone_wth l _ _ hl))
      · refine Ev.neg c1 ?_
        by_cases c2 : o.f0 = 2
        · exact Ev.pos c2 (alone_j1 l hl o o.f1 _ rfl _)
        · exact Ev.neg c2 (alone_j1 l hl o o.f1 _ rfl _)
end Go.Proofs.Ytjaondnglmimaaa.Pure
