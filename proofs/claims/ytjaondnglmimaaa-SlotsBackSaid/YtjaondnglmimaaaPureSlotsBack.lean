/- The plain statement of SlotsBack. -/
import Derived.Test.YtjaondnglmimaaaPm
import Derived.Test.YtjaondnglmimaaaX7
namespace Go.Proofs.Ytjaondnglmimaaa.X
open Go.RowKit Go.Proofs.YtjaondnglmimaaaW.PrintWords
theorem back_j2 (l : List S41) (a : Int) (held : Bool) (hk : chk l = 0) (hh : here l a = true) (hm : (rd_T41 l a).f1 ≠ 1048576) (h0 : (rd_T41 l a).f1 ≠ 0) :
    Ev (fun k => estoverslaw32_SlotsBack.j2 k l a held (l.set a.toNat ⟨(rd_T41 l a).f0, (rd_T41 l a).f1 + 1⟩) false) true := by
  obtain ⟨p1, p2, p3⟩ := (here_iff l a).1 hh
  obtain ⟨b1, b2⟩ := chk_at hk a p1 p2
  obtain ⟨q1, q2, q3, q4, _⟩ := chk_good hk a p1 p2
  have hl := chk_len hk
  have hx : rd_T41 (l.set a.toNat ⟨(rd_T41 l a).f0, (rd_T41 l a).f1 + 1⟩) a = ⟨(rd_T41 l a).f0, (rd_T41 l a).f1 + 1⟩ := rd_set_same l a _ p1 p2
  have hk' : chk (l.set a.toNat ⟨(rd_T41 l a).f0, (rd_T41 l a).f1 + 1⟩) = 0 := chk_set hk _ _ (by unfold bad; simp; omega) (by unfold lone; simp [p3])
  have hh' : here (l.set a.toNat ⟨(rd_T41 l a).f0, (rd_T41 l a).f1 + 1⟩) a = true := (here_iff _ _).2 ⟨p1, by simpa using p2, by rw [hx]; exact p3⟩
  have hF : dropF held (rd_T41 (l.set a.toNat ⟨(rd_T41 l a).f0, (rd_T41 l a).f1 + 1⟩) a) = (0, rd_T41 l a) := by
    rw [hx]; unfold dropF
    simp only
    rw [if_neg (by omega), if_neg (by omega)]
    simp
  have hw := wth_yes _ a (dropF held) hk' hh' (by rw [hF])
  rw [hF, List.set_set, set_back l a _ p1 p2 rfl] at hw
  have hd : drops (l.set a.toNat ⟨(rd_T41 l a).f0, (rd_T41 l a).f1 + 1⟩) a held = false := by unfold drops; rw [hx]; simp; intro _ _ h; omega
  refine Ev.step (fun k => by rw [estoverslaw32_SlotsBack.j2]) ?_
  refine (Ev.neg (by simp) (Ev.had (x := (l, false, 0)) (by unfold slots_Drop.f; rw [hw, hd]) (Ev.pos rfl (Ev.neg (by simp) (Ev.bind (same_ev l (by omega)) (Ev.now _))))))
theorem back_j1 (l : List S41) (a : Int) (held : Bool) : Ev (fun k => estoverslaw32_SlotsBack.j1 k l a held) true := by
  have stop : ∀ g, Ev (fun k => estoverslaw32_SlotsBack.j2 k l a held g true) true := fun g => by
    refine Ev.step (fun k => by rw [estoverslaw32_SlotsBack.j2]) ?_
    exact Ev.pos rfl (Ev.now _)
  refine Ev.step (fun k => by rw [estoverslaw32_SlotsBack.j1]) ?_
  refine Ev.had (x := wth l a dupF) rfl ?_
  by_cases he : (wth l a dupF).2 = 0
  · obtain ⟨hk, hh, hF, hw⟩ := wth_ok l a dupF he
    obtain ⟨p1, p2, p3⟩ := (here_iff l a).1 hh
    refine Ev.pos he (Ev.neg (by omega) (Ev.neg (by omega) (Ev.pos p1 (Ev.pos p2 ?_))))
    by_cases h0 : (rd_T41 l a).f1 = 0
    · rw [h0]; exact stop _
    · have hm : (rd_T41 l a).f1 ≠ 1048576 := by intro h; unfold dropF at *; unfold dupF at hF; rw [if_pos h] at hF; simp at hF
      have e : (dupF (rd_T41 l a)).2 = ⟨(rd_T41 l a).f0, (rd_T41 l a).f1 + 1⟩ := by unfold dupF; rw [if_neg hm]
      rw [hw, e, beq_eq_false_iff_ne.2 h0]
      exact back_j2 l a held hk hh hm h0
  · exact Ev.neg he (stop _)
end Go.Proofs.Ytjaondnglmimaaa.X
namespace Go.Proofs.Ytjaondnglmimaaa.Pure
open Go.RowKit Go.Proofs.Ytjaondnglmimaaa.X Go.Proofs.YtjaondnglmimaaaW.PrintWords
theorem SlotsBack : ∀ (l0 : List (S41)) (a1 : Int) (a2 : Bool), (Gl G41 l0) → (Lit.int .i64 a1).wf = true → ∃ k, estoverslaw32_SlotsBack.f k l0 a1 a2 = some true := by
  intro l a held _ _
  refine Ev.rounds ?_
  unfold estoverslaw32_SlotsBack.f
  refine Ev.bind awake_ev (Ev.pos rfl ?_)
  refine Ev.step (fun k => by rw [estoverslaw32_SlotsBack.j0]) ?_
  by_cases h : (l.length : Int) > 100
  · exact Ev.pos (by simpa using h) (Ev.bind awake_ev (Ev.now _))
  · refine Ev.neg (by simpa using h) (Ev.had (x := allocF l) rfl ?_)
    by_cases he : (allocF l).2.2 = 0
    · obtain ⟨hk, p1, p2, hx, ha⟩ := allocF_ok l he
      have hl := chk_len hk
      have hx1 : rd_T41 (l.set (idx freeS l).toNat ⟨1, 0⟩) (idx freeS l) = ⟨1, 0⟩ := rd_set_same l _ _ p1 p2
      have hw := wth_yes (l.set (idx freeS l).toNat ⟨1, 0⟩) (idx freeS l) relF (chk_set hk _ _ (by rfl) (by rfl)) ((here_iff _ _).2 ⟨p1, by simpa using p2, by rw [hx1]; simp⟩) (by rw [hx1]; rfl)
      rw [hx1] at hw
      have e : (relF ⟨1, 0⟩).2 = ⟨0, 0⟩ := rfl
      rw [e, List.set_set, set_back l _ _ p1 p2 hx] at hw
      rw [ha]
      exact Ev.pos rfl (Ev.had (x := (l, 0)) (by unfold slots_Release.f; rw [hw]) (Ev.pos rfl (Ev.bind (same_ev l (by omega)) (Ev.pos rfl (back_j1 l a held)))))
    · exact Ev.neg he (back_j1 l a held)
end Go.Proofs.Ytjaondnglmimaaa.Pure
