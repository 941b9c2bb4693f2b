/- Plain laws of chapter 40: the next move. -/
import Derived.Test.YtollapjmibkpfaaGa
import Derived.Test.YtollapjmibkpfaaX20
import Derived.Test.YtollapjmibkpfaaX21
import Derived.Test.YtollapjmibkpfaaX22
namespace Go.Proofs.Ytollapjmibkpfaa.X
open Go.RowKit Go.Proofs.YtollapjmibkpfaaW.PrintWords Go.Proofs.YtollapjmibkpfaaW.PrintLast Go.Proofs.YtollapjmibkpfaaW.PrintMore
set_option linter.unusedVariables false
set_option linter.unusedSimpArgs false

theorem wrap_pred (x : Int) (h0 : -1000000 ≤ x) (h1 : x ≤ 1000000) : wrap64 (x - 1) = x - 1 := by unfold wrap64; omega
theorem wrap_succ (x : Int) (h0 : -1000000 ≤ x) (h1 : x ≤ 1000000) : wrap64 (x + 1) = x + 1 := by unfold wrap64; omega

/-- x is the last movable cell among the first i, or -1. -/
def Last (l : List Int) (i x : Int) : Prop := -1 ≤ x ∧ x < i ∧ (0 ≤ x → rd l x = 1) ∧ ∀ j : Int, x < j → j < i → rd l j ≠ 1
/-- x is the first free cell among the first i, or i. -/
def First (l : List Int) (i x : Int) : Prop := 0 ≤ x ∧ x ≤ i ∧ (x < i → rd l x = 0) ∧ ∀ j : Int, 0 ≤ j → j < x → rd l j ≠ 0
theorem Last.uniq {l : List Int} {i x y : Int} (hx : Last l i x) (hy : Last l i y) : x = y := by
  obtain ⟨a, b, c, d⟩ := hx
  obtain ⟨a', b', c', d'⟩ := hy
  by_cases h : x < y
  · exact absurd (c' (by omega)) (d y h b')
  · by_cases h' : y < x
    · exact absurd (c (by omega)) (d' x h' b)
    · omega
theorem First.uniq {l : List Int} {i x y : Int} (hx : First l i x) (hy : First l i y) : x = y := by
  obtain ⟨a, b, c, d⟩ := hx
  obtain ⟨a', b', c', d'⟩ := hy
  by_cases h : x < y
  · exact absurd (c (by omega)) (d' x a h)
  · by_cases h' : y < x
    · exact absurd (c' (by omega)) (d y a' h')
    · omega
def lastTo (l : List Int) : Nat → Int
  | 0 => -1
  | i + 1 => if rd l i = 1 then i else lastTo l i
def firstTo (l : List Int) : Nat → Int
  | 0 => 0
  | i + 1 => if firstTo l i < i then firstTo l i else if rd l i = 0 then i else i + 1
theorem lastTo_last (l : List Int) : ∀ i : Nat, Last l i (lastTo l i)
  | 0 => ⟨by simp [lastTo], by simp [lastTo], fun h => by simp [lastTo] at h, fun j h h' => by simp [lastTo] at h; omega⟩
  | i + 1 => by
    obtain ⟨a, b, c, d⟩ := lastTo_last l i
    unfold lastTo
    split
    · rename_i h
      exact ⟨by omega, by omega, fun _ => h, fun j h h' => by omega⟩
    · rename_i h
      refine ⟨a, by omega, c, fun j h1 h2 => ?_⟩
      by_cases e : j = i
      · subst e; exact h
      · exact d j h1 (by omega)
theorem firstTo_first (l : List Int) : ∀ i : Nat, First l i (firstTo l i)
  | 0 => ⟨by simp [firstTo], by simp [firstTo], fun h => by simp [firstTo] at h, fun j h h' => by simp [firstTo] at h'; omega⟩
  | i + 1 => by
    obtain ⟨a, b, c, d⟩ := firstTo_first l i
    unfold firstTo
    split
    · rename_i h
      exact ⟨a, by omega, fun _ => c h, d⟩
    · rename_i h
      have e : firstTo l i = i := by omega
      rw [e] at d
      split
      · rename_i h1
        exact ⟨by omega, by omega, fun _ => h1, d⟩
      · rename_i h1
        refine ⟨by omega, by omega, fun h2 => by omega, fun j h2 h3 => ?_⟩
        by_cases e1 : j = i
        · subst e1; exact h1
        · exact d j h2 (by omega)
def lastM (l : List Int) : Int := lastTo l l.length
def firstF (l : List Int) : Int := firstTo l l.length
theorem lastM_is (l : List Int) : Last l l.length (lastM l) := lastTo_last l l.length
theorem firstF_is (l : List Int) : First l l.length (firstF l) := firstTo_first l l.length
/-- The next move of valid cells. -/
def nextF (l : List Int) : Int × Int × Bool := if firstF l < lastM l then (lastM l, firstF l, true) else (0, 0, false)

theorem refCheck_l0 (l : List Int) (hl : l.length ≤ 4096) : ∀ (d k i : Nat), l.length - i = d → i ≤ l.length → d < k → estoversref40_Check.l0 k l i = some (if (l.drop i).any bad = true then 1 else 0)
  | d, 0, i, _, _, h => absurd h (by omega)
  | 0, k + 1, i, h0, h1, _ => by
    simp only [estoversref40_Check.l0]
    rw [if_neg (by omega), List.drop_eq_nil_of_le (by omega)]; simp
  | d + 1, k + 1, i, h0, h1, h2 => by
    simp only [estoversref40_Check.l0]
    rw [if_pos (by omega), if_pos (by omega), any_drop l i (by omega), wrap_nat i (by omega)]
    have ih := refCheck_l0 l hl d k (i + 1) (by omega) (by omega) (by omega)
    by_cases c0 : rd l i = 0
    · rw [if_pos c0, ih]; simp [bad, c0]
    · rw [if_neg c0]
      by_cases c1 : rd l i = 1
      · rw [if_pos c1, ih]; simp [bad, c1]
      · rw [if_neg c1]
        by_cases c2 : rd l i = 2
        · rw [if_pos c2, ih]; simp [bad, c2]
        · rw [if_neg c2]
          have hb : bad (rd l i) = true := by unfold bad; simp [c0, c1, c2]
          simp [hb]
theorem refCheck_ev (l : List Int) : Ev (fun k => estoversref40_Check.f k l) (chk l) := by
  refine Ev.of (fun k => estoversref40_Check.mono l k) (k := l.length + 2) ?_
  unfold estoversref40_Check.f chk
  by_cases h : 4096 < l.length
  · rw [if_pos (by omega), if_pos h]
  · rw [if_neg (by omega), if_neg h]
    have := refCheck_l0 l (by omega) l.length (l.length + 2) 0 (by omega) (by omega) (by omega)
    simpa using this

/-- The reference's way to say that there is no free cell. -/
def orNo (i x : Int) : Int := if x < i then x else -1
theorem refNext_l0 (l : List Int) (hl : l.length ≤ 4096) : ∀ (d k i : Nat) (x y : Int), l.length - i = d → i ≤ l.length → d < k → Last l i x → First l i y → estoversref40_Next.l0 k l x (orNo i y) i = some (nextF l)
  | d, 0, i, _, _, _, _, h, _, _ => absurd h (by omega)
  | 0, k + 1, i, x, y, h0, h1, _, hx, hy => by
    simp only [estoversref40_Next.l0]
    have e : i = l.length := by omega
    subst e
    obtain rfl := hx.uniq (lastM_is l)
    obtain rfl := hy.uniq (firstF_is l)
    obtain ⟨a, b, _, _⟩ := hx
    obtain ⟨a', b', _, _⟩ := hy
    rw [if_neg (by omega)]
    unfold nextF orNo
    by_cases h : firstF l < l.length
    · rw [if_pos h]
      by_cases h2 : firstF l < lastM l
      · rw [if_neg (by omega), if_neg (by omega), if_neg (by omega), if_pos h2]
      · rw [if_neg h2]
        by_cases h3 : lastM l < 0
        · rw [if_pos h3]
        · rw [if_neg h3, if_neg (by omega), if_pos (by omega)]
    · rw [if_neg h, if_neg (show ¬ firstF l < lastM l by omega)]
      by_cases h3 : lastM l < 0
      · rw [if_pos h3]
      · rw [if_neg h3, if_pos (by omega)]
  | d + 1, k + 1, i, x, y, h0, h1, h2, hx, hy => by
    simp only [estoversref40_Next.l0]
    rw [if_pos (by omega), if_pos (by omega), wrap_nat i (by omega)]
    have ih := fun x' y' => refNext_l0 l hl d k (i + 1) x' y' (by omega) (by omega) (by omega)
    obtain ⟨a, b, c, e⟩ := hx
    obtain ⟨a', b', c', e'⟩ := hy
    have hx1 : rd l i ≠ 1 → Last l ((i + 1 : Nat) : Int) x := fun h => ⟨a, by omega, c, fun j h1 h2 => by
      by_cases q : j = i
      · subst q; exact h
      · exact e j h1 (by omega)⟩
    have hx2 : rd l i = 1 → Last l ((i + 1 : Nat) : Int) i := fun h => ⟨by omega, by omega, fun _ => h, fun j h1 h2 => by omega⟩
    by_cases hlt : y < i
    · have ey : orNo i y = orNo ((i + 1 : Nat) : Int) y := by unfold orNo; rw [if_pos hlt, if_pos (by omega)]
      have hy1 : First l ((i + 1 : Nat) : Int) y := ⟨a', by omega, fun _ => c' hlt, e'⟩
      have hn : ¬ orNo ((i + 1 : Nat) : Int) y < 0 := by rw [← ey]; unfold orNo; rw [if_pos hlt]; omega
      rw [ey]
      by_cases q1 : rd l i = 1
      · rw [if_pos q1, if_neg (by rw [q1]; decide)]
        exact ih _ _ (hx2 q1) hy1
      · rw [if_neg q1]
        by_cases q0 : rd l i = 0
        · rw [if_pos q0, if_neg hn]
          exact ih _ _ (hx1 q1) hy1
        · rw [if_neg q0]
          exact ih _ _ (hx1 q1) hy1
    · have e1 : y = i := by omega
      subst e1
      have en : orNo (i : Int) i = -1 := by unfold orNo; rw [if_neg (by omega)]
      rw [en]
      by_cases q0 : rd l i = 0
      · have hy1 : First l ((i + 1 : Nat) : Int) i := ⟨by omega, by omega, fun _ => q0, e'⟩
        have eo : orNo ((i + 1 : Nat) : Int) i = i := by unfold orNo; rw [if_pos (by omega)]
        have q1 : rd l i ≠ 1 := by rw [q0]; decide
        rw [if_neg q1, if_pos q0, if_pos (by decide)]
        have := ih _ _ (hx1 q1) hy1
        rwa [eo] at this
      · have hy1 : First l ((i + 1 : Nat) : Int) ((i + 1 : Nat) : Int) := ⟨by omega, by omega, fun h => by omega, fun j h1 h2 => by
          by_cases q : j = i
          · subst q; exact q0
          · exact e' j h1 (by omega)⟩
        have eo : orNo ((i + 1 : Nat) : Int) ((i + 1 : Nat) : Int) = -1 := by unfold orNo; rw [if_neg (by omega)]
        by_cases q1 : rd l i = 1
        · rw [if_pos q1, if_neg q0]
          have := ih _ _ (hx2 q1) hy1
          rwa [eo] at this
        · rw [if_neg q1, if_neg q0]
          have := ih _ _ (hx1 q1) hy1
          rwa [eo] at this
theorem refNext_ev (l : List Int) (hk : chk l = 0) : Ev (fun k => estoversref40_Next.f k l) (nextF l) := by
  unfold estoversref40_Next.f
  refine Ev.bind (refCheck_ev l) (Ev.pos hk ?_)
  refine Ev.of (fun k => (estoversref40_Next.mono_l k) _ _ _ _) (k := l.length + 1) ?_
  have := refNext_l0 l (chk_len hk) l.length (l.length + 1) 0 (-1) 0 (by omega) (by omega) (by omega) (lastTo_last l 0) (firstTo_first l 0)
  simpa [orNo] using this

theorem take_snoc (l : List Int) (i : Nat) (h : i < l.length) : l.take i ++ [rd l i] = l.take (i + 1) := by
  rw [rd_nat l i h]; exact (List.take_succ_eq_append_getElem h).symm
theorem refCopy_l0 (l : List Int) (hl : l.length ≤ 100000) : ∀ (d k i : Nat), l.length - i = d → i ≤ l.length → d < k → estoversref40_Copy.l0 k l (l.take i) i = some l
  | d, 0, i, _, _, h => absurd h (by omega)
  | 0, k + 1, i, h0, h1, _ => by
    simp only [estoversref40_Copy.l0]
    rw [if_neg (by omega), List.take_of_length_le (by omega)]
  | d + 1, k + 1, i, h0, h1, h2 => by
    simp only [estoversref40_Copy.l0]
    rw [if_pos (by omega), if_pos (by omega), if_pos (by rw [List.length_take]; omega), wrap_nat i (by omega), take_snoc l i (by omega)]
    exact refCopy_l0 l hl d k (i + 1) (by omega) (by omega) (by omega)
theorem refCopy_ev (l : List Int) (hl : l.length ≤ 100000) : Ev (fun k => estoversref40_Copy.f k l) l := by
  refine Ev.of (fun k => estoversref40_Copy.mono l k) (k := l.length + 1) ?_
  unfold estoversref40_Copy.f
  have := refCopy_l0 l hl l.length (l.length + 1) 0 (by omega) (by omega) (by omega)
  simpa using this

/-- A move. -/
def mv (l : List Int) (f t : Int) : List Int := (l.set f.toNat 0).set t.toNat 1
theorem rd_set (l : List Int) (a j x : Int) (h0 : 0 ≤ a) (hj : 0 ≤ j) (hl : j < l.length) : rd (l.set a.toNat x) j = if j = a then x else rd l j := by
  unfold rd
  rw [List.getD_eq_getElem?_getD, List.getD_eq_getElem?_getD, List.getElem?_set]
  by_cases h : j = a
  · subst h; rw [if_pos rfl, if_pos rfl, if_pos (by omega)]; rfl
  · rw [if_neg h, if_neg (by omega)]
theorem rd_mv (l : List Int) (f t j : Int) (hf : 0 ≤ f) (ht : 0 ≤ t) (hj : 0 ≤ j) (hl : j < l.length) : rd (mv l f t) j = if j = t then 1 else if j = f then 0 else rd l j := by
  unfold mv
  rw [rd_set _ _ _ _ ht hj (by simpa using hl), rd_set _ _ _ _ hf hj hl]
theorem mv_len (l : List Int) (f t : Int) : (mv l f t).length = l.length := by unfold mv; simp
theorem mv_chk (l : List Int) (f t : Int) (hk : chk l = 0) : chk (mv l f t) = 0 := by
  obtain ⟨a, b⟩ := (chk_zero l).1 hk
  refine (chk_zero _).2 ⟨by rw [mv_len]; exact a, fun x hx => ?_⟩
  unfold mv at hx
  rcases List.mem_or_eq_of_mem_set hx with hx | rfl
  · rcases List.mem_or_eq_of_mem_set hx with hx | rfl
    · exact b x hx
    · rfl
  · rfl
theorem mv_last (l : List Int) (h : firstF l < lastM l) : lastM (mv l (lastM l) (firstF l)) < lastM l := by
  obtain ⟨a, b, c, d⟩ := lastM_is l
  obtain ⟨a1, b1, c1, d1⟩ := firstF_is l
  obtain ⟨a', b', c', d'⟩ := lastM_is (mv l (lastM l) (firstF l))
  rw [mv_len] at b' d'
  by_cases q : lastM (mv l (lastM l) (firstF l)) < lastM l
  · exact q
  · exfalso
    have h1 := c' (by omega)
    rw [rd_mv l _ _ _ (by omega) a1 (by omega) b', if_neg (by omega)] at h1
    by_cases q2 : lastM (mv l (lastM l) (firstF l)) = lastM l
    · rw [if_pos q2] at h1; exact absurd h1 (by decide)
    · rw [if_neg q2] at h1
      exact d _ (by omega) b' h1
/-- All moves, with a bound on their number. -/
def planL : Nat → List Int → List S26
  | 0, _ => []
  | k + 1, l => if firstF l < lastM l then ⟨lastM l, firstF l⟩ :: planL k (mv l (lastM l) (firstF l)) else []
def planF (l : List Int) : List S26 × Int := if chk l = 0 then (planL (l.length + 1) l, 0) else ([], chk l)
end Go.Proofs.Ytollapjmibkpfaa.X
