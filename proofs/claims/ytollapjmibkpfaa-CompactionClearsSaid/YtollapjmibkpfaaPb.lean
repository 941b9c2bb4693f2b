/- Plain laws of chapter 40: the program's Next and Plan. -/
import Derived.Test.YtollapjmibkpfaaPa
import Derived.Test.YtollapjmibkpfaaX4
import Derived.Test.YtollapjmibkpfaaX5
import Derived.Test.YtollapjmibkpfaaX8
import Derived.Test.YtollapjmibkpfaaX24
namespace Go.Proofs.Ytollapjmibkpfaa.X
open Go.RowKit Go.Proofs.YtollapjmibkpfaaW.PrintWords Go.Proofs.YtollapjmibkpfaaW.PrintLast Go.Proofs.YtollapjmibkpfaaW.PrintMore
set_option linter.unusedVariables false
set_option linter.unusedSimpArgs false

/-- x is the first free cell from a on, or the end. -/
def FromA (l : List Int) (a x : Int) : Prop := a ≤ x ∧ x ≤ l.length ∧ (x < l.length → rd l x = 0) ∧ ∀ j : Int, a ≤ j → j < x → rd l j ≠ 0
/-- y is the last movable cell up to b, or -1. -/
def ToB (l : List Int) (b y : Int) : Prop := -1 ≤ y ∧ y ≤ b ∧ (0 ≤ y → rd l y = 1) ∧ ∀ j : Int, y < j → j ≤ b → rd l j ≠ 1
theorem meet_l1 (l : List Int) (hl : l.length ≤ 4096) (x y : Int) : ∀ (d k : Nat) (b : Int), b - y = d → b < l.length → d < k → ToB l b y → compaction_meet.l1 k l x b = some (x, y, decide (x < y))
  | d, 0, _, _, _, h, _ => absurd h (by omega)
  | 0, k + 1, b, h0, h1, _, hy => by
    obtain ⟨a1, a2, a3, a4⟩ := hy
    have e : b = y := by omega
    subst e
    simp only [compaction_meet.l1]
    by_cases h : 0 ≤ b
    · rw [if_pos (by omega), if_pos h, if_pos h1, if_pos (a3 h)]
    · rw [if_neg (by omega)]
  | d + 1, k + 1, b, h0, h1, h2, hy => by
    obtain ⟨a1, a2, a3, a4⟩ := hy
    simp only [compaction_meet.l1]
    rw [if_pos (by omega), if_pos (by omega), if_pos h1, if_neg (a4 b (by omega) (by omega)), wrap_pred b (by omega) (by omega)]
    exact meet_l1 l hl x y d k (b - 1) (by omega) (by omega) (by omega) ⟨a1, by omega, a3, fun j h3 h4 => a4 j h3 (by omega)⟩
theorem meet_l0 (l : List Int) (hl : l.length ≤ 4096) (x y b : Int) (hb : b < l.length) (hy : ToB l b y) : ∀ (d k : Nat) (a : Int), x - a = d → 0 ≤ a → d + l.length + 3 < k → FromA l a x → compaction_meet.l0 k l a b = some (x, y, decide (x < y))
  | d, 0, _, _, _, h, _ => absurd h (by omega)
  | d, 1, _, _, _, h, _ => absurd h (by omega)
  | 0, k + 2, a, h0, h1, h2, hx => by
    obtain ⟨a1, a2, a3, a4⟩ := hx
    have e : a = x := by omega
    subst e
    have hm : compaction_meet.l1 k l a b = some (a, y, decide (a < y)) := meet_l1 l hl a y (b - y).toNat k b (by have := hy.2.1; omega) hb (by have := hy.1; omega) hy
    simp only [compaction_meet.l0, compaction_meet.j1]
    by_cases h : a < l.length
    · rw [if_pos h, if_pos h1, if_pos (a3 h)]; exact hm
    · rw [if_neg h]; exact hm
  | d + 1, k + 2, a, h0, h1, h2, hx => by
    obtain ⟨a1, a2, a3, a4⟩ := hx
    have ih := meet_l0 l hl x y b hb hy d (k + 1) (a + 1) (by omega) (by omega) (by omega) ⟨by omega, a2, a3, fun j h3 h4 => a4 j (by omega) h4⟩
    rw [compaction_meet.l0]
    rw [if_pos (by omega), if_pos h1, if_neg (a4 a (by omega) (by omega)), wrap_succ a (by omega) (by omega)]
    exact ih
theorem meet_ev (l : List Int) (hl : l.length ≤ 4096) (a b x y : Int) (ha : 0 ≤ a) (hb : b < l.length) (hx : FromA l a x) (hy : ToB l b y) : Ev (fun k => compaction_meet.f k l a b) (x, y, decide (x < y)) := by
  refine Ev.of (fun k => compaction_meet.mono l a b k) (k := (x - a).toNat + l.length + 4) ?_
  unfold compaction_meet.f
  exact meet_l0 l hl x y b hb hy (x - a).toNat _ a (by have := hx.1; omega) ha (by omega) hx
theorem first_from (l : List Int) : FromA l 0 (firstF l) := by
  obtain ⟨a, b, c, d⟩ := firstF_is l
  exact ⟨a, b, c, d⟩
theorem last_to (l : List Int) : ToB l ((l.length : Int) - 1) (lastM l) := by
  obtain ⟨a, b, c, d⟩ := lastM_is l
  exact ⟨a, by omega, c, fun j h1 h2 => d j h1 (by omega)⟩
theorem next_ev (l : List Int) (hk : chk l = 0) : Ev (fun k => compaction_Next.f k l) (nextF l) := by
  have hl := chk_len hk
  unfold compaction_Next.f
  refine Ev.bind (check_ev l) (Ev.pos hk ?_)
  rw [wrap_pred _ (by omega) (by omega)]
  refine Ev.bind (meet_ev l hl 0 _ _ _ (by omega) (by omega) (first_from l) (last_to l)) ?_
  unfold nextF
  by_cases h : firstF l < lastM l
  · rw [if_pos h]; exact Ev.pos (by simpa using h) (Ev.now _)
  · rw [if_neg h]; exact Ev.neg (by simpa using h) (Ev.now _)
theorem from_exists (l : List Int) : ∀ (d : Nat) (a : Int), (l.length : Int) - a = d → 0 ≤ a → ∃ x, FromA l a x
  | 0, a, h, h0 => ⟨a, by omega, by omega, fun h1 => by omega, fun j h1 h2 => by omega⟩
  | d + 1, a, h, h0 => by
    by_cases c : rd l a = 0
    · exact ⟨a, by omega, by omega, fun _ => c, fun j h1 h2 => by omega⟩
    · obtain ⟨x, a1, a2, a3, a4⟩ := from_exists l d (a + 1) (by omega) (by omega)
      refine ⟨x, by omega, a2, a3, fun j h1 h2 => ?_⟩
      by_cases e : j = a
      · subst e; exact c
      · exact a4 j (by omega) h2
theorem to_exists (l : List Int) : ∀ (d : Nat) (b : Int), b + 1 = d → ∃ y, ToB l b y
  | 0, b, h => ⟨b, by omega, by omega, fun h1 => by omega, fun j h1 h2 => by omega⟩
  | d + 1, b, h => by
    by_cases c : rd l b = 1
    · exact ⟨b, by omega, by omega, fun _ => c, fun j h1 h2 => by omega⟩
    · obtain ⟨y, a1, a2, a3, a4⟩ := to_exists l d (b - 1) (by omega)
      refine ⟨y, a1, by omega, a3, fun j h1 h2 => ?_⟩
      by_cases e : j = b
      · subst e; exact c
      · exact a4 j h1 (by omega)
/-- What the two scanners see of the original cells is what is there after the moves. -/
theorem scan (l cur : List Int) (hn : cur.length = l.length) (hq : firstF cur < lastM cur) (hag : ∀ j : Int, firstF cur < j → j < lastM cur → rd cur j = rd l j) (x y : Int)
    (hx : FromA l (firstF cur + 1) x) (hy : ToB l (lastM cur - 1) y) :
    (x < y ↔ firstF (mv cur (lastM cur) (firstF cur)) < lastM (mv cur (lastM cur) (firstF cur))) ∧
    (x < y → x = firstF (mv cur (lastM cur) (firstF cur)) ∧ y = lastM (mv cur (lastM cur) (firstF cur)) ∧
      ∀ j : Int, x < j → j < y → rd (mv cur (lastM cur) (firstF cur)) j = rd l j) := by
  obtain ⟨f1, f2, f3, f4⟩ := firstF_is cur
  obtain ⟨m1, m2, m3, m4⟩ := lastM_is cur
  obtain ⟨g1, g2, g3, g4⟩ := firstF_is (mv cur (lastM cur) (firstF cur))
  obtain ⟨n1, n2, n3, n4⟩ := lastM_is (mv cur (lastM cur) (firstF cur))
  obtain ⟨x1, x2, x3, x4⟩ := hx
  obtain ⟨y1, y2, y3, y4⟩ := hy
  rw [mv_len] at g2 g3 n2 n4
  have R := fun j h0 h1 => rd_mv cur (lastM cur) (firstF cur) j (by omega) f1 h0 h1
  generalize hF : firstF cur = F at *
  generalize hL : lastM cur = M at *
  generalize firstF (mv cur M F) = G at *
  generalize lastM (mv cur M F) = N at *
  -- the new list, by place
  have rLow : ∀ j : Int, 0 ≤ j → j < F → rd (mv cur M F) j = rd cur j := fun j h0 h1 => by rw [R j h0 (by omega), if_neg (by omega), if_neg (by omega)]
  have rF : rd (mv cur M F) F = 1 := by rw [R F f1 (by omega), if_pos rfl]
  have rMid : ∀ j : Int, F < j → j < M → rd (mv cur M F) j = rd l j := fun j h0 h1 => by rw [R j (by omega) (by omega), if_neg (by omega), if_neg (by omega)]; exact hag j h0 h1
  have rM : rd (mv cur M F) M = 0 := by rw [R M (by omega) (by omega), if_neg (by omega), if_pos rfl]
  have rHi : ∀ j : Int, M < j → j < cur.length → rd (mv cur M F) j = rd cur j := fun j h0 h1 => by rw [R j (by omega) h1, if_neg (by omega), if_neg (by omega)]
  -- the first free cell
  have hGF : F < G := by
    by_cases c : G < F
    · have := g3 (by omega); rw [rLow G g1 c] at this; exact absurd this (f4 G g1 c)
    · by_cases c' : G = F
      · subst c'; have := g3 (by omega); rw [rF] at this; exact absurd this (by decide)
      · omega
  have hGM : G ≤ M := by
    by_cases c : G ≤ M
    · exact c
    · exact absurd rM (g4 M (by omega) (by omega))
  have hGx : (x < M ∧ G = x) ∨ (M ≤ x ∧ G = M) := by
    by_cases c : x < M
    · left; refine ⟨c, ?_⟩
      by_cases c1 : G < x
      · have := g3 (by omega); rw [rMid G hGF (by omega)] at this; exact absurd this (x4 G (by omega) c1)
      · by_cases c2 : x < G
        · have := g4 x (by omega) c2; rw [rMid x (by omega) c] at this; exact absurd (x3 (by omega)) this
        · omega
    · right; refine ⟨by omega, ?_⟩
      by_cases c1 : G < M
      · have := g3 (by omega); rw [rMid G hGF c1] at this; exact absurd this (x4 G (by omega) (by omega))
      · omega
  -- the last movable one
  have hNM : N < M := by
    by_cases c : M < N
    · have := n3 (by omega); rw [rHi N c (by omega)] at this; exact absurd this (m4 N c (by omega))
    · by_cases c' : N = M
      · subst c'; have := n3 (by omega); rw [rM] at this; exact absurd this (by decide)
      · omega
  have hNF : F ≤ N := by
    by_cases c : F ≤ N
    · exact c
    · exact absurd rF (n4 F (by omega) (by omega))
  have hNy : (F < y ∧ N = y) ∨ (y ≤ F ∧ N = F) := by
    by_cases c : F < y
    · left; refine ⟨c, ?_⟩
      by_cases c1 : y < N
      · have := n3 (by omega); rw [rMid N (by omega) hNM] at this; exact absurd this (y4 N c1 (by omega))
      · by_cases c2 : N < y
        · have := n4 y c2 (by omega); rw [rMid y c (by omega)] at this; exact absurd (y3 (by omega)) this
        · omega
    · right; refine ⟨by omega, ?_⟩
      by_cases c1 : F < N
      · have := n3 (by omega); rw [rMid N c1 hNM] at this; exact absurd this (y4 N (by omega) (by omega))
      · omega
  refine ⟨by omega, fun h => ⟨by omega, by omega, fun j h1 h2 => rMid j (by omega) (by omega)⟩⟩
theorem plan_l0 (l : List Int) (hl : l.length ≤ 4096) : ∀ (fuel : Nat) (cur : List Int) (ms : List S26) (low high : Int), cur.length = l.length → lastM cur < fuel → ms.length + fuel ≤ 10000 →
    (firstF cur < lastM cur → low = firstF cur ∧ high = lastM cur ∧ ∀ j : Int, low < j → j < high → rd cur j = rd l j) →
    Ev (fun k => compaction_Plan.l0 k l ms low high (decide (firstF cur < lastM cur))) (ms ++ planL fuel cur, 0)
  | 0, cur, ms, low, high, hn, hm, hc, hi => by
    have q : ¬ firstF cur < lastM cur := by have := (firstF_is cur).1; omega
    refine Ev.step (fun k => by rw [compaction_Plan.l0]) ?_
    exact Ev.neg (by simp [q]) (by simpa [planL] using Ev.now (ms, (0 : Int)))
  | fuel + 1, cur, ms, low, high, hn, hm, hc, hi => by
    by_cases q : firstF cur < lastM cur
    · obtain ⟨rfl, rfl, hag⟩ := hi q
      have hF := firstF_is cur
      have hL := lastM_is cur
      obtain ⟨x, hx⟩ := from_exists l ((l.length : Int) - (firstF cur + 1)).toNat (firstF cur + 1) (by have := hL.2.1; omega) (by have := hF.1; omega)
      obtain ⟨y, hy⟩ := to_exists l (lastM cur).toNat (lastM cur - 1) (by have := hF.1; omega)
      obtain ⟨s1, s2⟩ := scan l cur hn q hag x y hx hy
      refine Ev.step (fun k => by rw [compaction_Plan.l0]) ?_
      refine Ev.pos (by simpa using q) (Ev.pos (by omega) ?_)
      rw [wrap_succ _ (by have := hF.1; omega) (by have := hL.2.1; omega), wrap_pred _ (by have := hF.1; omega) (by have := hL.2.1; omega)]
      refine Ev.bind (meet_ev l hl _ _ x y (by have := hF.1; omega) (by have := hL.2.1; omega) hx hy) ?_
      have ih := plan_l0 l hl fuel (mv cur (lastM cur) (firstF cur)) (ms ++ [⟨lastM cur, firstF cur⟩]) x y (by rw [mv_len]; exact hn) (by have := mv_last cur q; omega) (by simp; omega) (fun h => by
        obtain ⟨e1, e2, e3⟩ := s2 (s1.2 h)
        exact ⟨e1, e2, e3⟩)
      have ed : decide (x < y) = decide (firstF (mv cur (lastM cur) (firstF cur)) < lastM (mv cur (lastM cur) (firstF cur))) := by
        by_cases c : x < y
        · rw [decide_eq_true c, decide_eq_true (s1.1 c)]
        · rw [decide_eq_false c, decide_eq_false (fun h => c (s1.2 h))]
      simp only [ed]
      have er : ms ++ planL (fuel + 1) cur = (ms ++ [⟨lastM cur, firstF cur⟩]) ++ planL fuel (mv cur (lastM cur) (firstF cur)) := by rw [planL, if_pos q]; simp
      rw [er]; exact ih
    · refine Ev.step (fun k => by rw [compaction_Plan.l0]) ?_
      exact Ev.neg (by simp [q]) (by simpa [planL, q] using Ev.now (ms, (0 : Int)))
theorem plan_ev (l : List Int) : Ev (fun k => compaction_Plan.f k l) (planF l) := by
  unfold compaction_Plan.f planF
  refine Ev.bind (check_ev l) ?_
  by_cases hk : chk l = 0
  · rw [if_pos hk]
    have hl := chk_len hk
    refine Ev.pos hk ?_
    rw [wrap_pred _ (by omega) (by omega)]
    refine Ev.bind (meet_ev l hl 0 _ _ _ (by omega) (by omega) (first_from l) (last_to l)) ?_
    have := plan_l0 l hl (l.length + 1) l [] (firstF l) (lastM l) rfl (by have := (lastM_is l).2.1; omega) (by simp; omega) (fun _ => ⟨rfl, rfl, fun j _ _ => rfl⟩)
    simpa using this
  · rw [if_neg hk]; exact Ev.neg hk (Ev.now _)

theorem same_l0 (l : List Int) (hl : l.length ≤ 100000) : ∀ (d k i : Nat), l.length - i = d → i ≤ l.length → d < k → estoversref40_Same.l0 k l l i = some true
  | d, 0, i, _, _, h => absurd h (by omega)
  | 0, k + 1, i, h0, h1, _ => by
    simp only [estoversref40_Same.l0]
    rw [if_neg (by omega)]
  | d + 1, k + 1, i, h0, h1, h2 => by
    simp only [estoversref40_Same.l0]
    rw [if_pos (by omega), if_pos (by omega), if_pos (by omega), if_pos trivial, wrap_nat i (by omega)]
    exact same_l0 l hl d k (i + 1) (by omega) (by omega) (by omega)
theorem same_ev (l : List Int) (hl : l.length ≤ 100000) : Ev (fun k => estoversref40_Same.f k l l) true :=
  Ev.of (fun k => estoversref40_Same.mono l l k) (k := l.length + 1) (by
    unfold estoversref40_Same.f; rw [if_pos rfl]
    exact same_l0 l hl l.length (l.length + 1) 0 (by omega) (by omega) (by omega))
theorem sameMoves_l0 (l : List S26) (hl : l.length ≤ 100000) : ∀ (d k i : Nat), l.length - i = d → i ≤ l.length → d < k → estoversref40_SameMoves.l0 k l l i = some true
  | d, 0, i, _, _, h => absurd h (by omega)
  | 0, k + 1, i, h0, h1, _ => by
    simp only [estoversref40_SameMoves.l0]
    rw [if_neg (by omega)]
  | d + 1, k + 1, i, h0, h1, h2 => by
    simp only [estoversref40_SameMoves.l0]
    rw [if_pos (by omega), if_pos (by omega), if_pos (by omega), if_neg (by simp), wrap_nat i (by omega)]
    exact sameMoves_l0 l hl d k (i + 1) (by omega) (by omega) (by omega)
theorem sameMoves_ev (l : List S26) (hl : l.length ≤ 100000) : Ev (fun k => estoversref40_SameMoves.f k l l) true :=
  Ev.of (fun k => estoversref40_SameMoves.mono l l k) (k := l.length + 1) (by
    unfold estoversref40_SameMoves.f; rw [if_pos rfl]
    exact sameMoves_l0 l hl l.length (l.length + 1) 0 (by omega) (by omega) (by omega))
theorem planL_len : ∀ (k : Nat) (l : List Int), (planL k l).length ≤ k
  | 0, l => by simp [planL]
  | k + 1, l => by
    unfold planL; split
    · have := planL_len k (mv l (lastM l) (firstF l)); simp; omega
    · simp
end Go.Proofs.Ytollapjmibkpfaa.X
