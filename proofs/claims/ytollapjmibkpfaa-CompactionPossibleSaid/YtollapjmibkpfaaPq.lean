/- Plain laws of chapter 40: the program's Next and Plan, Run and blocks, Clear; what the moves make. -/
import Derived.Test.YtollapjmibkpfaaPa
import Derived.Test.YtollapjmibkpfaaX4
import Derived.Test.YtollapjmibkpfaaX5
import Derived.Test.YtollapjmibkpfaaX8
import Derived.Test.YtollapjmibkpfaaX24
import Derived.Test.YtollapjmibkpfaaGc
import Derived.Test.YtollapjmibkpfaaX9
import Derived.Test.YtollapjmibkpfaaX29
import Derived.Test.YtollapjmibkpfaaX31
import Derived.Test.YtollapjmibkpfaaX32
import Derived.Test.YtollapjmibkpfaaX17
import Derived.Test.YtollapjmibkpfaaX34
import Derived.Test.YtollapjmibkpfaaGb
import Derived.Test.YtollapjmibkpfaaK20
namespace Go.Proofs.Ytollapjmibkpfaa.X
open Go.RowKit Go.Proofs.YtollapjmibkpfaaW.PrintWords Go.Proofs.YtollapjmibkpfaaW.PrintLast Go.Proofs.YtollapjmibkpfaaW.PrintMore
set_option linter.unusedVariables false
set_option linter.unusedSimpArgs false

/-- x is the first free cell from a on, or the end. -/
def FromA (l : List Int) (a x : Int) : Prop := a ≤ x ∧ x ≤ l.length ∧ (x < l.length → rd l x = 0) ∧ ∀ j : Int, a ≤ j → j < x → rd l j ≠ 0
/-- y is the last movable cell up to b, or -1. -/
def ToB (l : List Int) (b y : Int) : Prop := -1 ≤ y ∧ y ≤ b ∧ (0 ≤ y → rd l y = 1) ∧ ∀ j : Int, y < j → j ≤ b → rd l j ≠ 1
theorem meet_l1 (l : List Int) (hl : l.length ≤ 4096) (x y : Int) : ∀ (d k : Nat) (b : Int), b - y = d → b < l.length → d < k → ToB l b y → compaction_meet.l1 k l x b = some (x, y, decide (x < y))
  | d, 0, _, _, _, h, _ => absurd h (by omega)
  | 0, k + 1, b, h0, h1, _, hy => by
    obtain ⟨a1, a2, a3, a4⟩ := hy
    have e : b = y := by omega
    subst e
    simp only [compaction_meet.l1]
    by_cases h : 0 ≤ b
    · rw [if_pos (by omega), if_pos h, if_pos h1, if_pos (a3 h)]
    · rw [if_neg (by omega)]
  | d + 1, k + 1, b, h0, h1, h2, hy => by
    obtain ⟨a1, a2, a3, a4⟩ := hy
    simp only [compaction_meet.l1]
    rw [if_pos (by omega), if_pos (by omega), if_pos h1, if_neg (a4 b (by omega) (by omega)), wrap_pred b (by omega) (by omega)]
    exact meet_l1 l hl x y d k (b - 1) (by omega) (by omega) (by omega) ⟨a1, by omega, a3, fun j h3 h4 => a4 j h3 (by omega)⟩
theorem meet_l0 (l : List Int) (hl : l.length ≤ 4096) (x y b : Int) (hb : b < l.length) (hy : ToB l b y) : ∀ (d k : Nat) (a : Int), x - a = d → 0 ≤ a → d + l.length + 3 < k → FromA l a x → compaction_meet.l0 k l a b = some (x, y, decide (x < y))
  | d, 0, _, _, _, h, _ => absurd h (by omega)
  | d, 1, _, _, _, h, _ => absurd h (by omega)
  | 0, k + 2, a, h0, h1, h2, hx => by
    obtain ⟨a1, a2, a3, a4⟩ := hx
    have e : a = x := by omega
    subst e
    have hm : compaction_meet.l1 k l a b = some (a, y, decide (a < y)) := meet_l1 l hl a y (b - y).toNat k b (by have := hy.2.1; omega) hb (by have := hy.1; omega) hy
    simp only [compaction_meet.l0, compaction_meet.j1]
    by_cases h : a < l.length
    · rw [if_pos h, if_pos h1, if_pos (a3 h)]; exact hm
    · rw [if_neg h]; exact hm
  | d + 1, k + 2, a, h0, h1, h2, hx => by
    obtain ⟨a1, a2, a3, a4⟩ := hx
    have ih := meet_l0 l hl x y b hb hy d (k + 1) (a + 1) (by omega) (by omega) (by omega) ⟨by omega, a2, a3, fun j h3 h4 => a4 j (by omega) h4⟩
    rw [compaction_meet.l0]
    rw [if_pos (by omega), if_pos h1, if_neg (a4 a (by omega) (by omega)), wrap_succ a (by omega) (by omega)]
    exact ih
theorem meet_ev (l : List Int) (hl : l.length ≤ 4096) (a b x y : Int) (ha : 0 ≤ a) (hb : b < l.length) (hx : FromA l a x) (hy : ToB l b y) : Ev (fun k => compaction_meet.f k l a b) (x, y, decide (x < y)) := by
  refine Ev.of (fun k => compaction_meet.mono l a b k) (k := (x - a).toNat + l.length + 4) ?_
  unfold compaction_meet.f
  exact meet_l0 l hl x y b hb hy (x - a).toNat _ a (by have := hx.1; omega) ha (by omega) hx
theorem first_from (l : List Int) : FromA l 0 (firstF l) := by
  obtain ⟨a, b, c, d⟩ := firstF_is l
  exact ⟨a, b, c, d⟩
theorem last_to (l : List Int) : ToB l ((l.length : Int) - 1) (lastM l) := by
  obtain ⟨a, b, c, d⟩ := lastM_is l
  exact ⟨a, by omega, c, fun j h1 h2 => d j h1 (by omega)⟩
theorem next_ev (l : List Int) (hk : chk l = 0) : Ev (fun k => compaction_Next.f k l) (nextF l) := by
  have hl := chk_len hk
  unfold compaction_Next.f
  refine Ev.bind (check_ev l) (Ev.pos hk ?_)
  rw [wrap_pred _ (by omega) (by omega)]
  refine Ev.bind (meet_ev l hl 0 _ _ _ (by omega) (by omega) (first_from l) (last_to l)) ?_
  unfold nextF
  by_cases h : firstF l < lastM l
  · rw [if_pos h]; exact Ev.pos (by simpa using h) (Ev.now _)
  · rw [if_neg h]; exact Ev.neg (by simpa using h) (Ev.now _)
theorem from_exists (l : List Int) : ∀ (d : Nat) (a : Int), (l.length : Int) - a = d → 0 ≤ a → ∃ x, FromA l a x
  | 0, a, h, h0 => ⟨a, by omega, by omega, fun h1 => by omega, fun j h1 h2 => by omega⟩
  | d + 1, a, h, h0 => by
    by_cases c : rd l a = 0
    · exact ⟨a, by omega, by omega, fun _ => c, fun j h1 h2 => by omega⟩
    · obtain ⟨x, a1, a2, a3, a4⟩ := from_exists l d (a + 1) (by omega) (by omega)
      refine ⟨x, by omega, a2, a3, fun j h1 h2 => ?_⟩
      by_cases e : j = a
      · subst e; exact c
      · exact a4 j (by omega) h2
theorem to_exists (l : List Int) : ∀ (d : Nat) (b : Int), b + 1 = d → ∃ y, ToB l b y
  | 0, b, h => ⟨b, by omega, by omega, fun h1 => by omega, fun j h1 h2 => by omega⟩
  | d + 1, b, h => by
    by_cases c : rd l b = 1
    · exact ⟨b, by omega, by omega, fun _ => c, fun j h1 h2 => by omega⟩
    · obtain ⟨y, a1, a2, a3, a4⟩ := to_exists l d (b - 1) (by omega)
      refine ⟨y, a1, by omega, a3, fun j h1 h2 => ?_⟩
      by_cases e : j = b
      · subst e; exact c
      · exact a4 j h1 (by omega)
/-- What the two scanners see of the original cells is what is there after the moves. -/
theorem scan (l cur : List Int) (hn : cur.length = l.length) (hq : firstF cur < lastM cur) (hag : ∀ j : Int, firstF cur < j → j < lastM cur → rd cur j = rd l j) (x y : Int)
    (hx : FromA l (firstF cur + 1) x) (hy : ToB l (lastM cur - 1) y) :
    (x < y ↔ firstF (mv cur (lastM cur) (firstF cur)) < lastM (mv cur (lastM cur) (firstF cur))) ∧
    (x < y → x = firstF (mv cur (lastM cur) (firstF cur)) ∧ y = lastM (mv cur (lastM cur) (firstF cur)) ∧
      ∀ j : Int, x < j → j < y → rd (mv cur (lastM cur) (firstF cur)) j = rd l j) := by
  obtain ⟨f1, f2, f3, f4⟩ := firstF_is cur
  obtain ⟨m1, m2, m3, m4⟩ := lastM_is cur
  obtain ⟨g1, g2, g3, g4⟩ := firstF_is (mv cur (lastM cur) (firstF cur))
  obtain ⟨n1, n2, n3, n4⟩ := lastM_is (mv cur (lastM cur) (firstF cur))
  obtain ⟨x1, x2, x3, x4⟩ := hx
  obtain ⟨y1, y2, y3, y4⟩ := hy
  rw [mv_len] at g2 g3 n2 n4
  have R := fun j h0 h1 => rd_mv cur (lastM cur) (firstF cur) j (by omega) f1 h0 h1
  generalize hF : firstF cur = F at *
  generalize hL : lastM cur = M at *
  generalize firstF (mv cur M F) = G at *
  generalize lastM (mv cur M F) = N at *
  -- the new list, by place
  have rLow : ∀ j : Int, 0 ≤ j → j < F → rd (mv cur M F) j = rd cur j := fun j h0 h1 => by rw [R j h0 (by omega), if_neg (by omega), if_neg (by omega)]
  have rF : rd (mv cur M F) F = 1 := by rw [R F f1 (by omega), if_pos rfl]
  have rMid : ∀ j : Int, F < j → j < M → rd (mv cur M F) j = rd l j := fun j h0 h1 => by rw [R j (by omega) (by omega), if_neg (by omega), if_neg (by omega)]; exact hag j h0 h1
  have rM : rd (mv cur M F) M = 0 := by rw [R M (by omega) (by omega), if_neg (by omega), if_pos rfl]
  have rHi : ∀ j : Int, M < j → j < cur.length → rd (mv cur M F) j = rd cur j := fun j h0 h1 => by rw [R j (by omega) h1, if_neg (by omega), if_neg (by omega)]
  -- the first free cell
  have hGF : F < G := by
    by_cases c : G < F
    · have := g3 (by omega); rw [rLow G g1 c] at this; exact absurd this (f4 G g1 c)
    · by_cases c' : G = F
      · subst c'; have := g3 (by omega); rw [rF] at this; exact absurd this (by decide)
      · omega
  have hGM : G ≤ M := by
    by_cases c : G ≤ M
    · exact c
    · exact absurd rM (g4 M (by omega) (by omega))
  have hGx : (x < M ∧ G = x) ∨ (M ≤ x ∧ G = M) := by
    by_cases c : x < M
    · left; refine ⟨c, ?_⟩
      by_cases c1 : G < x
      · have := g3 (by omega); rw [rMid G hGF (by omega)] at this; exact absurd this (x4 G (by omega) c1)
      · by_cases c2 : x < G
        · have := g4 x (by omega) c2; rw [rMid x (by omega) c] at this; exact absurd (x3 (by omega)) this
        · omega
    · right; refine ⟨by omega, ?_⟩
      by_cases c1 : G < M
      · have := g3 (by omega); rw [rMid G hGF c1] at this; exact absurd this (x4 G (by omega) (by omega))
      · omega
  -- the last movable one
  have hNM : N < M := by
    by_cases c : M < N
    · have := n3 (by omega); rw [rHi N c (by omega)] at this; exact absurd this (m4 N c (by omega))
    · by_cases c' : N = M
      · subst c'; have := n3 (by omega); rw [rM] at this; exact absurd this (by decide)
      · omega
  have hNF : F ≤ N := by
    by_cases c : F ≤ N
    · exact c
    · exact absurd rF (n4 F (by omega) (by omega))
  have hNy : (F < y ∧ N = y) ∨ (y ≤ F ∧ N = F) := by
    by_cases c : F < y
    · left; refine ⟨c, ?_⟩
      by_cases c1 : y < N
      · have := n3 (by omega); rw [rMid N (by omega) hNM] at this; exact absurd this (y4 N c1 (by omega))
      · by_cases c2 : N < y
        · have := n4 y c2 (by omega); rw [rMid y c (by omega)] at this; exact absurd (y3 (by omega)) this
        · omega
    · right; refine ⟨by omega, ?_⟩
      by_cases c1 : F < N
      · have := n3 (by omega); rw [rMid N c1 hNM] at this; exact absurd this (y4 N (by omega) (by omega))
      · omega
  refine ⟨by omega, fun h => ⟨by omega, by omega, fun j h1 h2 => rMid j (by omega) (by omega)⟩⟩
theorem plan_l0 (l : List Int) (hl : l.length ≤ 4096) : ∀ (fuel : Nat) (cur : List Int) (ms : List S26) (low high : Int), cur.length = l.length → lastM cur < fuel → ms.length + fuel ≤ 10000 →
    (firstF cur < lastM cur → low = firstF cur ∧ high = lastM cur ∧ ∀ j : Int, low < j → j < high → rd cur j = rd l j) →
    Ev (fun k => compaction_Plan.l0 k l ms low high (decide (firstF cur < lastM cur))) (ms ++ planL fuel cur, 0)
  | 0, cur, ms, low, high, hn, hm, hc, hi => by
    have q : ¬ firstF cur < lastM cur := by have := (firstF_is cur).1; omega
    refine Ev.step (fun k => by rw [compaction_Plan.l0]) ?_
    exact Ev.neg (by simp [q]) (by simpa [planL] using Ev.now (ms, (0 : Int)))
  | fuel + 1, cur, ms, low, high, hn, hm, hc, hi => by
    by_cases q : firstF cur < lastM cur
    · obtain ⟨rfl, rfl, hag⟩ := hi q
      have hF := firstF_is cur
      have hL := lastM_is cur
      obtain ⟨x, hx⟩ := from_exists l ((l.length : Int) - (firstF cur + 1)).toNat (firstF cur + 1) (by have := hL.2.1; omega) (by have := hF.1; omega)
      obtain ⟨y, hy⟩ := to_exists l (lastM cur).toNat (lastM cur - 1) (by have := hF.1; omega)
      obtain ⟨s1, s2⟩ := scan l cur hn q hag x y hx hy
      refine Ev.step (fun k => by rw [compaction_Plan.l0]) ?_
      refine Ev.pos (by simpa using q) (Ev.pos (by omega) ?_)
      rw [wrap_succ _ (by have := hF.1; omega) (by have := hL.2.1; omega), wrap_pred _ (by have := hF.1; omega) (by have := hL.2.1; omega)]
      refine Ev.bind (meet_ev l hl _ _ x y (by have := hF.1; omega) (by have := hL.2.1; omega) hx hy) ?_
      have ih := plan_l0 l hl fuel (mv cur (lastM cur) (firstF cur)) (ms ++ [⟨lastM cur, firstF cur⟩]) x y (by rw [mv_len]; exact hn) (by have := mv_last cur q; omega) (by simp; omega) (fun h => by
        obtain ⟨e1, e2, e3⟩ := s2 (s1.2 h)
        exact ⟨e1, e2, e3⟩)
      have ed : decide (x < y) = decide (firstF (mv cur (lastM cur) (firstF cur)) < lastM (mv cur (lastM cur) (firstF cur))) := by
        by_cases c : x < y
        · rw [decide_eq_true c, decide_eq_true (s1.1 c)]
        · rw [decide_eq_false c, decide_eq_false (fun h => c (s1.2 h))]
      simp only [ed]
      have er : ms ++ planL (fuel + 1) cur = (ms ++ [⟨lastM cur, firstF cur⟩]) ++ planL fuel (mv cur (lastM cur) (firstF cur)) := by rw [planL, if_pos q]; simp
      rw [er]; exact ih
    · refine Ev.step (fun k => by rw [compaction_Plan.l0]) ?_
      exact Ev.neg (by simp [q]) (by simpa [planL, q] using Ev.now (ms, (0 : Int)))
theorem plan_ev (l : List Int) : Ev (fun k => compaction_Plan.f k l) (planF l) := by
  unfold compaction_Plan.f planF
  refine Ev.bind (check_ev l) ?_
  by_cases hk : chk l = 0
  · rw [if_pos hk]
    have hl := chk_len hk
    refine Ev.pos hk ?_
    rw [wrap_pred _ (by omega) (by omega)]
    refine Ev.bind (meet_ev l hl 0 _ _ _ (by omega) (by omega) (first_from l) (last_to l)) ?_
    have := plan_l0 l hl (l.length + 1) l [] (firstF l) (lastM l) rfl (by have := (lastM_is l).2.1; omega) (by simp; omega) (fun _ => ⟨rfl, rfl, fun j _ _ => rfl⟩)
    simpa using this
  · rw [if_neg hk]; exact Ev.neg hk (Ev.now _)

theorem same_l0 (l : List Int) (hl : l.length ≤ 100000) : ∀ (d k i : Nat), l.length - i = d → i ≤ l.length → d < k → estoversref40_Same.l0 k l l i = some true
  | d, 0, i, _, _, h => absurd h (by omega)
  | 0, k + 1, i, h0, h1, _ => by
    simp only [estoversref40_Same.l0]
    rw [if_neg (by omega)]
  | d + 1, k + 1, i, h0, h1, h2 => by
    simp only [estoversref40_Same.l0]
    rw [if_pos (by omega), if_pos (by omega), if_pos (by omega), if_pos trivial, wrap_nat i (by omega)]
    exact same_l0 l hl d k (i + 1) (by omega) (by omega) (by omega)
theorem same_ev (l : List Int) (hl : l.length ≤ 100000) : Ev (fun k => estoversref40_Same.f k l l) true :=
  Ev.of (fun k => estoversref40_Same.mono l l k) (k := l.length + 1) (by
    unfold estoversref40_Same.f; rw [if_pos rfl]
    exact same_l0 l hl l.length (l.length + 1) 0 (by omega) (by omega) (by omega))
theorem sameMoves_l0 (l : List S26) (hl : l.length ≤ 100000) : ∀ (d k i : Nat), l.length - i = d → i ≤ l.length → d < k → estoversref40_SameMoves.l0 k l l i = some true
  | d, 0, i, _, _, h => absurd h (by omega)
  | 0, k + 1, i, h0, h1, _ => by
    simp only [estoversref40_SameMoves.l0]
    rw [if_neg (by omega)]
  | d + 1, k + 1, i, h0, h1, h2 => by
    simp only [estoversref40_SameMoves.l0]
    rw [if_pos (by omega), if_pos (by omega), if_pos (by omega), if_neg (by simp), wrap_nat i (by omega)]
    exact sameMoves_l0 l hl d k (i + 1) (by omega) (by omega) (by omega)
theorem sameMoves_ev (l : List S26) (hl : l.length ≤ 100000) : Ev (fun k => estoversref40_SameMoves.f k l l) true :=
  Ev.of (fun k => estoversref40_SameMoves.mono l l k) (k := l.length + 1) (by
    unfold estoversref40_SameMoves.f; rw [if_pos rfl]
    exact sameMoves_l0 l hl l.length (l.length + 1) 0 (by omega) (by omega) (by omega))
theorem planL_len : ∀ (k : Nat) (l : List Int), (planL k l).length ≤ k
  | 0, l => by simp [planL]
  | k + 1, l => by
    unfold planL; split
    · have := planL_len k (mv l (lastM l) (firstF l)); simp; omega
    · simp

/-- A run of free cells of positive length. -/
def Runs (l : List Int) (s b : Int) : Prop := 0 < b ∧ 0 ≤ s ∧ ∀ j : Int, s ≤ j → j < s + b → rd l j = 0
/-- The first longest run of those that Q admits. -/
def Best (l : List Int) (Q : Int → Int → Prop) (s b : Int) : Prop :=
  ((b = 0 ∧ s = 0) ∨ (Runs l s b ∧ Q s b)) ∧ ∀ s' b' : Int, Runs l s' b' → Q s' b' → b' < b ∨ (b' = b ∧ s ≤ s')
theorem Best.uniq {l : List Int} {Q : Int → Int → Prop} {s b s' b' : Int} (h : Best l Q s b) (h' : Best l Q s' b') : s = s' ∧ b = b' := by
  obtain ⟨h1, h2⟩ := h; obtain ⟨h1', h2'⟩ := h'
  rcases h1 with ⟨e1, e2⟩ | ⟨r, q⟩
  · rcases h1' with ⟨e1', e2'⟩ | ⟨r', q'⟩
    · omega
    · have := h2 _ _ r' q'; have := r'.1; omega
  · rcases h1' with ⟨e1', e2'⟩ | ⟨r', q'⟩
    · have := h2' _ _ r q; have := r.1; omega
    · have := h2 _ _ r' q'; have := h2' _ _ r q; omega
theorem Best.le {l : List Int} {Q : Int → Int → Prop} {s b : Int} (h : Best l Q s b) : 0 ≤ b := by
  rcases h.1 with ⟨e, _⟩ | ⟨r, _⟩
  · omega
  · have := r.1; omega
theorem run_l0 (l : List Int) (hl : l.length ≤ 4096) : ∀ (d k i : Nat) (s b r : Int), l.length - i = d → i ≤ l.length → d < k →
    Best l (fun s b => s + b ≤ i) s b → 0 ≤ r → r ≤ i → (∀ j : Int, i - r ≤ j → j < i → rd l j = 0) → (r < i → rd l (i - r - 1) ≠ 0) → r ≤ b →
    ∃ p : Int × Int, compaction_Run.l0 k s b r l (l.length : Int) i = some p ∧ Best l (fun s b => s + b ≤ l.length) p.1 p.2
  | d, 0, i, _, _, _, _, _, h, _, _, _, _, _, _ => absurd h (by omega)
  | 0, k + 1, i, s, b, r, h0, h1, _, hB, _, _, _, _, _ => by
    simp only [compaction_Run.l0]
    rw [if_neg (by omega)]
    have : i = l.length := by omega
    subst this
    exact ⟨(s, b), rfl, hB⟩
  | d + 1, k + 1, i, s, b, r, h0, h1, h2, hB, r0, r1, hf, hn, hrb => by
    simp only [compaction_Run.l0]
    rw [if_pos (by omega), if_pos (by omega), if_pos (by omega), wrap_nat i (by omega), wrap_id (r + 1) (by omega) (by omega)]
    have hb0 := hB.le
    by_cases c0 : rd l i = 0
    · rw [if_pos c0]
      have hf' : ∀ j : Int, ((i + 1 : Nat) : Int) - (r + 1) ≤ j → j < ((i + 1 : Nat) : Int) → rd l j = 0 := by
        intro j g0 g1
        by_cases e : j = i
        · rw [e]; exact c0
        · exact hf j (by omega) (by omega)
      have hn' : r + 1 < ((i + 1 : Nat) : Int) → rd l (((i + 1 : Nat) : Int) - (r + 1) - 1) ≠ 0 := by
        intro g
        rw [show ((i + 1 : Nat) : Int) - (r + 1) - 1 = i - r - 1 from by omega]
        exact hn (by omega)
      have hs : ∀ s' b' : Int, Runs l s' b' → s' + b' ≤ ((i + 1 : Nat) : Int) → ¬ s' + b' ≤ i → b' ≤ r + 1 ∧ s' = i + 1 - b' := by
        intro s' b' hr hq hq'
        refine ⟨?_, by omega⟩
        apply Classical.byContradiction
        intro g
        refine hn ?_ (hr.2.2 (i - r - 1) (by omega) (by omega))
        have := hr.2.1; omega
      by_cases c1 : r + 1 > b
      · rw [if_pos c1, wrap_id ((i : Int) - (r + 1)) (by omega) (by omega), wrap_id _ (by omega) (by omega)]
        have e : (i : Int) - (r + 1) + 1 = i - r := by omega
        rw [e]
        refine run_l0 l hl d k (i + 1) (i - r) (r + 1) (r + 1) (by omega) (by omega) (by omega) ⟨.inr ⟨⟨by omega, by omega, fun j g0 g1 => hf' j (by omega) (by omega)⟩, by omega⟩, ?_⟩ (by omega) (by omega) hf' hn' (by omega)
        intro s' b' hr hq
        by_cases q : s' + b' ≤ i
        · have := hB.2 s' b' hr q; omega
        · have := hs s' b' hr hq q; omega
      · rw [if_neg c1]
        refine run_l0 l hl d k (i + 1) s b (r + 1) (by omega) (by omega) (by omega) ⟨?_, ?_⟩ (by omega) (by omega) hf' hn' (by omega)
        · rcases hB.1 with h | ⟨h, h'⟩
          · exact .inl h
          · exact .inr ⟨h, by omega⟩
        · intro s' b' hr hq
          by_cases q : s' + b' ≤ i
          · exact hB.2 s' b' hr q
          · have := hs s' b' hr hq q
            rcases hB.1 with h | ⟨h, h'⟩
            · omega
            · omega
    · rw [if_neg c0, if_neg (by omega)]
      refine run_l0 l hl d k (i + 1) s b 0 (by omega) (by omega) (by omega) ⟨?_, ?_⟩ (by omega) (by omega) (fun j g0 g1 => absurd g1 (by omega)) (fun _ => by rw [show ((i + 1 : Nat) : Int) - 0 - 1 = i from by omega]; exact c0) hb0
      · rcases hB.1 with h | ⟨h, h'⟩
        · exact .inl h
        · exact .inr ⟨h, by omega⟩
      · intro s' b' hr hq
        by_cases q : s' + b' ≤ i
        · exact hB.2 s' b' hr q
        · exact absurd (hr.2.2 i (by have := hr.1; omega) (by omega)) c0
/-- n free cells from i on, and no more. -/
def Len (l : List Int) (i n : Int) : Prop := 0 ≤ n ∧ i + n ≤ l.length ∧ (∀ j : Int, i ≤ j → j < i + n → rd l j = 0) ∧ (i + n < l.length → rd l (i + n) ≠ 0)
theorem len_l0 (l : List Int) (hl : l.length ≤ 4096) (i : Int) (hi : 0 ≤ i) : ∀ (d k : Nat) (n : Int), (l.length : Int) - i - n = d → d < k → 0 ≤ n → (∀ j : Int, i ≤ j → j < i + n → rd l j = 0) →
    ∃ m, estoversref40_run.l0 k l i n = some m ∧ Len l i m
  | d, 0, n, _, h, _, _ => absurd h (by omega)
  | 0, k + 1, n, h0, h1, h2, h3 => by
    simp only [estoversref40_run.l0]
    rw [wrap_id (i + n) (by omega) (by omega), if_neg (by omega)]
    exact ⟨n, rfl, h2, by omega, h3, fun h => absurd h (by omega)⟩
  | d + 1, k + 1, n, h0, h1, h2, h3 => by
    simp only [estoversref40_run.l0]
    rw [wrap_id (i + n) (by omega) (by omega), wrap_id (n + 1) (by omega) (by omega), if_pos (by omega), if_pos (by omega)]
    by_cases c : rd l (i + n) = 0
    · rw [if_pos c]
      refine len_l0 l hl i hi d k (n + 1) (by omega) (by omega) (by omega) ?_
      intro j g0 g1
      by_cases e : j = i + n
      · rw [e]; exact c
      · exact h3 j g0 (by omega)
    · rw [if_neg c]
      exact ⟨n, rfl, h2, by omega, h3, fun _ => c⟩
theorem len_ev (l : List Int) (hl : l.length ≤ 4096) (i : Int) (hi : 0 ≤ i) (hi' : i ≤ l.length) : ∃ m, Ev (fun k => estoversref40_run.f k l i) m ∧ Len l i m := by
  obtain ⟨m, hm, hL⟩ := len_l0 l hl i hi ((l.length : Int) - i).toNat (((l.length : Int) - i).toNat + 1) 0 (by omega) (by omega) (by omega) (fun j g0 g1 => absurd g1 (by omega))
  exact ⟨m, Ev.of (fun k => estoversref40_run.mono l i k) hm, hL⟩
theorem refRun_l0 (l : List Int) (hl : l.length ≤ 4096) : ∀ (d i : Nat) (s b : Int), l.length - i = d → i ≤ l.length →
    Best l (fun s b => s < i ∧ s + b ≤ l.length) s b →
    ∃ p : Int × Int, Ev (fun k => estoversref40_Run.l0 k l s b i) p ∧ Best l (fun s b => s + b ≤ l.length) p.1 p.2
  | 0, i, s, b, h0, h1, hB => by
    refine ⟨(s, b), Ev.step (fun k => by rw [estoversref40_Run.l0]) (Ev.neg (by omega) (Ev.now _)), ?_⟩
    refine ⟨?_, fun s' b' hr hq => hB.2 s' b' hr ⟨by have := hr.1; omega, hq⟩⟩
    rcases hB.1 with h | ⟨h, h'⟩
    · exact .inl h
    · exact .inr ⟨h, h'.2⟩
  | d + 1, i, s, b, h0, h1, hB => by
    obtain ⟨m, hm, hL⟩ := len_ev l hl i (by omega) (by omega)
    have hb0 := hB.le
    have hs : ∀ s' b' : Int, Runs l s' b' → (s' < ((i + 1 : Nat) : Int) ∧ s' + b' ≤ l.length) → ¬ s' < i → b' ≤ m ∧ s' = i := by
      intro s' b' hr hq hq'
      refine ⟨?_, by omega⟩
      apply Classical.byContradiction
      intro g
      exact hL.2.2.2 (by omega) (hr.2.2 (i + m) (by have := hL.1; omega) (by omega))
    by_cases c : m > b
    · have ⟨p, hp, hP⟩ := refRun_l0 l hl d (i + 1) i m (by omega) (by omega) ⟨.inr ⟨⟨by omega, by omega, hL.2.2.1⟩, by omega, hL.2.1⟩, by
        intro s' b' hr hq
        by_cases q : s' < i
        · have := hB.2 s' b' hr ⟨q, hq.2⟩; omega
        · have := hs s' b' hr hq q; omega⟩
      refine ⟨p, Ev.step (fun k => by rw [estoversref40_Run.l0]) (Ev.pos (by omega) (Ev.bind hm (Ev.pos c ?_))), hP⟩
      rw [wrap_nat i (by omega)]; exact hp
    · have ⟨p, hp, hP⟩ := refRun_l0 l hl d (i + 1) s b (by omega) (by omega) ⟨by
        rcases hB.1 with h | ⟨h, h'⟩
        · exact .inl h
        · exact .inr ⟨h, by omega, h'.2⟩, by
        intro s' b' hr hq
        by_cases q : s' < i
        · exact hB.2 s' b' hr ⟨q, hq.2⟩
        · have := hs s' b' hr hq q
          rcases hB.1 with h | ⟨h, h'⟩
          · have := hr.1; omega
          · omega⟩
      refine ⟨p, Ev.step (fun k => by rw [estoversref40_Run.l0]) (Ev.pos (by omega) (Ev.bind hm (Ev.neg c ?_))), hP⟩
      rw [wrap_nat i (by omega)]; exact hp
theorem run_both (l : List Int) : ∃ p : Int × Int, Ev (fun k => compaction_Run.f k l) p ∧ Ev (fun k => estoversref40_Run.f k l) p := by
  by_cases hk : chk l = 0
  · have hl := chk_len hk
    obtain ⟨p, hp, hP⟩ := run_l0 l hl l.length (l.length + 1) 0 0 0 0 (by omega) (by omega) (by omega) ⟨.inl ⟨rfl, rfl⟩, fun s' b' hr hq => by have := hr.1; have := hr.2.1; omega⟩ (by omega) (by omega) (fun j g0 g1 => by omega) (fun g => by omega) (by omega)
    obtain ⟨q, hq, hQ⟩ := refRun_l0 l hl l.length 0 0 0 (by omega) (by omega) ⟨.inl ⟨rfl, rfl⟩, fun s' b' hr hq => by have := hr.2.1; omega⟩
    obtain ⟨e1, e2⟩ := hP.uniq hQ
    have e : p = q := Prod.ext e1 e2
    subst e
    refine ⟨p, ?_, ?_⟩
    · unfold compaction_Run.f
      refine Ev.bind (check_ev l) (Ev.pos hk ?_)
      have hm : ∀ k, LeO (compaction_Run.l0 k 0 0 0 l (l.length : Int) 0) (compaction_Run.l0 (k + 1) 0 0 0 l (l.length : Int) 0) := fun k => compaction_Run.mono_l k _ _ _ _ _ _
      exact Ev.of hm hp
    · unfold estoversref40_Run.f
      exact Ev.bind (refCheck_ev l) (Ev.pos hk hq)
  · refine ⟨(0, 0), ?_, ?_⟩
    · unfold compaction_Run.f
      exact Ev.bind (check_ev l) (Ev.neg hk (Ev.now _))
    · unfold estoversref40_Run.f
      exact Ev.bind (refCheck_ev l) (Ev.neg hk (Ev.now _))

/-- The number of cells of a kind. -/
def cntN (v : Int) : List Int → Int
  | [] => 0
  | x :: l => (if x = v then 1 else 0) + cntN v l
theorem cntN_bd (v : Int) : ∀ l : List Int, 0 ≤ cntN v l ∧ cntN v l ≤ l.length
  | [] => ⟨by simp [cntN], by simp [cntN]⟩
  | x :: l => by have := cntN_bd v l; unfold cntN; simp; split <;> omega
theorem cntN_free : ∀ l : List Int, cntN 0 l = freeN l
  | [] => rfl
  | x :: l => by unfold cntN freeN; rw [cntN_free l]
theorem cntN_all : ∀ l : List Int, cntN 0 l = l.length ↔ l.all isFree = true
  | [] => by simp [cntN]
  | x :: l => by
    have := cntN_all l
    have b := cntN_bd 0 l
    unfold cntN
    simp only [List.all_cons, Bool.and_eq_true, List.length_cons, isFree, beq_iff_eq]
    rw [← this]
    by_cases c : x = 0
    · simp [c]; omega
    · simp [c]; omega
theorem cntN_none : ∀ l : List Int, cntN 2 l = 0 ↔ l.all isSoft = true
  | [] => by simp [cntN]
  | x :: l => by
    have := cntN_none l
    have b := cntN_bd 2 l
    unfold cntN
    simp only [List.all_cons, Bool.and_eq_true, isSoft, bne_iff_ne]
    rw [← this]
    by_cases c : x = 2
    · simp [c]; omega
    · simp [c]
theorem cntN_drop (v : Int) (l : List Int) (i n : Nat) (h : i < l.length) : cntN v ((l.drop i).take (n + 1)) = (if rd l i = v then 1 else 0) + cntN v ((l.drop (i + 1)).take n) := by
  rw [rd_nat l i h, List.drop_eq_getElem_cons h, List.take_succ_cons, cntN]
theorem count_l0 (l : List Int) (hl : l.length ≤ 4096) (v : Int) (e : Nat) (he : e ≤ l.length) : ∀ (d k i : Nat) (acc : Int), e - i = d → i ≤ e → d < k → 0 ≤ acc → acc ≤ i → estoversref40_Count.l0 k l e v acc i = some (acc + cntN v ((l.drop i).take d))
  | d, 0, i, _, _, _, h, _, _ => absurd h (by omega)
  | 0, k + 1, i, acc, h0, h1, _, _, _ => by
    simp only [estoversref40_Count.l0]
    rw [if_neg (by omega)]; simp [cntN]
  | d + 1, k + 1, i, acc, h0, h1, h2, h3, h4 => by
    simp only [estoversref40_Count.l0]
    rw [if_pos (by omega), if_pos (by omega), if_pos (by omega), wrap_nat i (by omega), wrap_id (acc + 1) (by omega) (by omega), cntN_drop v l i d (by omega)]
    by_cases c : rd l i = v
    · rw [if_pos c, if_pos c, count_l0 l hl v e he d k (i + 1) (acc + 1) (by omega) (by omega) (by omega) (by omega) (by omega)]
      congr 1; omega
    · rw [if_neg c, if_neg c, count_l0 l hl v e he d k (i + 1) acc (by omega) (by omega) (by omega) (by omega) (by omega)]
      congr 1; omega
theorem count_ev (l : List Int) (hl : l.length ≤ 4096) (v : Int) (a e : Nat) (ha : a ≤ e) (he : e ≤ l.length) : Ev (fun k => estoversref40_Count.f k l a e v) (cntN v ((l.drop a).take (e - a))) := by
  refine Ev.of (fun k => estoversref40_Count.mono l a e v k) (k := e - a + 1) ?_
  unfold estoversref40_Count.f
  have := count_l0 l hl v e he (e - a) (e - a + 1) a 0 rfl ha (by omega) (by omega) (by omega)
  rw [this]; simp
theorem refFits_l0 (l : List Int) (hl : l.length ≤ 4096) (s : Nat) (hs : 1 ≤ s) (hs' : s ≤ 16) : ∀ (f i : Nat), l.length + 1 - i ≤ f → i ≤ l.length → Ev (fun k => estoversref40_Fits.l0 k l s i) (blkAt isFree l s f i)
  | 0, i, h, h' => absurd h (by omega)
  | f + 1, i, h, h' => by
    refine Ev.step (fun k => by rw [estoversref40_Fits.l0]) ?_
    unfold blkAt
    rw [show wrap64 ((i : Int) + (s : Int)) = ((i + s : Nat) : Int) from by rw [wrap_id _ (by omega) (by omega)]; omega]
    by_cases c : i + s ≤ l.length
    · rw [if_pos c]
      refine Ev.pos (by omega) ?_
      refine Ev.bind (count_ev l hl 0 i (i + s) (by omega) c) ?_
      have e : (cntN 0 ((l.drop i).take (i + s - i)) = s) ↔ ((l.drop i).take s).all isFree = true := by
        rw [← cntN_all, show i + s - i = s from by omega, List.length_take, List.length_drop, show min s (l.length - i) = s from by omega]
      by_cases q : ((l.drop i).take s).all isFree = true
      · rw [if_pos q]; exact Ev.pos (e.2 q) (Ev.now _)
      · rw [if_neg q]; exact Ev.neg (fun h => q (e.1 h)) (refFits_l0 l hl s hs hs' f (i + s) (by omega) c)
    · rw [if_neg c]; exact Ev.neg (by omega) (Ev.now _)
theorem refPoss_l0 (l : List Int) (hl : l.length ≤ 4096) (s : Nat) (hs : 1 ≤ s) (hs' : s ≤ 16) : ∀ (f i : Nat), l.length + 1 - i ≤ f → i ≤ l.length → Ev (fun k => estoversref40_Possible.l0 k l s i) (blkAt isSoft l s f i)
  | 0, i, h, h' => absurd h (by omega)
  | f + 1, i, h, h' => by
    refine Ev.step (fun k => by rw [estoversref40_Possible.l0]) ?_
    unfold blkAt
    rw [show wrap64 ((i : Int) + (s : Int)) = ((i + s : Nat) : Int) from by rw [wrap_id _ (by omega) (by omega)]; omega]
    by_cases c : i + s ≤ l.length
    · rw [if_pos c]
      refine Ev.pos (by omega) ?_
      refine Ev.bind (count_ev l hl 2 i (i + s) (by omega) c) ?_
      have e : (cntN 2 ((l.drop i).take (i + s - i)) = 0) ↔ ((l.drop i).take s).all isSoft = true := by
        rw [← cntN_none, show i + s - i = s from by omega]
      by_cases q : ((l.drop i).take s).all isSoft = true
      · rw [if_pos q]; exact Ev.pos (e.2 q) (Ev.now _)
      · rw [if_neg q]; exact Ev.neg (fun h => q (e.1 h)) (refPoss_l0 l hl s hs hs' f (i + s) (by omega) c)
    · rw [if_neg c]; exact Ev.neg (by omega) (Ev.now _)
theorem shl_small (o : Int) (h0 : 0 ≤ o) (h1 : o ≤ 4) : shl .i64 1 o = ((2 ^ o.toNat : Nat) : Int) ∧ 1 ≤ 2 ^ o.toNat ∧ 2 ^ o.toNat ≤ 16 := by
  rcases (show o = 0 ∨ o = 1 ∨ o = 2 ∨ o = 3 ∨ o = 4 from by omega) with rfl | rfl | rfl | rfl | rfl <;> decide
theorem refFits_ev (l : List Int) (o : Int) : Ev (fun k => estoversref40_Fits.f k l o) (blockF isFree l o) := by
  unfold estoversref40_Fits.f blockF
  refine Ev.bind (refCheck_ev l) ?_
  by_cases hk : chk l = 0
  · refine Ev.pos hk ?_
    by_cases c0 : o < 0
    · rw [if_neg (by omega)]
      refine Ev.pos c0 (Ev.step (fun k => by rw [estoversref40_Fits.j0]) ?_)
      exact Ev.pos rfl (Ev.now _)
    · refine Ev.neg c0 (Ev.step (fun k => by rw [estoversref40_Fits.j0]) ?_)
      by_cases c1 : o > 4
      · rw [if_neg (by omega)]
        exact Ev.pos (by simpa using c1) (Ev.now _)
      · rw [if_pos ⟨hk, by omega, by omega⟩]
        refine Ev.neg (by simpa using c1) (Ev.pos (by omega) ?_)
        have hs := shl_small o (by omega) (by omega)
        rw [hs.1]
        exact refFits_l0 l (chk_len hk) _ hs.2.1 hs.2.2 (l.length + 1) 0 (by omega) (by omega)
  · rw [if_neg (fun h => hk h.1)]
    refine Ev.neg hk (Ev.step (fun k => by rw [estoversref40_Fits.j0]) ?_)
    exact Ev.pos rfl (Ev.now _)
theorem refPoss_ev (l : List Int) (o : Int) : Ev (fun k => estoversref40_Possible.f k l o) (possF l o) := by
  unfold estoversref40_Possible.f possF
  refine Ev.bind (refCheck_ev l) ?_
  by_cases hk : chk l = 0
  · refine Ev.pos hk ?_
    by_cases c0 : o < 0
    · have e : blockF isSoft l o = -1 := by unfold blockF; rw [if_neg (by omega)]
      rw [e, if_pos (by omega)]
      refine Ev.pos c0 (Ev.step (fun k => by rw [estoversref40_Possible.j0]) ?_)
      exact Ev.pos rfl (Ev.now _)
    · refine Ev.neg c0 ?_
      by_cases c1 : o > 4
      · have e : blockF isSoft l o = -1 := by unfold blockF; rw [if_neg (by omega)]
        rw [e, if_pos (by omega)]
        refine Ev.pos c1 (Ev.step (fun k => by rw [estoversref40_Possible.j0]) ?_)
        exact Ev.pos rfl (Ev.now _)
      · refine Ev.neg c1 ?_
        have hs := shl_small o (by omega) (by omega)
        have hc := count_ev l (chk_len hk) 0 0 l.length (by omega) (by omega)
        have ec : cntN 0 ((l.drop 0).take (l.length - 0)) = freeN l := by rw [cntN_free]; simp
        rw [ec] at hc
        refine Ev.bind hc (Ev.pos (by omega) (Ev.step (fun k => by rw [estoversref40_Possible.j0]) ?_))
        have e : blockF isSoft l o = blkAt isSoft l (2 ^ o.toNat) (l.length + 1) 0 := by unfold blockF; rw [if_pos ⟨hk, by omega, by omega⟩]
        rw [e, hs.1]
        by_cases c2 : freeN l < ((2 ^ o.toNat : Nat) : Int)
        · refine Ev.pos (by simpa using c2) ?_
          rw [show (if blkAt isSoft l (2 ^ o.toNat) (l.length + 1) 0 < 0 then (-1 : Int) else if freeN l < 2 ^ o.toNat then -1 else blkAt isSoft l (2 ^ o.toNat) (l.length + 1) 0) = -1 from by
            split
            · rfl
            · rw [if_pos (by simpa using c2)]]
          exact Ev.now _
        · refine Ev.neg (by simpa using c2) (Ev.pos (by omega) ?_)
          have := refPoss_l0 l (chk_len hk) _ hs.2.1 hs.2.2 (l.length + 1) 0 (by omega) (by omega)
          have e2 : (if blkAt isSoft l (2 ^ o.toNat) (l.length + 1) 0 < 0 then (-1 : Int) else if freeN l < 2 ^ o.toNat then -1 else blkAt isSoft l (2 ^ o.toNat) (l.length + 1) 0) = blkAt isSoft l (2 ^ o.toNat) (l.length + 1) 0 := by
            rw [if_neg (c := freeN l < 2 ^ o.toNat) (by simpa using c2)]
            rcases blkAt_bd isSoft l (2 ^ o.toNat) (l.length + 1) 0 with g | g
            · rw [g]; rfl
            · rw [if_neg (by omega)]
          rw [e2]; exact this
  · have e : blockF isSoft l o = -1 := by unfold blockF; rw [if_neg (fun h => hk h.1)]
    rw [e, if_pos (by omega)]
    refine Ev.neg hk (Ev.step (fun k => by rw [estoversref40_Possible.j0]) ?_)
    exact Ev.pos rfl (Ev.now _)

/-- A free cell outside the range. -/
def tgt (l : List Int) (s e j : Nat) : Bool := rd l j == 0 && !(decide (s ≤ j) && decide (j < e))
/-- The first such cell from j on, among f cells. -/
def seek (l : List Int) (s e : Nat) : Nat → Nat → Nat
  | 0, j => j
  | f + 1, j => if tgt l s e j = true then j else seek l s e f (j + 1)
/-- How many there are. -/
def nT (l : List Int) (s e : Nat) : Nat → Nat → Int
  | 0, j => 0
  | f + 1, j => (if tgt l s e j = true then 1 else 0) + nT l s e f (j + 1)
theorem nT_bd (l : List Int) (s e : Nat) : ∀ f j, 0 ≤ nT l s e f j ∧ nT l s e f j ≤ f
  | 0, j => ⟨by simp [nT], by simp [nT]⟩
  | f + 1, j => by have := nT_bd l s e f (j + 1); unfold nT; split <;> omega
theorem seek_bd (l : List Int) (s e : Nat) : ∀ f j, j ≤ seek l s e f j ∧ seek l s e f j ≤ j + f
  | 0, j => ⟨by simp [seek], by simp [seek]⟩
  | f + 1, j => by have := seek_bd l s e f (j + 1); unfold seek; split <;> omega
theorem seek_none (l : List Int) (s e : Nat) : ∀ f j, nT l s e f j < 1 → seek l s e f j = j + f
  | 0, j, _ => rfl
  | f + 1, j, h => by
    unfold nT at h; unfold seek
    have := nT_bd l s e f (j + 1)
    split at h
    · omega
    · rw [if_neg (by assumption), seek_none l s e f (j + 1) (by omega)]; omega
theorem seek_some (l : List Int) (s e : Nat) : ∀ f j, 1 ≤ nT l s e f j → seek l s e f j < j + f ∧ nT l s e (j + f - (seek l s e f j + 1)) (seek l s e f j + 1) = nT l s e f j - 1
  | 0, j, h => absurd h (by simp [nT])
  | f + 1, j, h => by
    have eN : nT l s e (f + 1) j = (if tgt l s e j = true then 1 else 0) + nT l s e f (j + 1) := rfl
    have eS : seek l s e (f + 1) j = if tgt l s e j = true then j else seek l s e f (j + 1) := rfl
    rw [eN] at h ⊢; rw [eS]
    by_cases c : tgt l s e j = true
    · rw [if_pos c] at h
      rw [if_pos c, if_pos c]
      refine ⟨by omega, ?_⟩
      rw [show j + (f + 1) - (j + 1) = f from by omega]; omega
    · rw [if_neg c] at h
      rw [if_neg c, if_neg c]
      have ih := seek_some l s e f (j + 1) (by omega)
      rw [show j + (f + 1) = j + 1 + f from by omega]
      refine ⟨ih.1, ?_⟩
      rw [ih.2]; omega
theorem nT_add (l : List Int) (s e g : Nat) : ∀ f j, nT l s e (f + g) j = nT l s e f j + nT l s e g (j + f)
  | 0, j => by simp [nT]
  | f + 1, j => by
    rw [show f + 1 + g = f + g + 1 from by omega, nT, nT, nT_add l s e g f (j + 1), show j + 1 + f = j + (f + 1) from by omega]; omega
theorem nT_in (l : List Int) (s e : Nat) : ∀ f j, s ≤ j → j + f ≤ e → nT l s e f j = 0
  | 0, j, _, _ => rfl
  | f + 1, j, h1, h2 => by
    rw [nT, nT_in l s e f (j + 1) (by omega) (by omega), if_neg]; · rfl
    have e1 : decide (s ≤ j) = true := by simpa using h1
    have e2 : decide (j < e) = true := by simp; omega
    unfold tgt; rw [e1, e2]; simp
theorem nT_out (l : List Int) (s e : Nat) : ∀ f j, (j + f ≤ s ∨ e ≤ j) → j + f ≤ l.length → nT l s e f j = cntN 0 ((l.drop j).take f)
  | 0, j, _, _ => by simp [nT, cntN]
  | f + 1, j, h1, h2 => by
    rw [nT, nT_out l s e f (j + 1) (by omega) (by omega), cntN_drop 0 l j f (by omega)]
    have e1 : (decide (s ≤ j) && decide (j < e)) = false := by
      rcases h1 with h | h
      · rw [decide_eq_false (show ¬ s ≤ j from by omega)]; rfl
      · rw [decide_eq_false (show ¬ j < e from by omega)]; simp
    unfold tgt; rw [e1]
    by_cases c : rd l j = 0
    · simp [c]
    · simp [c]
/-- What the loop over the range makes: d cells from i on, targets from t on. -/
def fill (l : List Int) (s e : Nat) : Nat → Nat → Nat → List S26 → List S26 × Int
  | 0, i, t, out => (out, 0)
  | d + 1, i, t, out => if rd l i = 1 then (if seek l s e (l.length - t) t < l.length then fill l s e d (i + 1) (seek l s e (l.length - t) t + 1) (out ++ [⟨i, (seek l s e (l.length - t) t : Nat)⟩]) else ([], 8)) else fill l s e d (i + 1) t out
theorem fill_no (l : List Int) (s e : Nat) : ∀ d i t out, i + d ≤ l.length → t ≤ l.length → nT l s e (l.length - t) t < cntN 1 ((l.drop i).take d) → fill l s e d i t out = ([], 8)
  | 0, i, t, out, _, ht, h => by have := nT_bd l s e (l.length - t) t; simp [cntN] at h; omega
  | d + 1, i, t, out, hi, ht, h => by
    rw [cntN_drop 1 l i d (by omega)] at h
    unfold fill
    by_cases c : rd l i = 1
    · rw [if_pos c] at h ⊢
      by_cases q : 1 ≤ nT l s e (l.length - t) t
      · have hs := seek_some l s e _ _ q
        rw [if_pos (by omega)]
        refine fill_no l s e d (i + 1) _ _ (by omega) (by omega) ?_
        rw [show t + (l.length - t) = l.length from by omega] at hs
        rw [hs.2]; omega
      · rw [if_neg (by rw [seek_none l s e _ _ (by omega)]; omega)]
    · rw [if_neg c] at h ⊢
      exact fill_no l s e d (i + 1) t out (by omega) ht (by omega)
theorem cl1 (l : List Int) (hl : l.length ≤ 4096) (s e : Nat) (out : List S26) (ho : out.length ≤ 100000) (i : Int) (r : List S26 × Int) : ∀ f t : Nat, l.length - t = f → t ≤ l.length →
    (seek l s e f t < l.length → Ev (fun k => compaction_Clear.l0 k l s e (out ++ [⟨i, (seek l s e f t : Nat)⟩]) (seek l s e f t : Nat) (wrap64 (i + 1))) r) → (seek l s e f t ≥ l.length → r = ([], 8)) →
    Ev (fun k => compaction_Clear.l1 k l s e out t i) r
  | 0, t, h0, h1, _, hn => by
    refine Ev.step (fun k => by rw [compaction_Clear.l1]) ?_
    rw [hn (by simp [seek]; omega)]
    exact Ev.neg (by omega) (Ev.pos (by omega) (Ev.now _))
  | f + 1, t, h0, h1, hy, hn => by
    refine Ev.step (fun k => by rw [compaction_Clear.l1]) ?_
    unfold seek at hy hn
    have hw := wrap_nat t (by omega)
    have skip : ¬ tgt l s e t = true → Ev (fun k => compaction_Clear.l1 k l s e out (wrap64 ((t : Int) + 1)) i) r := by
      intro c
      rw [if_neg c] at hy hn
      rw [hw]
      exact cl1 l hl s e out ho i r f (t + 1) (by omega) (by omega) hy hn
    have done : tgt l s e t = true → Ev (fun k => if (t : Int) ≥ (l.length : Int) then (some (([] : List (S26)), 8)) else (if out.length < 8796093022208 then (compaction_Clear.l0 k l s e (out ++ [(⟨i, t⟩ : S26)]) t (wrap64 (i + 1))) else (none))) r := by
      intro c
      rw [if_pos c] at hy
      exact Ev.neg (by omega) (Ev.pos (by omega) (hy (by omega)))
    refine Ev.pos (by omega) (Ev.pos (by omega) ?_)
    by_cases c0 : rd l t = 0
    · refine Ev.pos c0 ?_
      by_cases c1 : (t : Int) ≥ (s : Int)
      · refine Ev.pos c1 ?_
        by_cases c2 : (t : Int) < (e : Int)
        · refine Ev.pos c2 (skip ?_)
          unfold tgt; rw [decide_eq_true (show s ≤ t from by omega), decide_eq_true (show t < e from by omega)]; simp
        · refine Ev.neg c2 (done ?_)
          unfold tgt; rw [decide_eq_false (show ¬ t < e from by omega)]; simp [c0]
      · refine Ev.neg c1 (done ?_)
        unfold tgt; rw [decide_eq_false (show ¬ s ≤ t from by omega)]; simp [c0]
    · refine Ev.neg c0 (skip ?_)
      unfold tgt; simp [c0]
theorem cl0 (l : List Int) (hl : l.length ≤ 4096) (s e : Nat) (he : e ≤ l.length) : ∀ (d i t : Nat) (out : List S26), e - i = d → i ≤ e → t ≤ l.length → out.length ≤ i → Ev (fun k => compaction_Clear.l0 k l s e out ((t : Int) - 1) i) (fill l s e d i t out)
  | 0, i, t, out, h0, h1, h2, h3 => by
    refine Ev.step (fun k => by rw [compaction_Clear.l0]) ?_
    exact Ev.neg (by omega) (Ev.now _)
  | d + 1, i, t, out, h0, h1, h2, h3 => by
    refine Ev.step (fun k => by rw [compaction_Clear.l0]) ?_
    refine Ev.pos (by omega) (Ev.pos (by omega) (Ev.pos (by omega) ?_))
    unfold fill
    by_cases c : rd l i = 1
    · rw [if_pos c]
      refine Ev.pos c ?_
      rw [show wrap64 ((t : Int) - 1 + 1) = (t : Int) from by rw [wrap_id _ (by omega) (by omega)]; omega]
      have hb := seek_bd l s e (l.length - t) t
      refine cl1 l hl s e out (by omega) i _ (l.length - t) t rfl h2 (fun q => ?_) (fun q => if_neg (by omega))
      rw [if_pos q, wrap_nat i (by omega)]
      have := cl0 l hl s e he d (i + 1) (seek l s e (l.length - t) t + 1) (out ++ [⟨i, (seek l s e (l.length - t) t : Nat)⟩]) (by omega) (by omega) (by omega) (by simp; omega)
      rwa [show (((seek l s e (l.length - t) t + 1 : Nat) : Int) - 1) = ((seek l s e (l.length - t) t : Nat) : Int) from by omega] at this
    · rw [if_neg c]
      refine Ev.neg c ?_
      rw [wrap_nat i (by omega)]
      exact cl0 l hl s e he d (i + 1) t out (by omega) (by omega) h2 (by omega)
theorem rl1 (l : List Int) (hl : l.length ≤ 4096) (s e : Nat) (out : List S26) (ho : out.length ≤ 100000) (i : Int) (r : List S26 × Int) : ∀ f t : Nat, l.length - t = f → t ≤ l.length →
    seek l s e f t < l.length → Ev (fun k => estoversref40_Clear.l0 k l s e (out ++ [⟨i, (seek l s e f t : Nat)⟩]) ((seek l s e f t + 1 : Nat) : Int) (wrap64 (i + 1))) r →
    Ev (fun k => estoversref40_Clear.l1 k l s e out t i) r
  | 0, t, h0, h1, h2, _ => by simp [seek] at h2; omega
  | f + 1, t, h0, h1, h2, hy => by
    refine Ev.step (fun k => by rw [estoversref40_Clear.l1]) ?_
    unfold seek at hy h2
    have hw := wrap_nat t (by omega)
    have skip : ¬ tgt l s e t = true → Ev (fun k => estoversref40_Clear.l1 k l s e out (wrap64 ((t : Int) + 1)) i) r := by
      intro c
      rw [if_neg c] at hy h2
      rw [hw]
      exact rl1 l hl s e out ho i r f (t + 1) (by omega) (by omega) h2 hy
    have done : tgt l s e t = true → Ev (fun k => if out.length < 8796093022208 then (estoversref40_Clear.l0 k l s e (out ++ [(⟨i, t⟩ : S26)]) (wrap64 ((t : Int) + 1)) (wrap64 (i + 1))) else (none)) r := by
      intro c
      rw [if_pos c] at hy
      rw [hw]
      exact Ev.pos (by omega) hy
    refine Ev.pos (by omega) (Ev.pos (by omega) ?_)
    by_cases c0 : rd l t = 0
    · refine Ev.pos c0 ?_
      by_cases c1 : (t : Int) ≥ (s : Int)
      · refine Ev.pos c1 ?_
        by_cases c2 : (t : Int) < (e : Int)
        · refine Ev.pos c2 (skip ?_)
          unfold tgt; rw [decide_eq_true (show s ≤ t from by omega), decide_eq_true (show t < e from by omega)]; simp
        · refine Ev.neg c2 (done ?_)
          unfold tgt; rw [decide_eq_false (show ¬ t < e from by omega)]; simp [c0]
      · refine Ev.neg c1 (done ?_)
        unfold tgt; rw [decide_eq_false (show ¬ s ≤ t from by omega)]; simp [c0]
    · refine Ev.neg c0 (skip ?_)
      unfold tgt; simp [c0]
theorem rl0 (l : List Int) (hl : l.length ≤ 4096) (s e : Nat) (he : e ≤ l.length) : ∀ (d i t : Nat) (out : List S26), e - i = d → i ≤ e → t ≤ l.length → out.length ≤ i → cntN 1 ((l.drop i).take d) ≤ nT l s e (l.length - t) t →
    Ev (fun k => estoversref40_Clear.l0 k l s e out t i) (fill l s e d i t out)
  | 0, i, t, out, h0, h1, h2, h3, _ => by
    refine Ev.step (fun k => by rw [estoversref40_Clear.l0]) ?_
    exact Ev.neg (by omega) (Ev.now _)
  | d + 1, i, t, out, h0, h1, h2, h3, h4 => by
    rw [cntN_drop 1 l i d (by omega)] at h4
    have hc := cntN_bd 1 ((l.drop (i + 1)).take d)
    refine Ev.step (fun k => by rw [estoversref40_Clear.l0]) ?_
    refine Ev.pos (by omega) (Ev.pos (by omega) (Ev.pos (by omega) ?_))
    unfold fill
    by_cases c : rd l i = 1
    · rw [if_pos c] at h4
      rw [if_pos c]
      refine Ev.pos c ?_
      have hs := seek_some l s e (l.length - t) t (by omega)
      rw [show t + (l.length - t) = l.length from by omega] at hs
      rw [if_pos hs.1]
      refine rl1 l hl s e out (by omega) i _ (l.length - t) t rfl h2 hs.1 ?_
      rw [wrap_nat i (by omega)]
      exact rl0 l hl s e he d (i + 1) (seek l s e (l.length - t) t + 1) _ (by omega) (by omega) (by omega) (by simp; omega) (by rw [hs.2]; omega)
    · rw [if_neg c] at h4
      rw [if_neg c]
      refine Ev.neg c ?_
      rw [wrap_nat i (by omega)]
      exact rl0 l hl s e he d (i + 1) t out (by omega) (by omega) h2 (by omega) (by omega)
theorem index_l0 (l : List Int) (hl : l.length ≤ 4096) (v : Int) : ∀ (d k i : Nat), l.length - i = d → i ≤ l.length → d < k → ∃ x : Int, slices_Index_int_int.l0 k l v (l.length : Int) i = some x ∧ (x ≥ 0 ↔ cntN v (l.drop i) > 0)
  | d, 0, i, _, _, h => absurd h (by omega)
  | 0, k + 1, i, h0, h1, _ => by
    simp only [slices_Index_int_int.l0]
    rw [if_neg (by omega), List.drop_eq_nil_of_le (by omega)]
    exact ⟨-1, rfl, by simp [cntN]⟩
  | d + 1, k + 1, i, h0, h1, h2 => by
    simp only [slices_Index_int_int.l0]
    rw [if_pos (by omega), if_pos (by omega), if_pos (by omega), wrap_nat i (by omega)]
    have e : cntN v (l.drop i) = (if rd l i = v then 1 else 0) + cntN v (l.drop (i + 1)) := by
      rw [rd_nat l i (by omega), List.drop_eq_getElem_cons (show i < l.length from by omega), cntN]
    rw [e]
    have hb := cntN_bd v (l.drop (i + 1))
    by_cases c : v = rd l i
    · rw [if_pos c, if_pos c.symm]; exact ⟨i, rfl, by omega⟩
    · rw [if_neg c, if_neg (fun h => c h.symm)]
      obtain ⟨x, hx, hx2⟩ := index_l0 l hl v d k (i + 1) (by omega) (by omega) (by omega)
      exact ⟨x, hx, by rw [hx2]; omega⟩
theorem contains_ev (l : List Int) (hl : l.length ≤ 4096) (v : Int) : Ev (fun k => slices_Contains_int_int.f k l v) (decide (cntN v l > 0)) := by
  obtain ⟨x, hx, hx2⟩ := index_l0 l hl v l.length (l.length + 1) 0 (by omega) (by omega) (by omega)
  have h1 : Ev (fun k => slices_Index_int_int.f k l v) x := Ev.of (fun k => slices_Index_int_int.mono l v k) (k := l.length + 1) (by unfold slices_Index_int_int.f; exact hx)
  unfold slices_Contains_int_int.f
  refine Ev.bind h1 ?_
  rw [show decide (cntN v l > 0) = decide (x ≥ 0) from by rw [decide_eq_decide, hx2]; simp]
  exact Ev.now _
def clearF (l : List Int) (a b : Int) : List S26 × Int :=
  if chk l ≠ 0 then ([], chk l) else if a < 0 ∨ b < 0 ∨ a > l.length ∨ b > l.length - a then ([], 2) else if cntN 2 ((l.drop a.toNat).take b.toNat) > 0 then ([], 11) else fill l a.toNat (a.toNat + b.toNat) b.toNat a.toNat 0 []
theorem clearF_bad (l : List Int) (a b : Int) (h : chk l ≠ 0) : clearF l a b = ([], chk l) := by unfold clearF; rw [if_pos h]
theorem clearF_out (l : List Int) (a b : Int) (h : chk l = 0) (h2 : a < 0 ∨ b < 0 ∨ a > l.length ∨ b > l.length - a) : clearF l a b = ([], 2) := by unfold clearF; rw [if_neg (by simp [h]), if_pos h2]
theorem clearF_in (l : List Int) (a b : Int) (h : chk l = 0) (h2 : ¬ (a < 0 ∨ b < 0 ∨ a > l.length ∨ b > l.length - a)) : clearF l a b = if cntN 2 ((l.drop a.toNat).take b.toNat) > 0 then ([], 11) else fill l a.toNat (a.toNat + b.toNat) b.toNat a.toNat 0 [] := by unfold clearF; rw [if_neg (by simp [h]), if_neg h2]
theorem clear_ev (l : List Int) (a b : Int) : Ev (fun k => compaction_Clear.f k l a b) (clearF l a b) := by
  unfold compaction_Clear.f
  refine Ev.bind (check_ev l) ?_
  by_cases h : chk l = 0
  · have hl := chk_len h
    refine Ev.pos h ?_
    have jT : ∀ q : Bool, q = true → (a < 0 ∨ b < 0 ∨ a > l.length ∨ b > l.length - a) → Ev (fun k => compaction_Clear.j0 k l a b q) (clearF l a b) := by
      intro q hq h2
      rw [clearF_out l a b h h2]
      exact Ev.step (fun k => by rw [compaction_Clear.j0]) (Ev.pos hq (Ev.now _))
    by_cases c0 : a < 0
    · exact Ev.pos c0 (jT _ rfl (by omega))
    · refine Ev.neg c0 ?_
      by_cases c1 : b < 0
      · exact Ev.pos c1 (jT _ rfl (by omega))
      · refine Ev.neg c1 ?_
        by_cases c2 : a > (l.length : Int)
        · exact Ev.pos c2 (jT _ rfl (by omega))
        · refine Ev.neg c2 ?_
          rw [wrap_id ((l.length : Int) - a) (by omega) (by omega)]
          by_cases c3 : b > (l.length : Int) - a
          · exact jT _ (by simpa using c3) (by omega)
          · refine Ev.step (fun k => by rw [compaction_Clear.j0]) (Ev.neg (by simpa using c3) ?_)
            rw [clearF_in l a b h (by omega), wrap_id (a + b) (by omega) (by omega)]
            refine Ev.pos (by omega) (Ev.pos (by omega) (Ev.pos (by omega) ?_))
            have e1 : (l.take (a + b : Int).toNat).drop a.toNat = (l.drop a.toNat).take b.toNat := by
              rw [List.drop_take, show (a + b).toNat - a.toNat = b.toNat from by omega]
            rw [e1]
            refine Ev.bind (contains_ev _ (by rw [List.length_take, List.length_drop]; omega) 2) ?_
            by_cases c4 : cntN 2 ((l.drop a.toNat).take b.toNat) > 0
            · rw [if_pos c4]; exact Ev.pos (by simpa using c4) (Ev.now _)
            · rw [if_neg c4]
              refine Ev.neg (by simpa using c4) ?_
              have := cl0 l hl a.toNat (a.toNat + b.toNat) (by omega) b.toNat a.toNat 0 [] (by omega) (by omega) (by omega) (by simp)
              have ea : ((a.toNat : Nat) : Int) = a := by omega
              have eb : ((a.toNat + b.toNat : Nat) : Int) = a + b := by omega
              rw [ea, eb] at this
              exact this
  · rw [clearF_bad l a b h]; exact Ev.neg h (Ev.now _)
theorem refClear_ev (l : List Int) (a b : Int) : Ev (fun k => estoversref40_Clear.f k l a b) (clearF l a b) := by
  unfold estoversref40_Clear.f
  refine Ev.bind (refCheck_ev l) ?_
  by_cases h : chk l = 0
  · have hl := chk_len h
    refine Ev.pos h ?_
    have jT : ∀ q : Bool, q = true → (a < 0 ∨ b < 0 ∨ a > l.length ∨ b > l.length - a) → Ev (fun k => estoversref40_Clear.j0 k l a b q) (clearF l a b) := by
      intro q hq h2
      rw [clearF_out l a b h h2]
      exact Ev.step (fun k => by rw [estoversref40_Clear.j0]) (Ev.pos hq (Ev.now _))
    by_cases c0 : a < 0
    · exact Ev.pos c0 (jT _ rfl (by omega))
    · refine Ev.neg c0 ?_
      by_cases c1 : b < 0
      · exact Ev.pos c1 (jT _ rfl (by omega))
      · refine Ev.neg c1 ?_
        by_cases c2 : a > (l.length : Int)
        · exact Ev.pos c2 (jT _ rfl (by omega))
        · refine Ev.neg c2 ?_
          rw [wrap_id ((l.length : Int) - a) (by omega) (by omega)]
          by_cases c3 : b > (l.length : Int) - a
          · exact jT _ (by simpa using c3) (by omega)
          · refine Ev.step (fun k => by rw [estoversref40_Clear.j0]) (Ev.neg (by simpa using c3) ?_)
            rw [clearF_in l a b h (by omega), wrap_id (a + b) (by omega) (by omega)]
            obtain ⟨s, rfl⟩ : ∃ s : Nat, a = s := ⟨a.toNat, by omega⟩
            obtain ⟨n, rfl⟩ : ∃ n : Nat, b = n := ⟨b.toNat, by omega⟩
            rw [show ((s : Int) + (n : Int)) = ((s + n : Nat) : Int) from by omega, Int.toNat_natCast, Int.toNat_natCast]
            have k1 := count_ev l hl 2 s (s + n) (by omega) (by omega)
            have k2 := count_ev l hl 0 0 s (by omega) (by omega)
            have k3 := count_ev l hl 0 (s + n) l.length (by omega) (by omega)
            have k4 := count_ev l hl 1 s (s + n) (by omega) (by omega)
            rw [show s + n - s = n from by omega] at k1 k4
            rw [Nat.sub_zero] at k2
            have hT : nT l s (s + n) l.length 0 = cntN 0 ((l.drop 0).take s) + cntN 0 ((l.drop (s + n)).take (l.length - (s + n))) := by
              have e1 := nT_add l s (s + n) (n + (l.length - (s + n))) s 0
              have e2 := nT_add l s (s + n) (l.length - (s + n)) n (0 + s)
              rw [show s + (n + (l.length - (s + n))) = l.length from by omega] at e1
              rw [e1, e2, nT_in l s (s + n) n (0 + s) (by omega) (by omega), nT_out l s (s + n) s 0 (by omega) (by omega), nT_out l s (s + n) (l.length - (s + n)) (0 + s + n) (by omega) (by omega), show 0 + s + n = s + n from by omega]
              omega
            have b1 := cntN_bd 0 ((l.drop 0).take s)
            have b2 := cntN_bd 0 ((l.drop (s + n)).take (l.length - (s + n)))
            rw [List.length_take] at b1 b2
            refine Ev.bind k1 ?_
            by_cases c4 : cntN 2 ((l.drop s).take n) > 0
            · rw [if_pos c4]; exact Ev.pos c4 (Ev.now _)
            · rw [if_neg c4]
              refine Ev.neg c4 (Ev.bind k2 (Ev.bind k3 (Ev.bind k4 ?_)))
              rw [wrap_id _ (by omega) (by omega), ← hT]
              by_cases c5 : nT l s (s + n) l.length 0 < cntN 1 ((l.drop s).take n)
              · rw [fill_no l s (s + n) n s 0 [] (by omega) (by omega) (by rw [Nat.sub_zero]; exact c5)]
                exact Ev.pos c5 (Ev.now _)
              · refine Ev.neg c5 ?_
                exact rl0 l hl s (s + n) (by omega) n s 0 [] (by omega) (by omega) (by omega) (by simp) (by rw [Nat.sub_zero]; omega)
  · rw [clearF_bad l a b h]; exact Ev.neg h (Ev.now _)
theorem fill_len (l : List Int) (s e : Nat) : ∀ d i t out, (fill l s e d i t out).1.length ≤ out.length + d
  | 0, i, t, out => by simp [fill]
  | d + 1, i, t, out => by
    unfold fill
    split
    · split
      · have := fill_len l s e d (i + 1) (seek l s e (l.length - t) t + 1) (out ++ [⟨i, (seek l s e (l.length - t) t : Nat)⟩])
        simp at this; omega
      · simp
    · have := fill_len l s e d (i + 1) t out; omega
theorem clearF_len (l : List Int) (a b : Int) : (clearF l a b).1.length ≤ l.length := by
  unfold clearF
  split
  · simp
  · split
    · simp
    · split
      · simp
      · have := fill_len l a.toNat (a.toNat + b.toNat) b.toNat a.toNat 0 []
        simp at this; omega

/-- The cells that are not pinned. -/
def npN : List Int → Int
  | [] => 0
  | x :: l => (if x = 2 then 0 else 1) + npN l
/-- Movable cells outside of the lowest n that are not pinned; r of these came before. -/
def cT (n : Int) : Int → List Int → Int
  | _, [] => 0
  | r, x :: l => if x = 2 then cT n r l else (if r + 1 > n ∧ x = 1 then 1 else 0) + cT n (r + 1) l
theorem rd_cons0 (x : Int) (l : List Int) : rd (x :: l) ((0 : Nat) : Int) = x := rfl
theorem rd_cons (x : Int) (l : List Int) (i : Nat) : rd (x :: l) ((i + 1 : Nat) : Int) = rd l i := by unfold rd; simp
theorem cT_set (n y : Int) (hy : y ≠ 2) : ∀ (l : List Int) (i : Nat) (r : Int), i < l.length → rd l i ≠ 2 →
    cT n r (l.set i y) = cT n r l + (if r + npN (l.take (i + 1)) > n then (if y = 1 then 1 else 0) - (if rd l i = 1 then 1 else 0) else 0)
  | [], i, r, h, _ => by simp at h
  | x :: l, 0, r, h, h2 => by
    rw [rd_cons0] at h2 ⊢
    simp only [List.set_cons_zero, List.take_succ_cons, List.take_zero, npN, cT]
    rw [if_neg hy, if_neg h2, if_neg h2]
    by_cases c : r + 1 > n
    · by_cases c1 : y = 1
      · by_cases c2 : x = 1
        · simp [c, c1, c2]
        · simp [c, c1, c2]; omega
      · by_cases c2 : x = 1
        · simp [c, c1, c2]; omega
        · simp [c, c1, c2]
    · simp [c]
  | x :: l, i + 1, r, h, h2 => by
    rw [rd_cons] at h2 ⊢
    simp only [List.set_cons_succ, List.take_succ_cons, npN, cT]
    by_cases c : x = 2
    · rw [if_pos c, if_pos c, if_pos c, cT_set n y hy l i r (by simpa using h) h2]; simp
    · rw [if_neg c, if_neg c, if_neg c, cT_set n y hy l i (r + 1) (by simpa using h) h2, show r + (1 + npN (l.take (i + 1))) = r + 1 + npN (l.take (i + 1)) from by omega]; omega
theorem npN_set (y : Int) (hy : y ≠ 2) : ∀ (l : List Int) (i k : Nat), i < l.length → rd l i ≠ 2 → npN ((l.set i y).take k) = npN (l.take k)
  | [], i, k, h, _ => by simp at h
  | x :: l, i, 0, h, h2 => by simp
  | x :: l, 0, k + 1, h, h2 => by
    rw [rd_cons0] at h2
    simp only [List.set_cons_zero, List.take_succ_cons, npN]
    rw [if_neg hy, if_neg h2]
  | x :: l, i + 1, k + 1, h, h2 => by
    rw [rd_cons] at h2
    simp only [List.set_cons_succ, List.take_succ_cons, npN]
    rw [npN_set y hy l i k (by simpa using h) h2]
theorem npN_sum : ∀ l : List Int, (∀ x ∈ l, bad x = false) → npN l = cntN 0 l + cntN 1 l
  | [], _ => rfl
  | x :: l, h => by
    have ih := npN_sum l (fun x hx => h x (by simp [hx]))
    have hx : bad x = false := h x (by simp)
    have : x = 0 ∨ x = 1 ∨ x = 2 := by unfold bad at hx; simp at hx; by_cases a : x = 0; exact .inl a; by_cases b : x = 1; exact .inr (.inl b); by_cases c : x = 2; exact .inr (.inr c); exact absurd (hx a b) c
    unfold npN cntN
    rw [ih]
    rcases this with rfl | rfl | rfl <;> simp <;> omega
theorem cntN_app (v : Int) : ∀ a b : List Int, cntN v (a ++ b) = cntN v a + cntN v b
  | [], b => by simp [cntN]
  | x :: a, b => by simp only [List.cons_append, cntN]; rw [cntN_app v a b]; omega
theorem cntN_split (v : Int) (l : List Int) (k : Nat) : cntN v l = cntN v (l.take k) + cntN v (l.drop k) := by
  rw [← cntN_app, List.take_append_drop]
theorem cntN_take (v : Int) (l : List Int) (k : Nat) (h : k < l.length) : cntN v (l.take (k + 1)) = cntN v (l.take k) + (if rd l k = v then 1 else 0) := by
  rw [rd_nat l k h, List.take_succ_eq_append_getElem h, cntN_app]; simp [cntN]
theorem cntN_mono (v : Int) (l : List Int) (a b : Nat) (h : a ≤ b) : cntN v (l.take a) ≤ cntN v (l.take b) := by
  rw [cntN_split v (l.take b) a, List.take_take, Nat.min_eq_left h]
  have := cntN_bd v ((l.take b).drop a); omega
theorem cntN_le (v : Int) (l : List Int) (a : Nat) : cntN v (l.take a) ≤ cntN v l := by
  rw [cntN_split v l a]; have := cntN_bd v (l.drop a); omega
theorem cntN_no (v : Int) : ∀ l : List Int, (∀ x ∈ l, x ≠ v) → cntN v l = 0
  | [], _ => rfl
  | x :: l, h => by unfold cntN; rw [if_neg (h x (by simp)), cntN_no v l (fun x hx => h x (by simp [hx]))]; rfl
theorem cntN_take_no (v : Int) (l : List Int) (k : Nat) (h : ∀ j : Int, 0 ≤ j → j < k → j < l.length → rd l j ≠ v) : cntN v (l.take k) = 0 := by
  refine cntN_no v _ (fun x hx e => ?_)
  obtain ⟨i, hi, rfl⟩ := List.mem_iff_getElem.1 hx
  rw [List.length_take] at hi
  rw [List.getElem_take] at e
  refine h i (by omega) (by omega) (by omega) ?_
  rw [rd_nat l i (by omega)]; exact e
theorem cntN_drop_no (v : Int) (l : List Int) (k : Nat) (h : ∀ j : Int, k ≤ j → j < l.length → rd l j ≠ v) : cntN v (l.drop k) = 0 := by
  refine cntN_no v _ (fun x hx e => ?_)
  obtain ⟨i, hi, rfl⟩ := List.mem_iff_getElem.1 hx
  rw [List.length_drop] at hi
  rw [List.getElem_drop] at e
  refine h (k + i : Nat) (by omega) (by omega) ?_
  rw [rd_nat l (k + i) (by omega)]; exact e
theorem cntN_set (v y : Int) : ∀ (l : List Int) (i : Nat), i < l.length → cntN v (l.set i y) = cntN v l - (if rd l i = v then 1 else 0) + (if y = v then 1 else 0)
  | [], i, h => by simp at h
  | x :: l, 0, h => by
    rw [rd_cons0]; simp only [List.set_cons_zero, cntN]; omega
  | x :: l, i + 1, h => by
    rw [rd_cons]; simp only [List.set_cons_succ, cntN]; rw [cntN_set v y l i (by simpa using h)]; omega
theorem cntN_mv (v : Int) (l : List Int) (f t : Int) (hf : 0 ≤ f) (hf' : f < l.length) (ht : 0 ≤ t) (ht' : t < l.length) (h1 : rd l f = 1) (h0 : rd l t = 0) : cntN v (mv l f t) = cntN v l := by
  have hne : t ≠ f := by intro e; rw [e, h1] at h0; exact absurd h0 (by decide)
  unfold mv
  have e1 := cntN_set v 1 (l.set f.toNat 0) t.toNat (by simp; omega)
  have e2 := cntN_set v 0 l f.toNat (by omega)
  have e3 := rd_set l f t 0 hf ht ht'
  rw [if_neg hne] at e3
  rw [show ((t.toNat : Nat) : Int) = t from by omega, e3, h0] at e1
  rw [show ((f.toNat : Nat) : Int) = f from by omega, h1] at e2
  rw [e1, e2]; omega
theorem go_step (cur : List Int) (f t : Int) (ms : List S26) (hf : 0 ≤ f) (hf' : f < cur.length) (ht : 0 ≤ t) (ht' : t < cur.length) (h1 : rd cur f = 1) (h0 : rd cur t = 0) : go cur (⟨f, t⟩ :: ms) = go (mv cur f t) ms := by
  conv => lhs; unfold go
  have e1 : inr cur.length f = true := by unfold inr; rw [decide_eq_true hf, decide_eq_true hf']; rfl
  have e2 : inr cur.length t = true := by unfold inr; rw [decide_eq_true ht, decide_eq_true ht']; rfl
  simp only
  rw [e1, e2, if_pos (by rfl), if_pos ⟨h1, h0⟩]; rfl
theorem cT_mv (n : Int) (l : List Int) (f t : Int) (hf : 0 ≤ f) (hf' : f < l.length) (ht : 0 ≤ t) (ht' : t < l.length) (h1 : rd l f = 1) (h0 : rd l t = 0) (hF : npN (l.take (f.toNat + 1)) > n) (hT : npN (l.take (t.toNat + 1)) ≤ n) : cT n 0 (mv l f t) = cT n 0 l - 1 := by
  have hne : t ≠ f := by intro e; rw [e, h1] at h0; exact absurd h0 (by decide)
  unfold mv
  have e3 := rd_set l f t 0 hf ht ht'
  rw [if_neg hne] at e3
  have et : ((t.toNat : Nat) : Int) = t := by omega
  have ef : ((f.toNat : Nat) : Int) = f := by omega
  have e1 := cT_set n 1 (by decide) (l.set f.toNat 0) t.toNat 0 (by simp; omega) (by rw [et, e3, h0]; decide)
  have e2 := cT_set n 0 (by decide) l f.toNat 0 (by omega) (by rw [ef, h1]; decide)
  rw [npN_set 0 (by decide) l f.toNat (t.toNat + 1) (by omega) (by rw [ef, h1]; decide), if_neg (by omega)] at e1
  rw [if_pos (by omega), ef, h1] at e2
  rw [e1, e2]; simp; omega
theorem cT_zero (n : Int) : ∀ (l : List Int) (r : Int), (∀ i : Nat, i < l.length → rd l i = 1 → r + npN (l.take (i + 1)) ≤ n) → cT n r l = 0
  | [], r, h => rfl
  | x :: l, r, h => by
    unfold cT
    by_cases c : x = 2
    · rw [if_pos c]
      refine cT_zero n l r (fun i hi h1 => ?_)
      have := h (i + 1) (by simpa using hi) (by rw [rd_cons]; exact h1)
      simpa [List.take_succ_cons, npN, c] using this
    · rw [if_neg c]
      have := cT_zero n l (r + 1) (fun i hi h1 => by
        have := h (i + 1) (by simpa using hi) (by rw [rd_cons]; exact h1)
        rw [List.take_succ_cons, npN, if_neg c] at this; omega)
      rw [this, if_neg]; · rfl
      rintro ⟨h1, h2⟩
      have := h 0 (by simp) (by rw [rd_cons0]; exact h2)
      rw [List.take_succ_cons, npN, if_neg c] at this
      simp [npN] at this; omega
theorem chk_bad {l : List Int} (h : chk l = 0) : ∀ x ∈ l, bad x = false := ((chk_zero l).1 h).2
theorem np_take {l : List Int} (h : chk l = 0) (k : Nat) : npN (l.take k) = cntN 0 (l.take k) + cntN 1 (l.take k) := npN_sum _ (fun x hx => chk_bad h x (List.mem_of_mem_take hx))
/-- One move of the plan. -/
theorem plan_one (l : List Int) (hk : chk l = 0) (h : firstF l < lastM l) : cT (cntN 1 l) 0 (mv l (lastM l) (firstF l)) = cT (cntN 1 l) 0 l - 1 := by
  obtain ⟨m1, m2, m3, m4⟩ := lastM_is l
  obtain ⟨f1, f2, f3, f4⟩ := firstF_is l
  generalize lastM l = M at *
  generalize firstF l = F at *
  have r1 := m3 (by omega)
  have r0 := f3 (by omega)
  obtain ⟨m, rfl⟩ : ∃ m : Nat, M = m := ⟨M.toNat, by omega⟩
  obtain ⟨f, rfl⟩ : ∃ f : Nat, F = f := ⟨F.toNat, by omega⟩
  have a1 := cntN_take 0 l f (by omega)
  have a2 := cntN_take 1 l f (by omega)
  have a3 := cntN_take 1 l m (by omega)
  have a4 := cntN_take 0 l m (by omega)
  rw [if_pos r0] at a1
  rw [if_neg (by rw [r0]; decide)] at a2
  rw [if_pos r1] at a3
  rw [if_neg (by rw [r1]; decide)] at a4
  have b1 := cntN_take_no 0 l f (fun j h0 h1 _ => f4 j h0 h1)
  have b2 := cntN_drop_no 1 l (m + 1) (fun j h0 h1 => m4 j (by omega) h1)
  have b3 := cntN_split 1 l (m + 1)
  have b4 := cntN_mono 1 l f m (by omega)
  have b5 := cntN_mono 0 l (f + 1) m (by omega)
  have n1 := np_take hk (f + 1)
  have n2 := np_take hk (m + 1)
  exact cT_mv _ l m f (by omega) (by omega) (by omega) (by omega) r1 r0 (by rw [Int.toNat_natCast]; omega) (by rw [Int.toNat_natCast]; omega)
theorem plan_end (l : List Int) (hk : chk l = 0) (h : ¬ firstF l < lastM l) : cT (cntN 1 l) 0 l = 0 := by
  obtain ⟨m1, m2, m3, m4⟩ := lastM_is l
  obtain ⟨f1, f2, f3, f4⟩ := firstF_is l
  refine cT_zero _ l 0 (fun i hi h1 => ?_)
  rw [np_take hk (i + 1)]
  have hm : (i : Int) ≤ lastM l := by
    by_cases c : (i : Int) ≤ lastM l
    · exact c
    · exact absurd h1 (m4 i (by omega) (by omega))
  have hf : (i : Int) ≠ firstF l := by intro e; have := f3 (by omega); rw [← e, h1] at this; exact absurd this (by decide)
  have := cntN_take_no 0 l (i + 1) (fun j h0 h1 _ => f4 j h0 (by omega))
  have := cntN_le 1 l (i + 1)
  omega
/-- What the plan's moves make. -/
theorem plan_go : ∀ (k : Nat) (cur : List Int), chk cur = 0 → lastM cur < k → ∃ g, go cur (planL k cur) = (g, 0) ∧ g.length = cur.length ∧ chk g = 0 ∧ ¬ firstF g < lastM g ∧ (∀ v, cntN v g = cntN v cur) ∧
    (∀ j : Int, 0 ≤ j → j < cur.length → (rd g j = 2 ↔ rd cur j = 2)) ∧ ((planL k cur).length : Int) = cT (cntN 1 cur) 0 cur
  | 0, cur, hk, h => by
    have hq : ¬ firstF cur < lastM cur := by have := (firstF_is cur).1; omega
    exact ⟨cur, rfl, rfl, hk, hq, fun _ => rfl, fun _ _ _ => Iff.rfl, by rw [plan_end cur hk hq]; rfl⟩
  | k + 1, cur, hk, h => by
    unfold planL
    by_cases c : firstF cur < lastM cur
    · rw [if_pos c]
      obtain ⟨m1, m2, m3, m4⟩ := lastM_is cur
      obtain ⟨f1, f2, f3, f4⟩ := firstF_is cur
      have r1 := m3 (by omega)
      have r0 := f3 (by omega)
      obtain ⟨g, h1, h2, h3, h4, h5, h6, h7⟩ := plan_go k (mv cur (lastM cur) (firstF cur)) (mv_chk cur _ _ hk) (by have := mv_last cur c; omega)
      have hc := fun v => cntN_mv v cur (lastM cur) (firstF cur) (by omega) (by omega) (by omega) (by omega) r1 r0
      refine ⟨g, ?_, by rw [h2, mv_len], h3, h4, fun v => by rw [h5, hc], fun j hj hl => ?_, ?_⟩
      · rw [go_step cur _ _ _ (by omega) (by omega) (by omega) (by omega) r1 r0]; exact h1
      · rw [h6 j hj (by rw [mv_len]; exact hl), rd_mv cur _ _ j (by omega) f1 hj hl]
        split
        · rename_i e; subst e; rw [r0]; exact ⟨fun h => absurd h (by decide), fun h => absurd h (by decide)⟩
        · split
          · rename_i e; subst e; rw [r1]; exact ⟨fun h => absurd h (by decide), fun h => absurd h (by decide)⟩
          · exact Iff.rfl
      · rw [hc 1, plan_one cur hk c] at h7
        rw [List.length_cons]; omega
    · rw [if_neg c]
      exact ⟨cur, rfl, rfl, hk, c, fun _ => rfl, fun _ _ _ => Iff.rfl, by rw [plan_end cur hk c]; rfl⟩
theorem wrap_big (x : Int) (h0 : 0 ≤ x) (h1 : x ≤ 9223372036854775807) : wrap64 x = x := by unfold wrap64; omega
theorem kinds_l0 (l : List Int) (hl : l.length ≤ 9223372036854775807) : ∀ (d i : Nat) (a b c : Int), l.length - i = d → i ≤ l.length → 0 ≤ a → 0 ≤ b → 0 ≤ c → a ≤ i → b ≤ i → c ≤ i →
    ∃ p : Int × Int × Int × Bool, Ev (fun k => estoverslaw40_kinds.l0 k l (l.length : Int) i a b c) p ∧ p.2.2.2 = !((l.drop i).any bad) ∧
      ((l.drop i).any bad = false → p = (a + cntN 0 (l.drop i), b + cntN 1 (l.drop i), c + cntN 2 (l.drop i), true))
  | 0, i, a, b, c, h0, h1, _, _, _, _, _, _ => by
    refine ⟨(a, b, c, true), Ev.step (fun k => by rw [estoverslaw40_kinds.l0]) (Ev.neg (by omega) (Ev.now _)), ?_, ?_⟩
    · rw [List.drop_eq_nil_of_le (by omega)]; rfl
    · rw [List.drop_eq_nil_of_le (by omega)]; simp [cntN]
  | d + 1, i, a, b, c, h0, h1, ha, hb, hc, ha1, hb1, hc1 => by
    have hd : l.drop i = l[i] :: l.drop (i + 1) := List.drop_eq_getElem_cons (by omega)
    have hr := rd_nat l i (by omega)
    have hw : wrap64 ((i : Int) + 1) = ((i + 1 : Nat) : Int) := by rw [wrap_big _ (by omega) (by omega)]; omega
    have wa := wrap_big (a + 1) (by omega) (by omega)
    have wb := wrap_big (b + 1) (by omega) (by omega)
    have wc := wrap_big (c + 1) (by omega) (by omega)
    rw [hd, ← hr]
    by_cases c0 : rd l i = 0
    · obtain ⟨p, p1, p2, p3⟩ := kinds_l0 l hl d (i + 1) (a + 1) b c (by omega) (by omega) (by omega) hb hc (by omega) (by omega) (by omega)
      have e0 : bad (rd l i) = false := by rw [c0]; rfl
      refine ⟨p, ?_, by rw [List.any_cons, e0]; simpa using p2, fun h => ?_⟩
      · refine Ev.step (fun k => by rw [estoverslaw40_kinds.l0]) ?_
        refine Ev.pos (by omega) (Ev.pos (by omega) (Ev.pos (by omega) (Ev.pos c0 ?_)))
        rw [hw, wa]; exact p1
      · rw [List.any_cons, e0, Bool.false_or] at h
        rw [p3 h]; simp [cntN, c0]; omega
    · by_cases c1 : rd l i = 1
      · obtain ⟨p, p1, p2, p3⟩ := kinds_l0 l hl d (i + 1) a (b + 1) c (by omega) (by omega) ha (by omega) hc (by omega) (by omega) (by omega)
        have e0 : bad (rd l i) = false := by rw [c1]; rfl
        refine ⟨p, ?_, by rw [List.any_cons, e0]; simpa using p2, fun h => ?_⟩
        · refine Ev.step (fun k => by rw [estoverslaw40_kinds.l0]) ?_
          refine Ev.pos (by omega) (Ev.pos (by omega) (Ev.pos (by omega) (Ev.neg c0 (Ev.pos c1 ?_))))
          rw [hw, wb]; exact p1
        · rw [List.any_cons, e0, Bool.false_or] at h
          rw [p3 h]; simp [cntN, c1]; omega
      · by_cases c2 : rd l i = 2
        · obtain ⟨p, p1, p2, p3⟩ := kinds_l0 l hl d (i + 1) a b (c + 1) (by omega) (by omega) ha hb (by omega) (by omega) (by omega) (by omega)
          have e0 : bad (rd l i) = false := by rw [c2]; rfl
          refine ⟨p, ?_, by rw [List.any_cons, e0]; simpa using p2, fun h => ?_⟩
          · refine Ev.step (fun k => by rw [estoverslaw40_kinds.l0]) ?_
            refine Ev.pos (by omega) (Ev.pos (by omega) (Ev.pos (by omega) (Ev.neg c0 (Ev.neg c1 (Ev.pos c2 ?_)))))
            rw [hw, wc]; exact p1
          · rw [List.any_cons, e0, Bool.false_or] at h
            rw [p3 h]; simp [cntN, c2]; omega
        · have e0 : bad (rd l i) = true := by unfold bad; simp [c0, c1, c2]
          refine ⟨(a, b, c, false), ?_, by rw [List.any_cons, e0]; rfl, fun h => ?_⟩
          · refine Ev.step (fun k => by rw [estoverslaw40_kinds.l0]) ?_
            exact Ev.pos (by omega) (Ev.pos (by omega) (Ev.pos (by omega) (Ev.neg c0 (Ev.neg c1 (Ev.neg c2 (Ev.now _))))))
          · rw [List.any_cons, e0] at h; cases h
theorem kinds_ev (l : List Int) (hl : l.length ≤ 9223372036854775807) : ∃ p : Int × Int × Int × Bool, Ev (fun k => estoverslaw40_kinds.f k l) p ∧ p.2.2.2 = !(l.any bad) ∧ (l.any bad = false → p = (cntN 0 l, cntN 1 l, cntN 2 l, true)) := by
  obtain ⟨p, p1, p2, p3⟩ := kinds_l0 l hl l.length 0 0 0 0 (by omega) (by omega) (by omega) (by omega) (by omega) (by omega) (by omega) (by omega)
  rw [List.drop_zero] at p2 p3
  exact ⟨p, p1, p2, fun h => by rw [p3 h]; simp⟩
theorem chk_of {l : List Int} (h : l.length ≤ 4096) (hb : l.any bad = false) : chk l = 0 := by
  unfold chk; rw [if_neg (by omega), if_neg (by simp [hb])]
theorem any_of {l : List Int} (h : chk l = 0) : l.any bad = false := by
  cases e : l.any bad with
  | false => rfl
  | true => obtain ⟨x, hx, hy⟩ := List.any_eq_true.1 e; rw [chk_bad h x hx] at hy; cases hy
theorem kinds_valid (l : List Int) (h : chk l = 0) : Ev (fun k => estoverslaw40_kinds.f k l) (cntN 0 l, cntN 1 l, cntN 2 l, true) := by
  have hl := chk_len h
  obtain ⟨p, p1, _, p3⟩ := kinds_ev l (by omega)
  rw [p3 (any_of h)] at p1; exact p1

theorem seek_tgt (l : List Int) (s e : Nat) : ∀ f j, seek l s e f j < j + f → tgt l s e (seek l s e f j) = true
  | 0, j, h => absurd h (by simp [seek])
  | f + 1, j, h => by
    unfold seek at h ⊢
    by_cases c : tgt l s e j = true
    · rw [if_pos c]; exact c
    · rw [if_neg c] at h ⊢; exact seek_tgt l s e f (j + 1) (by omega)
theorem tgt_is {l : List Int} {s e j : Nat} (h : tgt l s e j = true) : rd l j = 0 ∧ (j < s ∨ e ≤ j) := by
  unfold tgt at h
  rw [Bool.and_eq_true, Bool.not_eq_true', Bool.and_eq_false_iff] at h
  refine ⟨by simpa using h.1, ?_⟩
  rcases h.2 with q | q
  · have := of_decide_eq_false q; omega
  · have := of_decide_eq_false q; omega
/-- What the moves of fill make of cells that agree with the first ones where it looks. -/
theorem fill_go (l : List Int) (s e : Nat) (hs : s ≤ e) (he : e ≤ l.length) : ∀ (d i t : Nat) (out : List S26) (cur : List Int), i + d = e → s ≤ i → t ≤ l.length → cur.length = l.length → chk cur = 0 →
    (∀ j : Int, i ≤ j → j < e → rd cur j = rd l j) → (∀ j : Int, t ≤ j → j < l.length → (j < s ∨ e ≤ j) → rd cur j = rd l j) → (fill l s e d i t out).2 = 0 →
    ∃ suf g, (fill l s e d i t out).1 = out ++ suf ∧ go cur suf = (g, 0) ∧ g.length = l.length ∧ chk g = 0 ∧ (∀ v, cntN v g = cntN v cur) ∧
      (∀ j : Int, i ≤ j → j < e → rd g j = if rd l j = 1 then 0 else rd l j) ∧ (∀ j : Int, s ≤ j → j < i → rd g j = rd cur j) ∧
      (∀ j : Int, 0 ≤ j → j < l.length → (j < s ∨ e ≤ j) → rd g j = rd cur j ∨ (rd cur j = 0 ∧ rd g j = 1)) ∧ (suf.length : Int) = cntN 1 ((l.drop i).take d)
  | 0, i, t, out, cur, h0, h1, h2, h3, h4, h5, h6, _ =>
    ⟨[], cur, by simp [fill], rfl, h3, h4, fun _ => rfl, fun j a b => absurd b (by omega), fun j a b => rfl, fun j a b c => .inl rfl, by simp [cntN]⟩
  | d + 1, i, t, out, cur, h0, h1, h2, h3, h4, h5, h6, h7 => by
    unfold fill at h7 ⊢
    rw [cntN_drop 1 l i d (by omega)]
    by_cases c : rd l i = 1
    · rw [if_pos c] at h7 ⊢
      by_cases q : seek l s e (l.length - t) t < l.length
      · rw [if_pos q] at h7 ⊢
        have hb := seek_bd l s e (l.length - t) t
        have ht := tgt_is (seek_tgt l s e (l.length - t) t (by omega))
        generalize seek l s e (l.length - t) t = k at *
        have r1 : rd cur i = 1 := by rw [h5 i (by omega) (by omega)]; exact c
        have r0 : rd cur k = 0 := by rw [h6 k (by omega) (by omega) (by have := ht.2; omega)]; exact ht.1
        have R := fun j a b => rd_mv cur i k j (by omega) (by omega) a b
        have hk := ht.2
        obtain ⟨suf, g, a1, a2, a3, a4, a5, a6, a7, a8, a9⟩ := fill_go l s e hs he d (i + 1) (k + 1) (out ++ [⟨i, k⟩]) (mv cur i k) (by omega) (by omega) (by omega) (by rw [mv_len]; exact h3) (mv_chk cur _ _ h4)
          (fun j a b => by rw [R j (by omega) (by omega), if_neg (by omega), if_neg (by omega)]; exact h5 j (by omega) b)
          (fun j a b x => by rw [R j (by omega) (by omega), if_neg (by omega), if_neg (by omega)]; exact h6 j (by omega) b x) h7
        refine ⟨⟨i, k⟩ :: suf, g, by rw [a1]; simp, ?_, a3, a4, fun v => ?_, fun j a b => ?_, fun j a b => ?_, fun j a b x => ?_, by rw [if_pos c, List.length_cons]; omega⟩
        · rw [go_step cur i k suf (by omega) (by omega) (by omega) (by omega) r1 r0]; exact a2
        · rw [a5, cntN_mv v cur i k (by omega) (by omega) (by omega) (by omega) r1 r0]
        · by_cases z : j = i
          · rw [a7 j (by omega) (by omega), R j (by omega) (by omega), if_neg (by omega), if_pos z, z, if_pos c]
          · exact a6 j (by omega) b
        · rw [a7 j a (by omega), R j (by omega) (by omega), if_neg (by omega), if_neg (by omega)]
        · have h8 := a8 j a b x
          rw [R j a (by omega)] at h8
          by_cases z : j = k
          · rw [if_pos z] at h8
            right
            refine ⟨by rw [z]; exact r0, ?_⟩
            rcases h8 with w | w
            · exact w
            · exact absurd w.1 (by decide)
          · rw [if_neg z, if_neg (by omega)] at h8; exact h8
      · rw [if_neg q] at h7; exact absurd h7 (by decide)
    · rw [if_neg c] at h7 ⊢
      obtain ⟨suf, g, a1, a2, a3, a4, a5, a6, a7, a8, a9⟩ := fill_go l s e hs he d (i + 1) t out cur (by omega) (by omega) h2 h3 h4 (fun j a b => h5 j (by omega) b) h6 h7
      refine ⟨suf, g, a1, a2, a3, a4, a5, fun j a b => ?_, fun j a b => a7 j a (by omega), a8, by rw [if_neg c]; omega⟩
      by_cases z : j = i
      · rw [a7 j (by omega) (by omega), h5 j a b, z, if_neg c]
      · exact a6 j (by omega) b
/-- When there are enough places, fill has no error. -/
theorem fill_yes (l : List Int) (s e : Nat) : ∀ d i t out, i + d ≤ l.length → t ≤ l.length → cntN 1 ((l.drop i).take d) ≤ nT l s e (l.length - t) t → (fill l s e d i t out).2 = 0
  | 0, i, t, out, _, ht, h => rfl
  | d + 1, i, t, out, hi, ht, h => by
    rw [cntN_drop 1 l i d (by omega)] at h
    have hb := cntN_bd 1 ((l.drop (i + 1)).take d)
    unfold fill
    by_cases c : rd l i = 1
    · rw [if_pos c] at h ⊢
      have hs := seek_some l s e (l.length - t) t (by omega)
      rw [show t + (l.length - t) = l.length from by omega] at hs
      rw [if_pos hs.1]
      exact fill_yes l s e d (i + 1) _ _ (by omega) (by omega) (by rw [hs.2]; omega)
    · rw [if_neg c] at h ⊢
      exact fill_yes l s e d (i + 1) t out (by omega) ht (by omega)
/-- The free cells outside of a range. -/
theorem nT_all (l : List Int) (s n : Nat) (h : s + n ≤ l.length) : nT l s (s + n) l.length 0 = cntN 0 l - cntN 0 ((l.drop s).take n) := by
  have e1 := nT_add l s (s + n) (n + (l.length - (s + n))) s 0
  have e2 := nT_add l s (s + n) (l.length - (s + n)) n (0 + s)
  rw [show s + (n + (l.length - (s + n))) = l.length from by omega] at e1
  rw [e1, e2, nT_in l s (s + n) n (0 + s) (by omega) (by omega), nT_out l s (s + n) s 0 (by omega) (by omega), nT_out l s (s + n) (l.length - (s + n)) (0 + s + n) (by omega) (by omega), show 0 + s + n = s + n from by omega]
  have a1 := cntN_split 0 l s
  have a2 := cntN_split 0 (l.drop s) n
  rw [List.drop_drop] at a2
  rw [List.drop_zero, List.take_of_length_le (show (l.drop (s + n)).length ≤ l.length - (s + n) from by rw [List.length_drop]; omega)]
  omega
theorem cntN_sum : ∀ l : List Int, (∀ x ∈ l, bad x = false) → cntN 0 l + cntN 1 l + cntN 2 l = l.length
  | [], _ => rfl
  | x :: l, h => by
    have ih := cntN_sum l (fun x hx => h x (by simp [hx]))
    have hx : bad x = false := h x (by simp)
    have : x = 0 ∨ x = 1 ∨ x = 2 := by unfold bad at hx; simp at hx; by_cases a : x = 0; exact .inl a; by_cases b : x = 1; exact .inr (.inl b); by_cases c : x = 2; exact .inr (.inr c); exact absurd (hx a b) c
    unfold cntN
    rw [List.length_cons]
    rcases this with rfl | rfl | rfl <;> simp <;> omega
end Go.Proofs.Ytollapjmibkpfaa.X
