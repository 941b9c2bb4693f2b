/- The contracts of compaction.Fits and compaction.Possible. -/
import Derived.Test.YtollapjmibkpfaaGa
import Derived.Outline
namespace Go.Proofs.Ytollapjmibkpfaa.X
open Go.RowKit Go.Proofs.YtollapjmibkpfaaW.PrintWords Go.Proofs.YtollapjmibkpfaaW.PrintLast Go.Proofs.YtollapjmibkpfaaW.PrintMore
set_option linter.unusedVariables false
set_option linter.unusedSimpArgs false

/-- The place of the first element of which p holds, from k on, or -1. -/
def idxFrom (p : Int → Bool) : List Int → Int → Int
  | [], _ => -1
  | x :: l, k => if p x then k else idxFrom p l (k + 1)
def idx (p : Int → Bool) (l : List Int) : Int := idxFrom p l 0
theorem idxFrom_drop (p : Int → Bool) (l : List Int) (k : Nat) (h : k < l.length) : idxFrom p (l.drop k) k = if p (rd l k) then (k : Int) else idxFrom p (l.drop (k + 1)) ((k : Int) + 1) := by
  rw [rd_nat l k h, List.drop_eq_getElem_cons h]
  simp only [idxFrom]
theorem idxFrom_any (p : Int → Bool) : ∀ (l : List Int) (k : Int), 0 ≤ k → (decide (0 ≤ idxFrom p l k) = l.any p)
  | [], k, h => by simp [idxFrom]
  | x :: l, k, h => by
    simp only [idxFrom, List.any_cons]
    by_cases hp : p x = true
    · simp [h, hp]
    · simp only [hp, if_neg, Bool.false_or]
      simpa [hp] using idxFrom_any p l (k + 1) (by omega)

set_option maxHeartbeats 1000000 in
theorem indexFunc_calls (p : Int → Bool) (g : Nat) (cb : Array Value) (eg : ∀ args w, (callFunc g args).run Try.prog w = .ok (.enter g args) w) (A0 : Option Addr) (c0 : Nat) (l0 : List Int) (w : World) (hr0 : Kd.C (Kd.int .i64) w A0 l0.length l0) (hn : l0.length ≤ 9223372036854775807)
    (hp : ∀ (W : World) (x : Int), Below w.heap.size w W → Calls Try.prog g (#[.int .i64 x] ++ cb) W fun e w' => e = .returned (.bool (p x)) ∧ Below w.heap.size w w') :
    Calls Try.prog 65 #[.slice A0 l0.length c0, .func (.func g) #[] cb] w fun e w' => e = .returned (.int .i64 (idx p l0)) ∧ Below w.heap.size w w' := by
  have HR := Aside0.mk hr0
  have HP := Aside0.mk hp
  clear hr0 hp
  go_enter Try.func65, Try.ntmps65
  go_wp2
  go_loopg [5, 8] l0.length (fun gg _ s8 wr => ∃ kk : Nat, kk ≤ l0.length ∧ l0.length - kk ≤ gg ∧ s8 = .int .i64 kk ∧ Aside0 (Below w.heap.size w wr) ∧ Aside0 (idx p l0 = idxFrom p (l0.drop kk) kk))
  case atStart => exact ⟨0, Nat.zero_le _, by omega, rfl, ⟨Below.refl _ w⟩, ⟨rfl⟩⟩
  case round =>
    obtain ⟨kk, hkk, hg, rfl, BW, A⟩ := hrel
    by_cases hlt : kk < l0.length
    · have hltz : (kk : Int) < (l0.length : Int) := by omega
      obtain ⟨ad, e0, hx0⟩ := Kd.at_int (Kd.C_below HR.out BW.out) (kk : Int) (by omega) hltz
      cases e0
      have hcall := HP.out wr (rd l0 kk) BW.out
      simp only [Int.toNat_natCast] at hx0
      cases hq : p (rd l0 kk) with
      | true =>
        rw [hq] at hcall
        have HS : Aside0 (idx p l0 = kk) := ⟨by rw [A.out, idxFrom_drop p l0 kk hlt, hq, if_pos rfl]⟩
        clear hq A
        generalize rd l0 kk = x at hx0 hcall
        go_wp2_with (fail)
        refine hcall.mono ?_
        rintro e w' ⟨rfl, hb'⟩
        clear hcall hx0
        go_wp2
        go_ret
        refine ⟨?_, hb'⟩
        rw [HS.out]; rfl
      | false =>
        rw [hq] at hcall
        have HS : Aside0 (idx p l0 = idxFrom p (l0.drop (kk + 1)) ((kk : Int) + 1)) := ⟨by rw [A.out, idxFrom_drop p l0 kk hlt, hq, if_neg (by simp)]⟩
        clear hq A
        generalize rd l0 kk = x at hx0 hcall
        go_wp2_with (fail)
        refine hcall.mono ?_
        rintro e w' ⟨rfl, hb'⟩
        clear hcall hx0
        go_wp2
        go_roundg (l0.length - (kk + 1))
        case measure => omega
        case rel =>
          exact ⟨kk + 1, by omega, by omega, by go_num, ⟨hb'⟩, ⟨by rw [HS.out]; simp⟩⟩
    · have hltz : ¬ (kk : Int) < (l0.length : Int) := by omega
      have : kk = l0.length := by omega
      subst this
      go_wp2
      go_ret
      refine ⟨?_, BW.out⟩
      rw [A.out]; simp [idxFrom]

set_option maxHeartbeats 1000000 in
theorem containsFunc_calls (p : Int → Bool) (g : Nat) (cb : Array Value) (eg : ∀ args w, (callFunc g args).run Try.prog w = .ok (.enter g args) w) (A0 : Option Addr) (c0 : Nat) (l0 : List Int) (w : World) (hr0 : Kd.C (Kd.int .i64) w A0 l0.length l0) (hn : l0.length ≤ 9223372036854775807)
    (hp : ∀ (W : World) (x : Int), Below w.heap.size w W → Calls Try.prog g (#[.int .i64 x] ++ cb) W fun e w' => e = .returned (.bool (p x)) ∧ Below w.heap.size w w') :
    Calls Try.prog 55 #[.slice A0 l0.length c0, .func (.func g) #[] cb] w fun e w' => e = .returned (.bool (l0.any p)) ∧ Below w.heap.size w w' := by
  have HC := Aside0.mk (indexFunc_calls p g cb eg A0 c0 l0 w hr0 hn hp)
  have HE : Aside0 (decide (0 ≤ idx p l0) = l0.any p) := ⟨idxFrom_any p l0 0 (by omega)⟩
  clear hr0 hp eg
  generalize idx p l0 = r at HC HE
  go_enter Try.func55, Try.ntmps55
  go_wp2_with (fail)
  refine HC.out.mono ?_
  rintro e w' ⟨rfl, hb'⟩
  go_wp2
  go_ret
  refine ⟨?_, hb'⟩
  rw [← HE.out]; rfl

def isFree (c : Int) : Bool := c == 0
def isSoft (c : Int) : Bool := c != 2
theorem isFree_calls (c : Int) (W : World) : Calls Try.prog 43 #[.int .i64 c] W fun e w' => e = .returned (.bool (isFree c)) ∧ Drawn0 W w' := by
  go_enter Try.func43, Try.ntmps43
  go_wp2
  go_ret
  exact ⟨rfl, Drawn0.refl _⟩
theorem isSoft_calls (c : Int) (W : World) : Calls Try.prog 45 #[.int .i64 c] W fun e w' => e = .returned (.bool (isSoft c)) ∧ Drawn0 W w' := by
  go_enter Try.func45, Try.ntmps45
  go_wp2
  go_ret
  exact ⟨rfl, Drawn0.refl _⟩
/-- accept's opposite. -/
theorem notP_calls (p : Int → Bool) (g : Nat) (eg : ∀ args w, (callFunc g args).run Try.prog w = .ok (.enter g args) w) (hp : ∀ c W, Calls Try.prog g #[.int .i64 c] W fun e w' => e = .returned (.bool (p c)) ∧ Drawn0 W w') (B : Nat) (c : Int) (W : World) (hc : W.cell? ⟨B, 0, none⟩ = some (.func (.func g) #[] #[])) :
    Calls Try.prog 56 #[.int .i64 c, .pointer (some ⟨B, 0, none⟩)] W fun e w' => e = .returned (.bool (!p c)) ∧ Drawn0 W w' := by
  have HP := Aside0.mk (hp c)
  clear hp
  generalize p c = q at HP ⊢
  cases q with
  | true =>
    go_enter Try.func56, Try.ntmps56
    go_wp2_with (fail)
    refine (HP.out _).mono ?_
    rintro e w' ⟨rfl, hd⟩
    obtain ⟨n, rfl⟩ := hd.out
    clear hd
    go_wp2
    go_ret
    exact ⟨rfl, (Drawn0.refl _).step _⟩
  | false =>
    go_enter Try.func56, Try.ntmps56
    go_wp2_with (fail)
    refine (HP.out _).mono ?_
    rintro e w' ⟨rfl, hd⟩
    obtain ⟨n, rfl⟩ := hd.out
    clear hd
    go_wp2
    go_ret
    exact ⟨rfl, (Drawn0.refl _).step _⟩

/-- The lowest block of size s, from at on, all of whose cells p accepts, or -1; k: rounds. -/
def blkAt (p : Int → Bool) (l : List Int) (s : Nat) : Nat → Nat → Int
  | 0, _ => -1
  | k + 1, at_ => if at_ + s ≤ l.length then (if ((l.drop at_).take s).all p then (at_ : Int) else blkAt p l s k (at_ + s)) else -1
def blockF (p : Int → Bool) (l : List Int) (o : Int) : Int := if chk l = 0 ∧ 0 ≤ o ∧ o ≤ 4 then blkAt p l (2 ^ o.toNat) (l.length + 1) 0 else -1

theorem any_not (p : Int → Bool) : ∀ l : List Int, l.any (fun c => !p c) = !l.all p
  | [] => rfl
  | x :: l => by simp only [List.any_cons, List.all_cons, any_not p l]; cases p x <;> simp

set_option maxHeartbeats 2000000 in
theorem block_calls (p : Int → Bool) (g : Nat) (eg : ∀ args w, (callFunc g args).run Try.prog w = .ok (.enter g args) w) (hp : ∀ c W, Calls Try.prog g #[.int .i64 c] W fun e w' => e = .returned (.bool (p c)) ∧ Drawn0 W w')
    (A0 : Option Addr) (c0 : Nat) (l0 : List Int) (a1 : Int) (w : World) (hr0 : Kd.C (Kd.int .i64) w A0 l0.length l0) (hc0 : l0.length ≤ c0) (s : Nat) (hs0 : 0 < s) (hs1 : s ≤ 16) (hk : chk l0 = 0) (p1 : 0 ≤ a1) (p2 : a1 ≤ 4)
    (hsh : wrap64 (2 ^ a1.toNat) = (s : Int)) :
    Calls Try.prog 42 #[.slice A0 l0.length c0, .int .i64 a1, .func (.func g) #[] #[]] w fun e w' => e = .returned (.int .i64 (blkAt p l0 s (l0.length + 1) 0)) ∧ Below w.heap.size w w' := by
  have HC := Aside0.mk (check_calls A0 c0 l0 (w.alloc (.cells #[.func (.func g) #[] #[]] 63)) (Kd.C_alloc hr0 _) hc0)
  rw [hk] at HC
  have HR0 := Aside0.mk hr0
  have HC0 := Aside0.mk hc0
  have hn : l0.length ≤ 4096 := chk_len hk
  have d1 : decide (a1 < 0) = false := decide_eq_false (by omega)
  have d2 : decide (4 < a1) = false := decide_eq_false (by omega)
  clear hr0 hc0 hk
  have HN := Aside0.mk (fun c B W hc => notP_calls p g eg hp B c W hc)
  clear hp
  go_enter Try.func42, Try.ntmps42
  go_wp2_with (go_at_call 18; refine HC.out.mono ?_; rintro e w' ⟨rfl, hd⟩; obtain ⟨nd, rfl⟩ := hd.out; clear hd)
  have HBB : Aside0 (Below w.heap.size w ((w.alloc (.cells #[.func (.func g) #[] #[]] 63)).drewN nd)) := ⟨pw_below_drewN (below_alloc (Below.refl _ _) _) _⟩
  have HCC : Aside0 (((w.alloc (.cells #[.func (.func g) #[] #[]] 63)).drewN nd).cell? ⟨w.heap.size, 0, none⟩ = some (.func (.func g) #[] #[])) := ⟨by simp⟩
  rw [hsh]
  clear hsh
  go_loopg [8] (l0.length + 1) (fun gg s8 wr => ∃ kk : Nat, kk ≤ 4112 ∧ l0.length + 1 ≤ gg + kk ∧ s8 = .int .i64 kk ∧ Aside0 (Below w.heap.size w wr) ∧ Aside0 (wr.cell? ⟨w.heap.size, 0, none⟩ = some (.func (.func g) #[] #[])) ∧ Aside0 (blkAt p l0 s (l0.length + 1) 0 = blkAt p l0 s gg kk))
  case atStart => exact ⟨0, Nat.zero_le _, by omega, rfl, HBB, HCC, ⟨rfl⟩⟩
  case round =>
    clear HBB HCC
    obtain ⟨kk, hkk, hg, rfl, BW, BC, A⟩ := hrel
    cases gk with
    | zero =>
      have hltz : ¬ (kk : Int) + (s : Int) ≤ (l0.length : Int) := by omega
      have HE : Aside0 (blkAt p l0 s (l0.length + 1) 0 = -1) := ⟨by rw [A.out]; rfl⟩
      clear A
      go_wp2
      go_ret
      exact ⟨by rw [HE.out]; rfl, BW.out⟩
    | succ gk =>
    by_cases hlt : kk + s ≤ l0.length
    · have hltz : (kk : Int) + (s : Int) ≤ (l0.length : Int) := by omega
      obtain ⟨i0, hi0, _, hsz, _⟩ := info_parts info3
      obtain ⟨A1, hcut, hA1, hC1⟩ := print_mid_of (P := Try.prog) (Value.int .i64) 0 22 3 .i64 .i64 Try.underlying22 hi0 hsz A0 c0 l0 (kk : Int) ((kk : Int) + (s : Int)) (by omega) (by omega) hltz HC0.out
      have HR1 := Kd.C_of_reads (h1 := fun _ => rfl) (hA1 _ (Kd.reads_of_C (Kd.C_below HR0.out BW.out)))
      rw [show ((kk : Int) + (s : Int)).toNat = kk + s from by omega, show (kk : Int).toNat = kk from by omega] at HR1
      have hseg : (List.drop kk (List.take (kk + s) l0)) = (l0.drop kk).take s := by rw [List.drop_take]; congr 1; omega
      rw [hseg] at HR1
      have hsl : ((l0.drop kk).take s).length = s := by rw [List.length_take, List.length_drop]; omega
      have hcall := containsFunc_calls (fun c => !p c) 56 #[.pointer (some ⟨w.heap.size, 0, none⟩)] (entered Try.func56 (by kernel_rfl) rfl) A1 (c0 - kk) _ wr HR1 (by omega)
        (fun W x hb => (HN.out x w.heap.size W (pw_cell_below hb BC.out)).mono fun e w' ⟨he, hd⟩ => ⟨he, below_then hb hb.size hd.below⟩)
      rw [hsl, any_not] at hcall
      have HK := Aside0.mk hcall
      clear hcall hA1 hC1 hi0 hsz HR1 hseg hsl
      have HBC := Aside0.mk (fun (W : World) (hb : Below wr.heap.size wr W) => pw_cell_below hb BC.out)
      cases hq : ((l0.drop kk).take s).all p with
      | true =>
        have HE : Aside0 (blkAt p l0 s (l0.length + 1) 0 = kk) := ⟨by rw [A.out, blkAt, if_pos hlt, if_pos hq]⟩
        rw [hq] at HK
        clear A hq
        go_wp2_with (fail)
        refine HK.out.mono ?_
        rintro e w' ⟨rfl, hb'⟩
        clear hcut
        go_wp2
        go_ret
        exact ⟨by rw [HE.out]; rfl, below_step BW.out hb'⟩
      | false =>
        have HE : Aside0 (blkAt p l0 s (l0.length + 1) 0 = blkAt p l0 s gk (kk + s)) := ⟨by rw [A.out, blkAt, if_pos hlt, if_neg (by simp [hq])]⟩
        rw [hq] at HK
        clear A hq
        go_wp2_with (fail)
        refine HK.out.mono ?_
        rintro e w' ⟨rfl, hb'⟩
        clear hcut
        go_wp2
        go_roundg gk
        case measure => omega
        case rel =>
          exact ⟨kk + s, by omega, by omega, by go_num, ⟨below_step BW.out hb'⟩, ⟨HBC.out _ hb'⟩, HE⟩
    · have hltz : ¬ (kk : Int) + (s : Int) ≤ (l0.length : Int) := by omega
      have HE : Aside0 (blkAt p l0 s (l0.length + 1) 0 = -1) := ⟨by rw [A.out, blkAt, if_neg hlt]⟩
      clear A
      go_wp2
      go_ret
      exact ⟨by rw [HE.out]; rfl, BW.out⟩

set_option maxHeartbeats 1000000 in
theorem block_no (p : Int → Bool) (g : Nat) (A0 : Option Addr) (c0 : Nat) (l0 : List Int) (a1 : Int) (w : World) (hr0 : Kd.C (Kd.int .i64) w A0 l0.length l0) (hc0 : l0.length ≤ c0) (hk : chk l0 ≠ 0 ∨ (chk l0 = 0 ∧ (a1 < 0 ∨ 4 < a1))) :
    Calls Try.prog 42 #[.slice A0 l0.length c0, .int .i64 a1, .func (.func g) #[] #[]] w fun e w' => e = .returned (.int .i64 (-1)) ∧ Below w.heap.size w w' := by
  have HC := Aside0.mk (check_calls A0 c0 l0 (w.alloc (.cells #[.func (.func g) #[] #[]] 63)) (Kd.C_alloc hr0 _) hc0)
  have HBB : Aside0 (∀ n, Below w.heap.size w ((w.alloc (.cells #[.func (.func g) #[] #[]] 63)).drewN n)) := ⟨fun n => pw_below_drewN (below_alloc (Below.refl _ _) _) _⟩
  clear hr0 hc0
  by_cases h0 : chk l0 = 0
  · rw [h0] at HC
    have hk' : a1 < 0 ∨ 4 < a1 := by rcases hk with h | h; exact absurd h0 h; exact h.2
    clear hk h0
    by_cases h1 : a1 < 0
    · have d1 : decide (a1 < 0) = true := decide_eq_true h1
      clear hk' h1
      go_enter Try.func42, Try.ntmps42
      go_wp2_with (go_at_call 18; refine HC.out.mono ?_; rintro e w' ⟨rfl, hd⟩; obtain ⟨nd, rfl⟩ := hd.out; clear hd)
      go_ret
      exact ⟨rfl, HBB.out _⟩
    · have d1 : decide (a1 < 0) = false := decide_eq_false h1
      have d2 : decide (4 < a1) = true := decide_eq_true (by omega)
      clear hk' h1
      go_enter Try.func42, Try.ntmps42
      go_wp2_with (go_at_call 18; refine HC.out.mono ?_; rintro e w' ⟨rfl, hd⟩; obtain ⟨nd, rfl⟩ := hd.out; clear hd)
      go_ret
      exact ⟨rfl, HBB.out _⟩
  · have c1 : (chk l0 != 0) = true := bne_iff_ne.mpr h0
    clear hk h0
    generalize chk l0 = r at HC c1
    go_enter Try.func42, Try.ntmps42
    go_wp2_with (go_at_call 18; refine HC.out.mono ?_; rintro e w' ⟨rfl, hd⟩; obtain ⟨nd, rfl⟩ := hd.out; clear hd)
    go_ret
    exact ⟨rfl, HBB.out _⟩
theorem block_any (p : Int → Bool) (g : Nat) (eg : ∀ args w, (callFunc g args).run Try.prog w = .ok (.enter g args) w) (hp : ∀ c W, Calls Try.prog g #[.int .i64 c] W fun e w' => e = .returned (.bool (p c)) ∧ Drawn0 W w')
    (A0 : Option Addr) (c0 : Nat) (l0 : List Int) (a1 : Int) (w : World) (hr0 : Kd.C (Kd.int .i64) w A0 l0.length l0) (hc0 : l0.length ≤ c0) :
    Calls Try.prog 42 #[.slice A0 l0.length c0, .int .i64 a1, .func (.func g) #[] #[]] w fun e w' => e = .returned (.int .i64 (blockF p l0 a1)) ∧ Below w.heap.size w w' := by
  unfold blockF
  by_cases h0 : chk l0 = 0
  · by_cases h1 : 0 ≤ a1 ∧ a1 ≤ 4
    · rw [if_pos ⟨h0, h1⟩]
      have h5 : a1 = 0 ∨ a1 = 1 ∨ a1 = 2 ∨ a1 = 3 ∨ a1 = 4 := by omega
      refine block_calls p g eg hp A0 c0 l0 a1 w hr0 hc0 (2 ^ a1.toNat) (Nat.pow_pos (by omega)) ?_ h0 h1.1 h1.2 ?_
      · rcases h5 with rfl | rfl | rfl | rfl | rfl <;> decide +kernel
      · rcases h5 with rfl | rfl | rfl | rfl | rfl <;> decide +kernel
    · rw [if_neg (by omega)]
      exact block_no p g A0 c0 l0 a1 w hr0 hc0 (.inr ⟨h0, by omega⟩)
  · rw [if_neg (by simp [h0])]
    exact block_no p g A0 c0 l0 a1 w hr0 hc0 (.inl h0)

def compaction_Fits.f (l : List Int) (o : Int) : Option Int := some (blockF isFree l o)
set_option maxHeartbeats 1000000 in
theorem compaction_Fits.calls (A0 : Option Addr) (c0 : Nat) (l0 : List Int) (a1 : Int) (r : Int) (w : World) (hr0 : Kd.C (Kd.int .i64) w A0 l0.length l0) (hc0 : l0.length ≤ c0) (h : compaction_Fits.f l0 a1 = some r) :
    Calls Try.prog 25 #[.slice A0 l0.length c0, .int .i64 a1] w fun e w' => e = .returned (.int .i64 r) ∧ Below w.heap.size w w' := by
  have HC := Aside0.mk (block_any isFree 43 (entered Try.func43 (by kernel_rfl) rfl) isFree_calls A0 c0 l0 a1 w hr0 hc0)
  obtain rfl := Option.some.inj h
  clear hr0 hc0 h
  generalize blockF isFree l0 a1 = r at HC
  go_enter Try.func25, Try.ntmps25
  go_wp2_with (fail)
  refine HC.out.mono ?_
  rintro e w' ⟨rfl, hb⟩
  go_wp2
  go_ret
  exact ⟨rfl, hb⟩

/-- The number of free cells. -/
def freeN : List Int → Int
  | [] => 0
  | x :: l => (if x = 0 then 1 else 0) + freeN l
theorem freeN_bd : ∀ l : List Int, 0 ≤ freeN l ∧ freeN l ≤ l.length
  | [] => ⟨by simp [freeN], by simp [freeN]⟩
  | x :: l => by have := freeN_bd l; unfold freeN; simp; split <;> omega
theorem freeN_take : ∀ (l : List Int) (k : Nat), k < l.length → freeN (l.take (k + 1)) = freeN (l.take k) + (if rd l k = 0 then 1 else 0)
  | [], k, h => by simp at h
  | x :: l, 0, h => by
    have : rd (x :: l) ((0 : Nat) : Int) = x := rfl
    rw [this]; simp [freeN]
  | x :: l, k + 1, h => by
    have e : rd (x :: l) ((k + 1 : Nat) : Int) = rd l k := by unfold rd; simp
    have := freeN_take l k (by simpa using h)
    rw [e, List.take_succ_cons, List.take_succ_cons, freeN, freeN, this]; omega
def possF (l : List Int) (o : Int) : Int := if blockF isSoft l o < 0 then -1 else if freeN l < 2 ^ o.toNat then -1 else blockF isSoft l o
def compaction_Possible.f (l : List Int) (o : Int) : Option Int := some (possF l o)
theorem blkAt_bd (p : Int → Bool) (l : List Int) (s : Nat) : ∀ k a : Nat, blkAt p l s k a = -1 ∨ (0 ≤ blkAt p l s k a ∧ blkAt p l s k a + s ≤ l.length)
  | 0, a => .inl rfl
  | k + 1, a => by
    unfold blkAt
    split
    · split
      · right; omega
      · exact blkAt_bd p l s k (a + s)
    · exact .inl rfl
theorem blockF_bd (p : Int → Bool) (l : List Int) (o : Int) : blockF p l o = -1 ∨ (chk l = 0 ∧ 0 ≤ o ∧ o ≤ 4 ∧ 0 ≤ blockF p l o ∧ blockF p l o + 2 ^ o.toNat ≤ l.length) := by
  unfold blockF
  split
  · rename_i h
    rcases blkAt_bd p l (2 ^ o.toNat) (l.length + 1) 0 with e | e
    · exact .inl e
    · exact .inr ⟨h.1, h.2.1, h.2.2, e.1, by have := e.2; simpa using this⟩
  · exact .inl rfl
set_option maxHeartbeats 1000000 in
theorem compaction_Possible.calls (A0 : Option Addr) (c0 : Nat) (l0 : List Int) (a1 : Int) (r : Int) (w : World) (hr0 : Kd.C (Kd.int .i64) w A0 l0.length l0) (hc0 : l0.length ≤ c0) (h : compaction_Possible.f l0 a1 = some r) :
    Calls Try.prog 27 #[.slice A0 l0.length c0, .int .i64 a1] w fun e w' => e = .returned (.int .i64 r) ∧ Below w.heap.size w w' := by
  have HC := Aside0.mk (block_any isSoft 45 (entered Try.func45 (by kernel_rfl) rfl) isSoft_calls A0 c0 l0 a1 w hr0 hc0)
  have hw : possF l0 a1 = r := Option.some.inj h
  have hb := blockF_bd isSoft l0 a1
  have HR := Aside0.mk hr0
  have hn0 : l0.length ≤ 9223372036854775807 := hr0.2.1
  unfold possF at hw
  clear hr0 hc0 h
  generalize blockF isSoft l0 a1 = b at HC hw hb
  by_cases h0 : b < 0
  · rw [if_pos h0] at hw
    subst hw
    have d0 : decide (b < 0) = true := decide_eq_true h0
    clear hb h0
    go_enter Try.func27, Try.ntmps27
    go_wp2_with (go_at_call 42; refine HC.out.mono ?_; rintro e w' ⟨rfl, hb'⟩)
    go_ret
    exact ⟨rfl, hb'⟩
  · rw [if_neg h0] at hw
    have d0 : decide (b < 0) = false := decide_eq_false h0
    obtain ⟨hk, p1, p2, q1, q2⟩ : chk l0 = 0 ∧ 0 ≤ a1 ∧ a1 ≤ 4 ∧ 0 ≤ b ∧ b + 2 ^ a1.toNat ≤ l0.length := by
      rcases hb with e | e
      · omega
      · exact e
    have hn : l0.length ≤ 4096 := chk_len hk
    have hsh : wrap64 (2 ^ a1.toNat) = ((2 ^ a1.toNat : Nat) : Int) := by
      have h5 : a1 = 0 ∨ a1 = 1 ∨ a1 = 2 ∨ a1 = 3 ∨ a1 = 4 := by omega
      rcases h5 with rfl | rfl | rfl | rfl | rfl <;> decide +kernel
    have HW : Aside0 ((if freeN l0 < ((2 ^ a1.toNat : Nat) : Int) then -1 else b) = r) := ⟨by simpa using hw⟩
    have HSH := Aside0.mk hsh
    generalize 2 ^ a1.toNat = s at HW HSH q2
    clear hw hb h0 hk q1 q2 hsh
    go_enter Try.func27, Try.ntmps27
    go_wp2_with (go_at_call 42; refine HC.out.mono ?_; rintro e w' ⟨rfl, hb'⟩)
    have HB := Aside0.mk hb'
    clear hb'
    go_loopg [6, 16] l0.length (fun gg s6 s16 wr => ∃ kk : Nat, kk ≤ l0.length ∧ l0.length - kk ≤ gg ∧ s16 = .int .i64 kk ∧ s6 = .int .i64 (freeN (l0.take kk)) ∧ Aside0 (Below w.heap.size w wr))
    case atStart => exact ⟨0, Nat.zero_le _, by omega, rfl, rfl, HB⟩
    case round =>
      clear HB
      obtain ⟨kk, hkk, hg, rfl, rfl, BW⟩ := hrel
      have hbd := freeN_bd (l0.take kk)
      have hle : (l0.take kk).length ≤ kk := List.length_take_le _ _
      by_cases hlt : kk < l0.length
      · have hltz : (kk : Int) < (l0.length : Int) := by omega
        obtain ⟨ad, e0, hx0⟩ := Kd.at_int (Kd.C_below HR.out BW.out) (kk : Int) (by omega) hltz
        cases e0
        simp only [Int.toNat_natCast] at hx0
        have hs := freeN_take l0 kk hlt
        by_cases c0 : rd l0 kk = 0
        · have c0b : (rd l0 kk == 0) = true := beq_iff_eq.2 c0
          rw [if_pos c0] at hs
          have HS := Aside0.mk hs
          clear hs c0
          generalize freeN (List.take kk l0) = n at hbd HS
          go_wp2
          go_roundg (l0.length - (kk + 1))
          case measure => omega
          case rel => exact ⟨kk + 1, by omega, by omega, by go_num, by rw [HS.out], BW⟩
        · have c0b : (rd l0 kk == 0) = false := beq_eq_false_iff_ne.2 c0
          rw [if_neg c0] at hs
          have HS := Aside0.mk hs
          clear hs c0
          generalize freeN (List.take kk l0) = n at hbd HS
          go_wp2
          go_roundg (l0.length - (kk + 1))
          case measure => omega
          case rel => exact ⟨kk + 1, by omega, by omega, by go_num, by rw [HS.out]; simp, BW⟩
      · have hltz : ¬ (kk : Int) < (l0.length : Int) := by omega
        have : kk = l0.length := by omega
        subst this
        have HT : Aside0 (freeN (l0.take l0.length) = freeN l0) := ⟨by rw [List.take_length]⟩
        rw [HT.out] at hbd ⊢
        by_cases c1 : freeN l0 < (s : Int)
        · have c1b : decide (freeN l0 < wrap64 (2 ^ a1.toNat)) = true := by rw [HSH.out]; exact decide_eq_true c1
          obtain rfl : r = -1 := by rw [← HW.out, if_pos c1]
          clear c1 HW
          generalize freeN l0 = n at hbd c1b HT ⊢
          go_wp2
          go_ret
          exact ⟨rfl, BW.out⟩
        · have c1b : decide (freeN l0 < wrap64 (2 ^ a1.toNat)) = false := by rw [HSH.out]; exact decide_eq_false c1
          obtain rfl : r = b := by rw [← HW.out, if_neg c1]
          clear c1 HW
          generalize freeN l0 = n at hbd c1b HT ⊢
          go_wp2
          go_ret
          exact ⟨rfl, BW.out⟩
end Go.Proofs.Ytollapjmibkpfaa.X
