/- Plain laws of chapter 11: the contents of the device, by the program and by the reference. -/
import Derived.Test.YtghmkmpgfpkfmaaPn
import Derived.Test.YtghmkmpgfpkfmaaDs
import Derived.Test.YtghmkmpgfpkfmaaX44
import Derived.Test.YtghmkmpgfpkfmaaX45
import Derived.Test.YtghmkmpgfpkfmaaX46
namespace Go.Proofs.Ytghmkmpgfpkfmaa.X
open Go.RowKit Go.Proofs.YtghmkmpgfpkfmaaW.PrintWords
theorem chR_len (l0 : List (List Int)) (l : List S38) (b : Nat) : (chR l0 l b).length ≤ l.length + 2 := by
  unfold chR
  have := dedL_len ([uptoN l0 l (flE l l.length) b, uptoN l0 l l.length b] ++ wrR l b 0) []
  have h2 : (wrR l b 0).length ≤ l.length := by unfold wrR; rw [List.length_map, List.drop_zero]; exact List.length_filter_le _ _
  simp only [List.length_append, List.length_cons, List.length_nil] at this
  omega
theorem allN_len (l0 : List (List Int)) (l : List S38) (n : Nat) : (allN l0 l n).length = l0.length := by unfold allN; rw [List.length_map, List.length_range]
theorem latest_ev (l0 : List (List Int)) (l : List S38) (h0 : l0.length ≤ 1000000) (hl : l.length ≤ 1000000) : Ev (fun k => estoversref11_Latest.f k l0 l) (if checkE l0 l = 0 then (allN l0 l l.length, 0) else ([], checkE l0 l)) := by
  unfold estoversref11_Latest.f
  refine Ev.bind (check_ev l0 l h0 hl) ?_
  by_cases c : checkE l0 l = 0
  · rw [if_pos c]
    exact Ev.pos c (Ev.bind (all_ev (ok_of c) h0 hl l.length (by omega)) (Ev.now _))
  · rw [if_neg c]; exact Ev.neg c (Ev.now _)
theorem durable_ev (l0 : List (List Int)) (l : List S38) (h0 : l0.length ≤ 1000000) (hl : l.length ≤ 1000000) : Ev (fun k => estoversref11_Durable.f k l0 l) (if checkE l0 l = 0 then (allN l0 l (flE l l.length), 0) else ([], checkE l0 l)) := by
  unfold estoversref11_Durable.f
  refine Ev.bind (check_ev l0 l h0 hl) ?_
  by_cases c : checkE l0 l = 0
  · rw [if_pos c]
    exact Ev.pos c (Ev.bind (fl_ev l hl) (Ev.bind (all_ev (ok_of c) h0 hl _ (flE_le l l.length)) (Ev.now _)))
  · rw [if_neg c]; exact Ev.neg c (Ev.now _)
def chA (l0 : List (List Int)) (l : List S38) (b : Int) : List (List Int) × Int := if checkE l0 l = 0 then (if b < 0 ∨ (l0.length : Int) ≤ b then ([], 2) else (chR l0 l b.toNat, 0)) else ([], checkE l0 l)
theorem choicesR_val (l0 : List (List Int)) (l : List S38) (b : Int) (h0 : l0.length ≤ 1000000) (hl : l.length ≤ 900000) (c : checkE l0 l = 0) (b0 : 0 ≤ b) (b1 : b < l0.length) : estoversref11_choices.f l0 l b = some (chR l0 l b.toNat) := by
  unfold estoversref11_choices.f; rw [if_pos ⟨h0, hl, c, b0, b1⟩]
theorem choices_ev (l0 : List (List Int)) (l : List S38) (h0 : l0.length ≤ 1000000) (hl : l.length ≤ 900000) (b : Int) : Ev (fun k => estoversref11_Choices.f k l0 l b) (chA l0 l b) := by
  unfold estoversref11_Choices.f chA
  refine Ev.bind (check_ev l0 l h0 (by omega)) ?_
  by_cases c : checkE l0 l = 0
  · refine Ev.to (if_pos c) (Ev.pos c ?_)
    by_cases d : b < 0
    · exact Ev.to (if_pos (Or.inl d)) (Ev.pos d (Ev.now _))
    · refine Ev.neg d ?_
      by_cases e : (l0.length : Int) ≤ b
      · exact Ev.to (if_pos (Or.inr e)) (Ev.pos e (Ev.now _))
      · exact Ev.to (if_neg (fun q => q.elim d e)) (Ev.neg e (Ev.had (choicesR_val l0 l b h0 hl c (by omega) (by omega)) (Ev.now _)))
  · exact Ev.to (if_neg c) (Ev.neg c (Ev.now _))
theorem latest_val (l0 : List (List Int)) (l : List S38) (h0 : l0.length ≤ 1000000) (hl : l.length ≤ 1000000) : durable_Latest.f l0 l = some (if checkE l0 l = 0 then (allN l0 l l.length, 0) else ([], checkE l0 l)) := by
  unfold durable_Latest.f
  rw [if_pos ⟨h0, hl⟩, (after_iv l0 l).1]
  by_cases c : checkE l0 l = 0
  · rw [if_neg (show ¬ checkE l0 l ≠ 0 from fun q => q c), if_pos c, latest_all (ok_of c)]
  · rw [if_pos (show checkE l0 l ≠ 0 from c), if_neg c]
theorem durable_val (l0 : List (List Int)) (l : List S38) (h0 : l0.length ≤ 1000000) (hl : l.length ≤ 1000000) : durable_Durable.f l0 l = some (if checkE l0 l = 0 then (allN l0 l (flE l l.length), 0) else ([], checkE l0 l)) := by
  unfold durable_Durable.f
  rw [if_pos ⟨h0, hl⟩, (after_iv l0 l).1]
  by_cases c : checkE l0 l = 0
  · rw [if_neg (show ¬ checkE l0 l ≠ 0 from fun q => q c), if_pos c, firm_all (ok_of c)]
  · rw [if_pos (show checkE l0 l ≠ 0 from c), if_neg c]
theorem choices_val (l0 : List (List Int)) (l : List S38) (h0 : l0.length ≤ 1000000) (hl : l.length ≤ 900000) (b : Int) : durable_Choices.f l0 l b = some (chA l0 l b) := by
  unfold durable_Choices.f chA
  rw [if_pos ⟨h0, hl⟩, (after_iv l0 l).1]
  by_cases c : checkE l0 l = 0
  · rw [if_neg (show ¬ checkE l0 l ≠ 0 from fun q => q c), if_pos c]
    by_cases d : b < 0 ∨ (l0.length : Int) ≤ b
    · rw [if_pos d, if_pos d]
    · rw [if_neg d, if_neg d]
      obtain ⟨n, rfl⟩ : ∃ n : Nat, b = n := ⟨b.toNat, by omega⟩
      rw [choices_same (ok_of c) n (by omega), Int.toNat_natCast]
  · rw [if_pos (show checkE l0 l ≠ 0 from c), if_neg c]
end Go.Proofs.Ytghmkmpgfpkfmaa.X
