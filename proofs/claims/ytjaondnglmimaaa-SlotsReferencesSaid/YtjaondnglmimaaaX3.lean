-- Written for this claim by a program of this session (wip/px.py) with the kit's print; the contracts of GIVEN functions are proved by hand.
import Derived.Test.YtjaondnglmimaaaX0
import Derived.Test.YtjaondnglmimaaaX2
import Derived.Test.YtjaondnglmimaaaGiven
namespace Go.Proofs.Ytjaondnglmimaaa.X
open Go.RowKit Go.Proofs.YtjaondnglmimaaaW.PrintWords Go.Proofs.YtjaondnglmimaaaW.PrintLast Go.Proofs.YtjaondnglmimaaaW.PrintMore
attribute [local go_sem] max2_int min2_int max_two min_two max_three min_three max_four min_four   -- for this text's walks alone
set_option linter.unusedVariables false
set_option linter.unusedSimpArgs false

/-! ### estoverslaw32_awake: function 9 -/
def estoverslaw32_awake.j0 : Nat → Int → Int → List (S41) → Bool → List (S41) → Bool → List (S41) → Bool → List (S41) → Bool → Option (Bool)
  | 0, _, _, _, _, _, _, _, _, _, _ => none
  | k + 1, x4, x7, x11, x14, x16, x17, x19, x20, x22, x24 => if x24 = true then (if x4 = 0 then (if x7 = 1 then (if (x11.length : Int) = 3 then (if 0 < (x11.length : Int) then (if ((rd_T41 x11 0).f1) = 2 then (if ((rd_T41 x11 0).f0) = 1 then (if x14 = true then (some false) else (if x17 = true then ((slots_IsFree.f x16 0).bind fun t152 => (if t152 = true then (if x20 = true then (some false) else ((slots_Used.f k x19).bind fun t153 => (if t153 = 1 then ((slots_Used.f k x22).bind fun t154 => (if t154 = 0 then ((slots_Check.f x19).bind fun t155 => (some (t155 == 0))) else (some false))) else (some false)))) else (some false))) else (some false))) else (some false)) else (some false)) else (none)) else (some false)) else (some false)) else (some false)) else (some false)
def estoverslaw32_awake.f (k : Nat)  : Option (Bool) := (slots_New.f 3).bind fun bt109 => ((slots_Alloc.f bt109.1).bind fun bt113 => ((slots_Alloc.f bt113.1).bind fun bt118 => ((slots_Dup.f bt113.1 0).bind fun bt123 => ((slots_Dup.f bt123.1 0).bind fun bt127 => ((slots_Drop.f bt127.1 0 false).bind fun bt131 => ((slots_Drop.f bt131.1 0 false).bind fun bt136 => ((slots_Drop.f bt131.1 0 true).bind fun bt141 => ((slots_Release.f bt141.1 0).bind fun bt146 => (if bt109.2 = 0 then (if bt113.2.2 = 0 then (if bt118.2.2 = 0 then (if bt123.2 = 0 then (if bt127.2 = 0 then (if bt131.2.2 = 0 then (if bt136.2.2 = 0 then (if bt141.2.2 = 0 then (estoverslaw32_awake.j0 k bt113.2.1 bt118.2.1 bt127.1 bt131.2.1 bt136.1 bt136.2.1 bt141.1 bt141.2.1 bt146.1 (bt146.2 == 0)) else (estoverslaw32_awake.j0 k bt113.2.1 bt118.2.1 bt127.1 bt131.2.1 bt136.1 bt136.2.1 bt141.1 bt141.2.1 bt146.1 false)) else (estoverslaw32_awake.j0 k bt113.2.1 bt118.2.1 bt127.1 bt131.2.1 bt136.1 bt136.2.1 bt141.1 bt141.2.1 bt146.1 false)) else (estoverslaw32_awake.j0 k bt113.2.1 bt118.2.1 bt127.1 bt131.2.1 bt136.1 bt136.2.1 bt141.1 bt141.2.1 bt146.1 false)) else (estoverslaw32_awake.j0 k bt113.2.1 bt118.2.1 bt127.1 bt131.2.1 bt136.1 bt136.2.1 bt141.1 bt141.2.1 bt146.1 false)) else (estoverslaw32_awake.j0 k bt113.2.1 bt118.2.1 bt127.1 bt131.2.1 bt136.1 bt136.2.1 bt141.1 bt141.2.1 bt146.1 false)) else (estoverslaw32_awake.j0 k bt113.2.1 bt118.2.1 bt127.1 bt131.2.1 bt136.1 bt136.2.1 bt141.1 bt141.2.1 bt146.1 false)) else (estoverslaw32_awake.j0 k bt113.2.1 bt118.2.1 bt127.1 bt131.2.1 bt136.1 bt136.2.1 bt141.1 bt141.2.1 bt146.1 false)) else (estoverslaw32_awake.j0 k bt113.2.1 bt118.2.1 bt127.1 bt131.2.1 bt136.1 bt136.2.1 bt141.1 bt141.2.1 bt146.1 false))))))))))
theorem estoverslaw32_awake.mono_l : ∀ k, (∀ y0 y1 y2 y3 y4 y5 y6 y7 y8 y9, LeO (estoverslaw32_awake.j0 k y0 y1 y2 y3 y4 y5 y6 y7 y8 y9) (estoverslaw32_awake.j0 (k + 1) y0 y1 y2 y3 y4 y5 y6 y7 y8 y9))
  | 0 => fun _ _ _ _ _ _ _ _ _ _ r h => by simp [estoverslaw32_awake.j0] at h
  | k + 1 => by
    have ih0 := estoverslaw32_awake.mono_l k
    · intro y0 y1 y2 y3 y4 y5 y6 y7 y8 y9
      unfold estoverslaw32_awake.j0
      repeat' first
      | (with_reducible exact ih0 _ _ _ _ _ _ _ _ _ _)
      | (with_reducible exact slots_Used.mono _ _)
      | (with_reducible exact LeO.refl _)
      | (with_reducible exact LeO.none _)
      | (with_reducible refine LeO.ite ?_ ?_)
      | (with_reducible refine LeO.bind ?_ (fun _ => ?_))
      | exact ih0 _ _ _ _ _ _ _ _ _ _
      | exact slots_Used.mono _ _
      | exact LeO.none _
      | refine LeO.ite ?_ ?_
      | refine LeO.bind ?_ (fun _ => ?_)
theorem estoverslaw32_awake.mono : ∀ k, LeO (estoverslaw32_awake.f k ) (estoverslaw32_awake.f (k + 1) ) := by
  intro  k
  have ih0 := estoverslaw32_awake.mono_l k
  unfold estoverslaw32_awake.f
  repeat' first
      | (with_reducible exact ih0 _ _ _ _ _ _ _ _ _ _)
      | (with_reducible exact slots_Used.mono _ _)
      | (with_reducible exact LeO.refl _)
      | (with_reducible exact LeO.none _)
      | (with_reducible refine LeO.ite ?_ ?_)
      | (with_reducible refine LeO.bind ?_ (fun _ => ?_))
      | exact ih0 _ _ _ _ _ _ _ _ _ _
      | exact slots_Used.mono _ _
      | exact LeO.none _
      | refine LeO.ite ?_ ?_
      | refine LeO.bind ?_ (fun _ => ?_)
set_option maxHeartbeats 8000000 in
set_option maxRecDepth 100000 in
theorem estoverslaw32_awake.calls (k : Nat)  (r : Bool) (w : World) (h : estoverslaw32_awake.f k  = some r) :
    Calls Try.prog 9 #[] w fun e w' => e = .returned (.bool r) ∧ Below w.heap.size w w' := by
  have HB := Aside0.mk (Below.refl w.heap.size w)
  have H : ((slots_New.f 3).bind fun bt109 => ((slots_Alloc.f bt109.1).bind fun bt113 => ((slots_Alloc.f bt113.1).bind fun bt118 => ((slots_Dup.f bt113.1 0).bind fun bt123 => ((slots_Dup.f bt123.1 0).bind fun bt127 => ((slots_Drop.f bt127.1 0 false).bind fun bt131 => ((slots_Drop.f bt131.1 0 false).bind fun bt136 => ((slots_Drop.f bt131.1 0 true).bind fun bt141 => ((slots_Release.f bt141.1 0).bind fun bt146 => (if bt109.2 = 0 then (if bt113.2.2 = 0 then (if bt118.2.2 = 0 then (if bt123.2 = 0 then (if bt127.2 = 0 then (if bt131.2.2 = 0 then (if bt136.2.2 = 0 then (if bt141.2.2 = 0 then (estoverslaw32_awake.j0 k bt113.2.1 bt118.2.1 bt127.1 bt131.2.1 bt136.1 bt136.2.1 bt141.1 bt141.2.1 bt146.1 (bt146.2 == 0)) else (estoverslaw32_awake.j0 k bt113.2.1 bt118.2.1 bt127.1 bt131.2.1 bt136.1 bt136.2.1 bt141.1 bt141.2.1 bt146.1 false)) else (estoverslaw32_awake.j0 k bt113.2.1 bt118.2.1 bt127.1 bt131.2.1 bt136.1 bt136.2.1 bt141.1 bt141.2.1 bt146.1 false)) else (estoverslaw32_awake.j0 k bt113.2.1 bt118.2.1 bt127.1 bt131.2.1 bt136.1 bt136.2.1 bt141.1 bt141.2.1 bt146.1 false)) else (estoverslaw32_awake.j0 k bt113.2.1 bt118.2.1 bt127.1 bt131.2.1 bt136.1 bt136.2.1 bt141.1 bt141.2.1 bt146.1 false)) else (estoverslaw32_awake.j0 k bt113.2.1 bt118.2.1 bt127.1 bt131.2.1 bt136.1 bt136.2.1 bt141.1 bt141.2.1 bt146.1 false)) else (estoverslaw32_awake.j0 k bt113.2.1 bt118.2.1 bt127.1 bt131.2.1 bt136.1 bt136.2.1 bt141.1 bt141.2.1 bt146.1 false)) else (estoverslaw32_awake.j0 k bt113.2.1 bt118.2.1 bt127.1 bt131.2.1 bt136.1 bt136.2.1 bt141.1 bt141.2.1 bt146.1 false)) else (estoverslaw32_awake.j0 k bt113.2.1 bt118.2.1 bt127.1 bt131.2.1 bt136.1 bt136.2.1 bt141.1 bt141.2.1 bt146.1 false))))))))))) = some r := h
  clear h
  replace H := Option.bind_eq_some_iff.mp H
  obtain ⟨⟨t109, t110⟩, A10, H⟩ := H
  replace H : ((slots_Alloc.f t109).bind fun bt113 => ((slots_Alloc.f bt113.1).bind fun bt118 => ((slots_Dup.f bt113.1 0).bind fun bt123 => ((slots_Dup.f bt123.1 0).bind fun bt127 => ((slots_Drop.f bt127.1 0 false).bind fun bt131 => ((slots_Drop.f bt131.1 0 false).bind fun bt136 => ((slots_Drop.f bt131.1 0 true).bind fun bt141 => ((slots_Release.f bt141.1 0).bind fun bt146 => (if t110 = 0 then (if bt113.2.2 = 0 then (if bt118.2.2 = 0 then (if bt123.2 = 0 then (if bt127.2 = 0 then (if bt131.2.2 = 0 then (if bt136.2.2 = 0 then (if bt141.2.2 = 0 then (estoverslaw32_awake.j0 k bt113.2.1 bt118.2.1 bt127.1 bt131.2.1 bt136.1 bt136.2.1 bt141.1 bt141.2.1 bt146.1 (bt146.2 == 0)) else (estoverslaw32_awake.j0 k bt113.2.1 bt118.2.1 bt127.1 bt131.2.1 bt136.1 bt136.2.1 bt141.1 bt141.2.1 bt146.1 false)) else (estoverslaw32_awake.j0 k bt113.2.1 bt118.2.1 bt127.1 bt131.2.1 bt136.1 bt136.2.1 bt141.1 bt141.2.1 bt146.1 false)) else (estoverslaw32_awake.j0 k bt113.2.1 bt118.2.1 bt127.1 bt131.2.1 bt136.1 bt136.2.1 bt141.1 bt141.2.1 bt146.1 false)) else (estoverslaw32_awake.j0 k bt113.2.1 bt118.2.1 bt127.1 bt131.2.1 bt136.1 bt136.2.1 bt141.1 bt141.2.1 bt146.1 false)) else (estoverslaw32_awake.j0 k bt113.2.1 bt118.2.1 bt127.1 bt131.2.1 bt136.1 bt136.2.1 bt141.1 bt141.2.1 bt146.1 false)) else (estoverslaw32_awake.j0 k bt113.2.1 bt118.2.1 bt127.1 bt131.2.1 bt136.1 bt136.2.1 bt141.1 bt141.2.1 bt146.1 false)) else (estoverslaw32_awake.j0 k bt113.2.1 bt118.2.1 bt127.1 bt131.2.1 bt136.1 bt136.2.1 bt141.1 bt141.2.1 bt146.1 false)) else (estoverslaw32_awake.j0 k bt113.2.1 bt118.2.1 bt127.1 bt131.2.1 bt136.1 bt136.2.1 bt141.1 bt141.2.1 bt146.1 false)))))))))) = some r := H
  have A1 := Aside0.mk A10
  clear A10
  replace H := Option.bind_eq_some_iff.mp H
  obtain ⟨⟨t113, t114, t115⟩, A20, H⟩ := H
  replace H : ((slots_Alloc.f t113).bind fun bt118 => ((slots_Dup.f t113 0).bind fun bt123 => ((slots_Dup.f bt123.1 0).bind fun bt127 => ((slots_Drop.f bt127.1 0 false).bind fun bt131 => ((slots_Drop.f bt131.1 0 false).bind fun bt136 => ((slots_Drop.f bt131.1 0 true).bind fun bt141 => ((slots_Release.f bt141.1 0).bind fun bt146 => (if t110 = 0 then (if t115 = 0 then (if bt118.2.2 = 0 then (if bt123.2 = 0 then (if bt127.2 = 0 then (if bt131.2.2 = 0 then (if bt136.2.2 = 0 then (if bt141.2.2 = 0 then (estoverslaw32_awake.j0 k t114 bt118.2.1 bt127.1 bt131.2.1 bt136.1 bt136.2.1 bt141.1 bt141.2.1 bt146.1 (bt146.2 == 0)) else (estoverslaw32_awake.j0 k t114 bt118.2.1 bt127.1 bt131.2.1 bt136.1 bt136.2.1 bt141.1 bt141.2.1 bt146.1 false)) else (estoverslaw32_awake.j0 k t114 bt118.2.1 bt127.1 bt131.2.1 bt136.1 bt136.2.1 bt141.1 bt141.2.1 bt146.1 false)) else (estoverslaw32_awake.j0 k t114 bt118.2.1 bt127.1 bt131.2.1 bt136.1 bt136.2.1 bt141.1 bt141.2.1 bt146.1 false)) else (estoverslaw32_awake.j0 k t114 bt118.2.1 bt127.1 bt131.2.1 bt136.1 bt136.2.1 bt141.1 bt141.2.1 bt146.1 false)) else (estoverslaw32_awake.j0 k t114 bt118.2.1 bt127.1 bt131.2.1 bt136.1 bt136.2.1 bt141.1 bt141.2.1 bt146.1 false)) else (estoverslaw32_awake.j0 k t114 bt118.2.1 bt127.1 bt131.2.1 bt136.1 bt136.2.1 bt141.1 bt141.2.1 bt146.1 false)) else (estoverslaw32_awake.j0 k t114 bt118.2.1 bt127.1 bt131.2.1 bt136.1 bt136.2.1 bt141.1 bt141.2.1 bt146.1 false)) else (estoverslaw32_awake.j0 k t114 bt118.2.1 bt127.1 bt131.2.1 bt136.1 bt136.2.1 bt141.1 bt141.2.1 bt146.1 false))))))))) = some r := H
  have A2 := Aside0.mk A20
  clear A20
  replace H := Option.bind_eq_some_iff.mp H
  obtain ⟨⟨t118, t119, t120⟩, A30, H⟩ := H
  replace H : ((slots_Dup.f t113 0).bind fun bt123 => ((slots_Dup.f bt123.1 0).bind fun bt127 => ((slots_Drop.f bt127.1 0 false).bind fun bt131 => ((slots_Drop.f bt131.1 0 false).bind fun bt136 => ((slots_Drop.f bt131.1 0 true).bind fun bt141 => ((slots_Release.f bt141.1 0).bind fun bt146 => (if t110 = 0 then (if t115 = 0 then (if t120 = 0 then (if bt123.2 = 0 then (if bt127.2 = 0 then (if bt131.2.2 = 0 then (if bt136.2.2 = 0 then (if bt141.2.2 = 0 then (estoverslaw32_awake.j0 k t114 t119 bt127.1 bt131.2.1 bt136.1 bt136.2.1 bt141.1 bt141.2.1 bt146.1 (bt146.2 == 0)) else (estoverslaw32_awake.j0 k t114 t119 bt127.1 bt131.2.1 bt136.1 bt136.2.1 bt141.1 bt141.2.1 bt146.1 false)) else (estoverslaw32_awake.j0 k t114 t119 bt127.1 bt131.2.1 bt136.1 bt136.2.1 bt141.1 bt141.2.1 bt146.1 false)) else (estoverslaw32_awake.j0 k t114 t119 bt127.1 bt131.2.1 bt136.1 bt136.2.1 bt141.1 bt141.2.1 bt146.1 false)) else (estoverslaw32_awake.j0 k t114 t119 bt127.1 bt131.2.1 bt136.1 bt136.2.1 bt141.1 bt141.2.1 bt146.1 false)) else (estoverslaw32_awake.j0 k t114 t119 bt127.1 bt131.2.1 bt136.1 bt136.2.1 bt141.1 bt141.2.1 bt146.1 false)) else (estoverslaw32_awake.j0 k t114 t119 bt127.1 bt131.2.1 bt136.1 bt136.2.1 bt141.1 bt141.2.1 bt146.1 false)) else (estoverslaw32_awake.j0 k t114 t119 bt127.1 bt131.2.1 bt136.1 bt136.2.1 bt141.1 bt141.2.1 bt146.1 false)) else (estoverslaw32_awake.j0 k t114 t119 bt127.1 bt131.2.1 bt136.1 bt136.2.1 bt141.1 bt141.2.1 bt146.1 false)))))))) = some r := H
  have A3 := Aside0.mk A30
  clear A30
  replace H := Option.bind_eq_some_iff.mp H
  obtain ⟨⟨t123, t124⟩, A40, H⟩ := H
  replace H : ((slots_Dup.f t123 0).bind fun bt127 => ((slots_Drop.f bt127.1 0 false).bind fun bt131 => ((slots_Drop.f bt131.1 0 false).bind fun bt136 => ((slots_Drop.f bt131.1 0 true).bind fun bt141 => ((slots_Release.f bt141.1 0).bind fun bt146 => (if t110 = 0 then (if t115 = 0 then (if t120 = 0 then (if t124 = 0 then (if bt127.2 = 0 then (if bt131.2.2 = 0 then (if bt136.2.2 = 0 then (if bt141.2.2 = 0 then (estoverslaw32_awake.j0 k t114 t119 bt127.1 bt131.2.1 bt136.1 bt136.2.1 bt141.1 bt141.2.1 bt146.1 (bt146.2 == 0)) else (estoverslaw32_awake.j0 k t114 t119 bt127.1 bt131.2.1 bt136.1 bt136.2.1 bt141.1 bt141.2.1 bt146.1 false)) else (estoverslaw32_awake.j0 k t114 t119 bt127.1 bt131.2.1 bt136.1 bt136.2.1 bt141.1 bt141.2.1 bt146.1 false)) else (estoverslaw32_awake.j0 k t114 t119 bt127.1 bt131.2.1 bt136.1 bt136.2.1 bt141.1 bt141.2.1 bt146.1 false)) else (estoverslaw32_awake.j0 k t114 t119 bt127.1 bt131.2.1 bt136.1 bt136.2.1 bt141.1 bt141.2.1 bt146.1 false)) else (estoverslaw32_awake.j0 k t114 t119 bt127.1 bt131.2.1 bt136.1 bt136.2.1 bt141.1 bt141.2.1 bt146.1 false)) else (estoverslaw32_awake.j0 k t114 t119 bt127.1 bt131.2.1 bt136.1 bt136.2.1 bt141.1 bt141.2.1 bt146.1 false)) else (estoverslaw32_awake.j0 k t114 t119 bt127.1 bt131.2.1 bt136.1 bt136.2.1 bt141.1 bt141.2.1 bt146.1 false)) else (estoverslaw32_awake.j0 k t114 t119 bt127.1 bt131.2.1 bt136.1 bt136.2.1 bt141.1 bt141.2.1 bt146.1 false))))))) = some r := H
  have A4 := Aside0.mk A40
  clear A40
  replace H := Option.bind_eq_some_iff.mp H
  obtain ⟨⟨t127, t128⟩, A50, H⟩ := H
  replace H : ((slots_Drop.f t127 0 false).bind fun bt131 => ((slots_Drop.f bt131.1 0 false).bind fun bt136 => ((slots_Drop.f bt131.1 0 true).bind fun bt141 => ((slots_Release.f bt141.1 0).bind fun bt146 => (if t110 = 0 then (if t115 = 0 then (if t120 = 0 then (if t124 = 0 then (if t128 = 0 then (if bt131.2.2 = 0 then (if bt136.2.2 = 0 then (if bt141.2.2 = 0 then (estoverslaw32_awake.j0 k t114 t119 t127 bt131.2.1 bt136.1 bt136.2.1 bt141.1 bt141.2.1 bt146.1 (bt146.2 == 0)) else (estoverslaw32_awake.j0 k t114 t119 t127 bt131.2.1 bt136.1 bt136.2.1 bt141.1 bt141.2.1 bt146.1 false)) else (estoverslaw32_awake.j0 k t114 t119 t127 bt131.2.1 bt136.1 bt136.2.1 bt141.1 bt141.2.1 bt146.1 false)) else (estoverslaw32_awake.j0 k t114 t119 t127 bt131.2.1 bt136.1 bt136.2.1 bt141.1 bt141.2.1 bt146.1 false)) else (estoverslaw32_awake.j0 k t114 t119 t127 bt131.2.1 bt136.1 bt136.2.1 bt141.1 bt141.2.1 bt146.1 false)) else (estoverslaw32_awake.j0 k t114 t119 t127 bt131.2.1 bt136.1 bt136.2.1 bt141.1 bt141.2.1 bt146.1 false)) else (estoverslaw32_awake.j0 k t114 t119 t127 bt131.2.1 bt136.1 bt136.2.1 bt141.1 bt141.2.1 bt146.1 false)) else (estoverslaw32_awake.j0 k t114 t119 t127 bt131.2.1 bt136.1 bt136.2.1 bt141.1 bt141.2.1 bt146.1 false)) else (estoverslaw32_awake.j0 k t114 t119 t127 bt131.2.1 bt136.1 bt136.2.1 bt141.1 bt141.2.1 bt146.1 false)))))) = some r := H
  have A5 := Aside0.mk A50
  clear A50
  replace H := Option.bind_eq_some_iff.mp H
  obtain ⟨⟨t131, t132, t133⟩, A60, H⟩ := H
  replace H : ((slots_Drop.f t131 0 false).bind fun bt136 => ((slots_Drop.f t131 0 true).bind fun bt141 => ((slots_Release.f bt141.1 0).bind fun bt146 => (if t110 = 0 then (if t115 = 0 then (if t120 = 0 then (if t124 = 0 then (if t128 = 0 then (if t133 = 0 then (if bt136.2.2 = 0 then (if bt141.2.2 = 0 then (estoverslaw32_awake.j0 k t114 t119 t127 t132 bt136.1 bt136.2.1 bt141.1 bt141.2.1 bt146.1 (bt146.2 == 0)) else (estoverslaw32_awake.j0 k t114 t119 t127 t132 bt136.1 bt136.2.1 bt141.1 bt141.2.1 bt146.1 false)) else (estoverslaw32_awake.j0 k t114 t119 t127 t132 bt136.1 bt136.2.1 bt141.1 bt141.2.1 bt146.1 false)) else (estoverslaw32_awake.j0 k t114 t119 t127 t132 bt136.1 bt136.2.1 bt141.1 bt141.2.1 bt146.1 false)) else (estoverslaw32_awake.j0 k t114 t119 t127 t132 bt136.1 bt136.2.1 bt141.1 bt141.2.1 bt146.1 false)) else (estoverslaw32_awake.j0 k t114 t119 t127 t132 bt136.1 bt136.2.1 bt141.1 bt141.2.1 bt146.1 false)) else (estoverslaw32_awake.j0 k t114 t119 t127 t132 bt136.1 bt136.2.1 bt141.1 bt141.2.1 bt146.1 false)) else (estoverslaw32_awake.j0 k t114 t119 t127 t132 bt136.1 bt136.2.1 bt141.1 bt141.2.1 bt146.1 false)) else (estoverslaw32_awake.j0 k t114 t119 t127 t132 bt136.1 bt136.2.1 bt141.1 bt141.2.1 bt146.1 false))))) = some r := H
  have A6 := Aside0.mk A60
  clear A60
  replace H := Option.bind_eq_some_iff.mp H
  obtain ⟨⟨t136, t137, t138⟩, A70, H⟩ := H
  replace H : ((slots_Drop.f t131 0 true).bind fun bt141 => ((slots_Release.f bt141.1 0).bind fun bt146 => (if t110 = 0 then (if t115 = 0 then (if t120 = 0 then (if t124 = 0 then (if t128 = 0 then (if t133 = 0 then (if t138 = 0 then (if bt141.2.2 = 0 then (estoverslaw32_awake.j0 k t114 t119 t127 t132 t136 t137 bt141.1 bt141.2.1 bt146.1 (bt146.2 == 0)) else (estoverslaw32_awake.j0 k t114 t119 t127 t132 t136 t137 bt141.1 bt141.2.1 bt146.1 false)) else (estoverslaw32_awake.j0 k t114 t119 t127 t132 t136 t137 bt141.1 bt141.2.1 bt146.1 false)) else (estoverslaw32_awake.j0 k t114 t119 t127 t132 t136 t137 bt141.1 bt141.2.1 bt146.1 false)) else (estoverslaw32_awake.j0 k t114 t119 t127 t132 t136 t137 bt141.1 bt141.2.1 bt146.1 false)) else (estoverslaw32_awake.j0 k t114 t119 t127 t132 t136 t137 bt141.1 bt141.2.1 bt146.1 false)) else (estoverslaw32_awake.j0 k t114 t119 t127 t132 t136 t137 bt141.1 bt141.2.1 bt146.1 false)) else (estoverslaw32_awake.j0 k t114 t119 t127 t132 t136 t137 bt141.1 bt141.2.1 bt146.1 false)) else (estoverslaw32_awake.j0 k t114 t119 t127 t132 t136 t137 bt141.1 bt141.2.1 bt146.1 false)))) = some r := H
  have A7 := Aside0.mk A70
  clear A70
  replace H := Option.bind_eq_some_iff.mp H
  obtain ⟨⟨t141, t142, t143⟩, A80, H⟩ := H
  replace H : ((slots_Release.f t141 0).bind fun bt146 => (if t110 = 0 then (if t115 = 0 then (if t120 = 0 then (if t124 = 0 then (if t128 = 0 then (if t133 = 0 then (if t138 = 0 then (if t143 = 0 then (estoverslaw32_awake.j0 k t114 t119 t127 t132 t136 t137 t141 t142 bt146.1 (bt146.2 == 0)) else (estoverslaw32_awake.j0 k t114 t119 t127 t132 t136 t137 t141 t142 bt146.1 false)) else (estoverslaw32_awake.j0 k t114 t119 t127 t132 t136 t137 t141 t142 bt146.1 false)) else (estoverslaw32_awake.j0 k t114 t119 t127 t132 t136 t137 t141 t142 bt146.1 false)) else (estoverslaw32_awake.j0 k t114 t119 t127 t132 t136 t137 t141 t142 bt146.1 false)) else (estoverslaw32_awake.j0 k t114 t119 t127 t132 t136 t137 t141 t142 bt146.1 false)) else (estoverslaw32_awake.j0 k t114 t119 t127 t132 t136 t137 t141 t142 bt146.1 false)) else (estoverslaw32_awake.j0 k t114 t119 t127 t132 t136 t137 t141 t142 bt146.1 false)) else (estoverslaw32_awake.j0 k t114 t119 t127 t132 t136 t137 t141 t142 bt146.1 false))) = some r := H
  have A8 := Aside0.mk A80
  clear A80
  replace H := Option.bind_eq_some_iff.mp H
  obtain ⟨⟨t146, t147⟩, A90, H⟩ := H
  replace H : (if t110 = 0 then (if t115 = 0 then (if t120 = 0 then (if t124 = 0 then (if t128 = 0 then (if t133 = 0 then (if t138 = 0 then (if t143 = 0 then (estoverslaw32_awake.j0 k t114 t119 t127 t132 t136 t137 t141 t142 t146 (t147 == 0)) else (estoverslaw32_awake.j0 k t114 t119 t127 t132 t136 t137 t141 t142 t146 false)) else (estoverslaw32_awake.j0 k t114 t119 t127 t132 t136 t137 t141 t142 t146 false)) else (estoverslaw32_awake.j0 k t114 t119 t127 t132 t136 t137 t141 t142 t146 false)) else (estoverslaw32_awake.j0 k t114 t119 t127 t132 t136 t137 t141 t142 t146 false)) else (estoverslaw32_awake.j0 k t114 t119 t127 t132 t136 t137 t141 t142 t146 false)) else (estoverslaw32_awake.j0 k t114 t119 t127 t132 t136 t137 t141 t142 t146 false)) else (estoverslaw32_awake.j0 k t114 t119 t127 t132 t136 t137 t141 t142 t146 false)) else (estoverslaw32_awake.j0 k t114 t119 t127 t132 t136 t137 t141 t142 t146 false)) = some r := H
  have A9 := Aside0.mk A90
  clear A90
  have HC10 := Aside0.mk H
  clear H
  go_enter Try.func9, Try.ntmps9
  go_upto_region 10 with (first | ((with_reducible refine gate_callee (f := 10) rfl ?_); refine goesL_ (some 26) rfl rfl Try.func10 (by kernel_rfl) rfl #[.int .i64 3] rfl (by (try simp only [List.map_toArray, List.map_cons, List.map_nil]); first | done | rfl | (simp only [List.length_drop, List.length_take]; rfl)) ?_; (with_reducible refine (slots_New.calls 3 t109 t110 _ A1.out).mono ?_); rintro e w11 ⟨v111, rfl, ho0, hb⟩; refine ⟨_, rfl, ?_⟩; have n0_ := Aside0.mk (Kd.R_lower ho0 (below_size (by repeat (first | (with_reducible first | exact HB.out | apply below_alloc | apply pw_below_drewN | apply below_drew1) | exact HB.out)))); have n1_ := Aside0.mk (below_step (by repeat (first | (with_reducible first | exact HB.out | apply below_alloc | apply pw_below_drewN | apply below_drew1) | exact HB.out)) hb); clear HB; have HO112 := n0_; have HB := n1_; clear n0_ n1_; (try clear hb); (try clear hb2); (try clear hk); (try clear hi); (try clear ho0); obtain ⟨Ao12, co12, eo12⟩ := Kd.R_slice HO112.out; subst eo12) | ((with_reducible refine gate_callee (f := 19) rfl ?_); refine goesL_ (some 31) rfl rfl Try.func19 (by kernel_rfl) rfl #[.slice Ao12 t109.length co12] rfl (by (try simp only [List.map_toArray, List.map_cons, List.map_nil]); first | done | rfl | (simp only [List.length_drop, List.length_take]; rfl)) ?_; (with_reducible refine (slots_Alloc.calls _ _ t109 t113 t114 t115 _ ?side1 ?side2 A2.out).mono ?_); (case side1 => repeat (first | exact (Kd.R_reads' HO112.out).2.2 | (with_reducible refine Kd.C_alloc ?_ _) | (with_reducible refine Kd.C_drewN ?_ _) | (with_reducible refine Kd.C_drew ?_))); (case side2 => exact (Kd.R_reads' HO112.out).2.1); rintro e w13 ⟨v116, rfl, ho0, hb⟩; refine ⟨_, rfl, ?_⟩; have n0_ := Aside0.mk (Kd.R_elder' (by (with_reducible repeat (first | apply Kd.R_alloc | apply Kd.R_drewN | apply Kd.R_drew)); exact HO112.out) (Kd.R_base ho0) hb); have n1_ := Aside0.mk (Kd.R_lower (Kd.R_new' ho0 (Kd.R_lt (by (with_reducible repeat (first | apply Kd.R_alloc | apply Kd.R_drewN | apply Kd.R_drew)); exact HO112.out))) (below_size (by repeat (first | (with_reducible first | exact HB.out | apply below_alloc | apply pw_below_drewN | apply below_drew1) | exact HB.out)))); have n2_ := Aside0.mk (below_step (by repeat (first | (with_reducible first | exact HB.out | apply below_alloc | apply pw_below_drewN | apply below_drew1) | exact HB.out)) hb); clear HO112; clear HB; have HO112 := n0_; have HO117 := n1_; have HB := n2_; clear n0_ n1_ n2_; (try clear hb); (try clear hb2); (try clear hk); (try clear hi); (try clear ho0); obtain ⟨Ao14, co14, eo14⟩ := Kd.R_slice HO117.out; subst eo14) | ((with_reducible refine gate_callee (f := 19) rfl ?_); refine goesL_ (some 37) rfl rfl Try.func19 (by kernel_rfl) rfl #[.slice Ao14 t113.length co14] rfl (by (try simp only [List.map_toArray, List.map_cons, List.map_nil]); first | done | rfl | (simp only [List.length_drop, List.length_take]; rfl)) ?_; (with_reducible refine (slots_Alloc.calls _ _ t113 t118 t119 t120 _ ?side1 ?side2 A3.out).mono ?_); (case side1 => repeat (first | exact (Kd.R_reads' HO117.out).2.2 | (with_reducible refine Kd.C_alloc ?_ _) | (with_reducible refine Kd.C_drewN ?_ _) | (with_reducible refine Kd.C_drew ?_))); (case side2 => exact (Kd.R_reads' HO117.out).2.1); rintro e w15 ⟨v121, rfl, ho0, hb⟩; refine ⟨_, rfl, ?_⟩; have n0_ := Aside0.mk (Kd.R_elder' (by (with_reducible repeat (first | apply Kd.R_alloc | apply Kd.R_drewN | apply Kd.R_drew)); exact HO112.out) (Kd.R_base ho0) hb); have n1_ := Aside0.mk (Kd.R_elder' (by (with_reducible repeat (first | apply Kd.R_alloc | apply Kd.R_drewN | apply Kd.R_drew)); exact HO117.out) (Kd.R_base ho0) hb); have n2_ := Aside0.mk (Kd.R_lower (Kd.R_new' (Kd.R_new' ho0 (Kd.R_lt (by (with_reducible repeat (first | apply Kd.R_alloc | apply Kd.R_drewN | apply Kd.R_drew)); exact HO112.out))) (Kd.R_lt (by (with_reducible repeat (first | apply Kd.R_alloc | apply Kd.R_drewN | apply Kd.R_drew)); exact HO117.out))) (below_size (by repeat (first | (with_reducible first | exact HB.out | apply below_alloc | apply pw_below_drewN | apply below_drew1) | exact HB.out)))); have n3_ := Aside0.mk (below_step (by repeat (first | (with_reducible first | exact HB.out | apply below_alloc | apply pw_below_drewN | apply below_drew1) | exact HB.out)) hb); clear HO112; clear HO117; clear HB; have HO112 := n0_; have HO117 := n1_; have HO122 := n2_; have HB := n3_; clear n0_ n1_ n2_ n3_; (try clear hb); (try clear hb2); (try clear hk); (try clear hi); (try clear ho0)) | ((with_reducible refine gate_callee (f := 20) rfl ?_); refine goesL_ (some 43) rfl rfl Try.func20 (by kernel_rfl) rfl #[.slice Ao14 t113.length co14, .int .i64 0] rfl (by (try simp only [List.map_toArray, List.map_cons, List.map_nil]); first | done | rfl | (simp only [List.length_drop, List.length_take]; rfl)) ?_; (with_reducible refine (slots_Dup.calls _ _ t113 0 t123 t124 _ ?side1 ?side2 A4.out).mono ?_); (case side1 => repeat (first | exact (Kd.R_reads' HO117.out).2.2 | (with_reducible refine Kd.C_alloc ?_ _) | (with_reducible refine Kd.C_drewN ?_ _) | (with_reducible refine Kd.C_drew ?_))); (case side2 => exact (Kd.R_reads' HO117.out).2.1); rintro e w16 ⟨v125, rfl, ho0, hb⟩; refine ⟨_, rfl, ?_⟩; have n0_ := Aside0.mk (Kd.R_elder' (by (with_reducible repeat (first | apply Kd.R_alloc | apply Kd.R_drewN | apply Kd.R_drew)); exact HO112.out) (Kd.R_base ho0) hb); have n1_ := Aside0.mk (Kd.R_elder' (by (with_reducible repeat (first | apply Kd.R_alloc | apply Kd.R_drewN | apply Kd.R_drew)); exact HO117.out) (Kd.R_base ho0) hb); have n2_ := Aside0.mk (Kd.R_elder' (by (with_reducible repeat (first | apply Kd.R_alloc | apply Kd.R_drewN | apply Kd.R_drew)); exact HO122.out) (Kd.R_base ho0) hb); have n3_ := Aside0.mk (Kd.R_lower (Kd.R_new' (Kd.R_new' (Kd.R_new' ho0 (Kd.R_lt (by (with_reducible repeat (first | apply Kd.R_alloc | apply Kd.R_drewN | apply Kd.R_drew)); exact HO112.out))) (Kd.R_lt (by (with_reducible repeat (first | apply Kd.R_alloc | apply Kd.R_drewN | apply Kd.R_drew)); exact HO117.out))) (Kd.R_lt (by (with_reducible repeat (first | apply Kd.R_alloc | apply Kd.R_drewN | apply Kd.R_drew)); exact HO122.out))) (below_size (by repeat (first | (with_reducible first | exact HB.out | apply below_alloc | apply pw_below_drewN | apply below_drew1) | exact HB.out)))); have n4_ := Aside0.mk (below_step (by repeat (first | (with_reducible first | exact HB.out | apply below_alloc | apply pw_below_drewN | apply below_drew1) | exact HB.out)) hb); clear HO112; clear HO117; clear HO122; clear HB; have HO112 := n0_; have HO117 := n1_; have HO122 := n2_; have HO126 := n3_; have HB := n4_; clear n0_ n1_ n2_ n3_ n4_; (try clear hb); (try clear hb2); (try clear hk); (try clear hi); (try clear ho0); obtain ⟨Ao17, co17, eo17⟩ := Kd.R_slice HO126.out; subst eo17) | ((with_reducible refine gate_callee (f := 20) rfl ?_); refine goesL_ (some 48) rfl rfl Try.func20 (by kernel_rfl) rfl #[.slice Ao17 t123.length co17, .int .i64 0] rfl (by (try simp only [List.map_toArray, List.map_cons, List.map_nil]); first | done | rfl | (simp only [List.length_drop, List.length_take]; rfl)) ?_; (with_reducible refine (slots_Dup.calls _ _ t123 0 t127 t128 _ ?side1 ?side2 A5.out).mono ?_); (case side1 => repeat (first | exact (Kd.R_reads' HO126.out).2.2 | (with_reducible refine Kd.C_alloc ?_ _) | (with_reducible refine Kd.C_drewN ?_ _) | (with_reducible refine Kd.C_drew ?_))); (case side2 => exact (Kd.R_reads' HO126.out).2.1); rintro e w18 ⟨v129, rfl, ho0, hb⟩; refine ⟨_, rfl, ?_⟩; have n0_ := Aside0.mk (Kd.R_elder' (by (with_reducible repeat (first | apply Kd.R_alloc | apply Kd.R_drewN | apply Kd.R_drew)); exact HO112.out) (Kd.R_base ho0) hb); have n1_ := Aside0.mk (Kd.R_elder' (by (with_reducible repeat (first | apply Kd.R_alloc | apply Kd.R_drewN | apply Kd.R_drew)); exact HO117.out) (Kd.R_base ho0) hb); have n2_ := Aside0.mk (Kd.R_elder' (by (with_reducible repeat (first | apply Kd.R_alloc | apply Kd.R_drewN | apply Kd.R_drew)); exact HO122.out) (Kd.R_base ho0) hb); have n3_ := Aside0.mk (Kd.R_elder' (by (with_reducible repeat (first | apply Kd.R_alloc | apply Kd.R_drewN | apply Kd.R_drew)); exact HO126.out) (Kd.R_base ho0) hb); have n4_ := Aside0.mk (Kd.R_lower (Kd.R_new' (Kd.R_new' (Kd.R_new' (Kd.R_new' ho0 (Kd.R_lt (by (with_reducible repeat (first | apply Kd.R_alloc | apply Kd.R_drewN | apply Kd.R_drew)); exact HO112.out))) (Kd.R_lt (by (with_reducible repeat (first | apply Kd.R_alloc | apply Kd.R_drewN | apply Kd.R_drew)); exact HO117.out))) (Kd.R_lt (by (with_reducible repeat (first | apply Kd.R_alloc | apply Kd.R_drewN | apply Kd.R_drew)); exact HO122.out))) (Kd.R_lt (by (with_reducible repeat (first | apply Kd.R_alloc | apply Kd.R_drewN | apply Kd.R_drew)); exact HO126.out))) (below_size (by repeat (first | (with_reducible first | exact HB.out | apply below_alloc | apply pw_below_drewN | apply below_drew1) | exact HB.out)))); have n5_ := Aside0.mk (below_step (by repeat (first | (with_reducible first | exact HB.out | apply below_alloc | apply pw_below_drewN | apply below_drew1) | exact HB.out)) hb); clear HO112; clear HO117; clear HO122; clear HO126; clear HB; have HO112 := n0_; have HO117 := n1_; have HO122 := n2_; have HO126 := n3_; have HO130 := n4_; have HB := n5_; clear n0_ n1_ n2_ n3_ n4_ n5_; (try clear hb); (try clear hb2); (try clear hk); (try clear hi); (try clear ho0); obtain ⟨Ao19, co19, eo19⟩ := Kd.R_slice HO130.out; subst eo19) | ((with_reducible refine gate_callee (f := 21) rfl ?_); refine goesL_ (some 53) rfl rfl Try.func21 (by kernel_rfl) rfl #[.slice Ao19 t127.length co19, .int .i64 0, .bool false] rfl (by (try simp only [List.map_toArray, List.map_cons, List.map_nil]); first | done | rfl | (simp only [List.length_drop, List.length_take]; rfl)) ?_; (with_reducible refine (slots_Drop.calls _ _ t127 0 false t131 t132 t133 _ ?side1 ?side2 A6.out).mono ?_); (case side1 => repeat (first | exact (Kd.R_reads' HO130.out).2.2 | (with_reducible refine Kd.C_alloc ?_ _) | (with_reducible refine Kd.C_drewN ?_ _) | (with_reducible refine Kd.C_drew ?_))); (case side2 => exact (Kd.R_reads' HO130.out).2.1); rintro e w20 ⟨v134, rfl, ho0, hb⟩; refine ⟨_, rfl, ?_⟩; have n0_ := Aside0.mk (Kd.R_elder' (by (with_reducible repeat (first | apply Kd.R_alloc | apply Kd.R_drewN | apply Kd.R_drew)); exact HO112.out) (Kd.R_base ho0) hb); have n1_ := Aside0.mk (Kd.R_elder' (by (with_reducible repeat (first | apply Kd.R_alloc | apply Kd.R_drewN | apply Kd.R_drew)); exact HO117.out) (Kd.R_base ho0) hb); have n2_ := Aside0.mk (Kd.R_elder' (by (with_reducible repeat (first | apply Kd.R_alloc | apply Kd.R_drewN | apply Kd.R_drew)); exact HO122.out) (Kd.R_base ho0) hb); have n3_ := Aside0.mk (Kd.R_elder' (by (with_reducible repeat (first | apply Kd.R_alloc | apply Kd.R_drewN | apply Kd.R_drew)); exact HO126.out) (Kd.R_base ho0) hb); have n4_ := Aside0.mk (Kd.R_elder' (by (with_reducible repeat (first | apply Kd.R_alloc | apply Kd.R_drewN | apply Kd.R_drew)); exact HO130.out) (Kd.R_base ho0) hb); have n5_ := Aside0.mk (Kd.R_lower (Kd.R_new' (Kd.R_new' (Kd.R_new' (Kd.R_new' (Kd.R_new' ho0 (Kd.R_lt (by (with_reducible repeat (first | apply Kd.R_alloc | apply Kd.R_drewN | apply Kd.R_drew)); exact HO112.out))) (Kd.R_lt (by (with_reducible repeat (first | apply Kd.R_alloc | apply Kd.R_drewN | apply Kd.R_drew)); exact HO117.out))) (Kd.R_lt (by (with_reducible repeat (first | apply Kd.R_alloc | apply Kd.R_drewN | apply Kd.R_drew)); exact HO122.out))) (Kd.R_lt (by (with_reducible repeat (first | apply Kd.R_alloc | apply Kd.R_drewN | apply Kd.R_drew)); exact HO126.out))) (Kd.R_lt (by (with_reducible repeat (first | apply Kd.R_alloc | apply Kd.R_drewN | apply Kd.R_drew)); exact HO130.out))) (below_size (by repeat (first | (with_reducible first | exact HB.out | apply below_alloc | apply pw_below_drewN | apply below_drew1) | exact HB.out)))); have n6_ := Aside0.mk (below_step (by repeat (first | (with_reducible first | exact HB.out | apply below_alloc | apply pw_below_drewN | apply below_drew1) | exact HB.out)) hb); clear HO112; clear HO117; clear HO122; clear HO126; clear HO130; clear HB; have HO112 := n0_; have HO117 := n1_; have HO122 := n2_; have HO126 := n3_; have HO130 := n4_; have HO135 := n5_; have HB := n6_; clear n0_ n1_ n2_ n3_ n4_ n5_ n6_; (try clear hb); (try clear hb2); (try clear hk); (try clear hi); (try clear ho0); obtain ⟨Ao21, co21, eo21⟩ := Kd.R_slice HO135.out; subst eo21) | ((with_reducible refine gate_callee (f := 21) rfl ?_); refine goesL_ (some 59) rfl rfl Try.func21 (by kernel_rfl) rfl #[.slice Ao21 t131.length co21, .int .i64 0, .bool false] rfl (by (try simp only [List.map_toArray, List.map_cons, List.map_nil]); first | done | rfl | (simp only [List.length_drop, List.length_take]; rfl)) ?_; (with_reducible refine (slots_Drop.calls _ _ t131 0 false t136 t137 t138 _ ?side1 ?side2 A7.out).mono ?_); (case side1 => repeat (first | exact (Kd.R_reads' HO135.out).2.2 | (with_reducible refine Kd.C_alloc ?_ _) | (with_reducible refine Kd.C_drewN ?_ _) | (with_reducible refine Kd.C_drew ?_))); (case side2 => exact (Kd.R_reads' HO135.out).2.1); rintro e w22 ⟨v139, rfl, ho0, hb⟩; refine ⟨_, rfl, ?_⟩; have n0_ := Aside0.mk (Kd.R_elder' (by (with_reducible repeat (first | apply Kd.R_alloc | apply Kd.R_drewN | apply Kd.R_drew)); exact HO112.out) (Kd.R_base ho0) hb); have n1_ := Aside0.mk (Kd.R_elder' (by (with_reducible repeat (first | apply Kd.R_alloc | apply Kd.R_drewN | apply Kd.R_drew)); exact HO117.out) (Kd.R_base ho0) hb); have n2_ := Aside0.mk (Kd.R_elder' (by (with_reducible repeat (first | apply Kd.R_alloc | apply Kd.R_drewN | apply Kd.R_drew)); exact HO122.out) (Kd.R_base ho0) hb); have n3_ := Aside0.mk (Kd.R_elder' (by (with_reducible repeat (first | apply Kd.R_alloc | apply Kd.R_drewN | apply Kd.R_drew)); exact HO126.out) (Kd.R_base ho0) hb); have n4_ := Aside0.mk (Kd.R_elder' (by (with_reducible repeat (first | apply Kd.R_alloc | apply Kd.R_drewN | apply Kd.R_drew)); exact HO130.out) (Kd.R_base ho0) hb); have n5_ := Aside0.mk (Kd.R_elder' (by (with_reducible repeat (first | apply Kd.R_alloc | apply Kd.R_drewN | apply Kd.R_drew)); exact HO135.out) (Kd.R_base ho0) hb); have n6_ := Aside0.mk (Kd.R_lower (Kd.R_new' (Kd.R_new' (Kd.R_new' (Kd.R_new' (Kd.R_new' (Kd.R_new' ho0 (Kd.R_lt (by (with_reducible repeat (first | apply Kd.R_alloc | apply Kd.R_drewN | apply Kd.R_drew)); exact HO112.out))) (Kd.R_lt (by (with_reducible repeat (first | apply Kd.R_alloc | apply Kd.R_drewN | apply Kd.R_drew)); exact HO117.out))) (Kd.R_lt (by (with_reducible repeat (first | apply Kd.R_alloc | apply Kd.R_drewN | apply Kd.R_drew)); exact HO122.out))) (Kd.R_lt (by (with_reducible repeat (first | apply Kd.R_alloc | apply Kd.R_drewN | apply Kd.R_drew)); exact HO126.out))) (Kd.R_lt (by (with_reducible repeat (first | apply Kd.R_alloc | apply Kd.R_drewN | apply Kd.R_drew)); exact HO130.out))) (Kd.R_lt (by (with_reducible repeat (first | apply Kd.R_alloc | apply Kd.R_drewN | apply Kd.R_drew)); exact HO135.out))) (below_size (by repeat (first | (with_reducible first | exact HB.out | apply below_alloc | apply pw_below_drewN | apply below_drew1) | exact HB.out)))); have n7_ := Aside0.mk (below_step (by repeat (first | (with_reducible first | exact HB.out | apply below_alloc | apply pw_below_drewN | apply below_drew1) | exact HB.out)) hb); clear HO112; clear HO117; clear HO122; clear HO126; clear HO130; clear HO135; clear HB; have HO112 := n0_; have HO117 := n1_; have HO122 := n2_; have HO126 := n3_; have HO130 := n4_; have HO135 := n5_; have HO140 := n6_; have HB := n7_; clear n0_ n1_ n2_ n3_ n4_ n5_ n6_ n7_; (try clear hb); (try clear hb2); (try clear hk); (try clear hi); (try clear ho0)) | ((with_reducible refine gate_callee (f := 21) rfl ?_); refine goesL_ (some 65) rfl rfl Try.func21 (by kernel_rfl) rfl #[.slice Ao21 t131.length co21, .int .i64 0, .bool true] rfl (by (try simp only [List.map_toArray, List.map_cons, List.map_nil]); first | done | rfl | (simp only [List.length_drop, List.length_take]; rfl)) ?_; (with_reducible refine (slots_Drop.calls _ _ t131 0 true t141 t142 t143 _ ?side1 ?side2 A8.out).mono ?_); (case side1 => repeat (first | exact (Kd.R_reads' HO135.out).2.2 | (with_reducible refine Kd.C_alloc ?_ _) | (with_reducible refine Kd.C_drewN ?_ _) | (with_reducible refine Kd.C_drew ?_))); (case side2 => exact (Kd.R_reads' HO135.out).2.1); rintro e w23 ⟨v144, rfl, ho0, hb⟩; refine ⟨_, rfl, ?_⟩; have n0_ := Aside0.mk (Kd.R_elder' (by (with_reducible repeat (first | apply Kd.R_alloc | apply Kd.R_drewN | apply Kd.R_drew)); exact HO112.out) (Kd.R_base ho0) hb); have n1_ := Aside0.mk (Kd.R_elder' (by (with_reducible repeat (first | apply Kd.R_alloc | apply Kd.R_drewN | apply Kd.R_drew)); exact HO117.out) (Kd.R_base ho0) hb); have n2_ := Aside0.mk (Kd.R_elder' (by (with_reducible repeat (first | apply Kd.R_alloc | apply Kd.R_drewN | apply Kd.R_drew)); exact HO122.out) (Kd.R_base ho0) hb); have n3_ := Aside0.mk (Kd.R_elder' (by (with_reducible repeat (first | apply Kd.R_alloc | apply Kd.R_drewN | apply Kd.R_drew)); exact HO126.out) (Kd.R_base ho0) hb); have n4_ := Aside0.mk (Kd.R_elder' (by (with_reducible repeat (first | apply Kd.R_alloc | apply Kd.R_drewN | apply Kd.R_drew)); exact HO130.out) (Kd.R_base ho0) hb); have n5_ := Aside0.mk (Kd.R_elder' (by (with_reducible repeat (first | apply Kd.R_alloc | apply Kd.R_drewN | apply Kd.R_drew)); exact HO135.out) (Kd.R_base ho0) hb); have n6_ := Aside0.mk (Kd.R_elder' (by (with_reducible repeat (first | apply Kd.R_alloc | apply Kd.R_drewN | apply Kd.R_drew)); exact HO140.out) (Kd.R_base ho0) hb); have n7_ := Aside0.mk (Kd.R_lower (Kd.R_new' (Kd.R_new' (Kd.R_new' (Kd.R_new' (Kd.R_new' (Kd.R_new' (Kd.R_new' ho0 (Kd.R_lt (by (with_reducible repeat (first | apply Kd.R_alloc | apply Kd.R_drewN | apply Kd.R_drew)); exact HO112.out))) (Kd.R_lt (by (with_reducible repeat (first | apply Kd.R_alloc | apply Kd.R_drewN | apply Kd.R_drew)); exact HO117.out))) (Kd.R_lt (by (with_reducible repeat (first | apply Kd.R_alloc | apply Kd.R_drewN | apply Kd.R_drew)); exact HO122.out))) (Kd.R_lt (by (with_reducible repeat (first | apply Kd.R_alloc | apply Kd.R_drewN | apply Kd.R_drew)); exact HO126.out))) (Kd.R_lt (by (with_reducible repeat (first | apply Kd.R_alloc | apply Kd.R_drewN | apply Kd.R_drew)); exact HO130.out))) (Kd.R_lt (by (with_reducible repeat (first | apply Kd.R_alloc | apply Kd.R_drewN | apply Kd.R_drew)); exact HO135.out))) (Kd.R_lt (by (with_reducible repeat (first | apply Kd.R_alloc | apply Kd.R_drewN | apply Kd.R_drew)); exact HO140.out))) (below_size (by repeat (first | (with_reducible first | exact HB.out | apply below_alloc | apply pw_below_drewN | apply below_drew1) | exact HB.out)))); have n8_ := Aside0.mk (below_step (by repeat (first | (with_reducible first | exact HB.out | apply below_alloc | apply pw_below_drewN | apply below_drew1) | exact HB.out)) hb); clear HO112; clear HO117; clear HO122; clear HO126; clear HO130; clear HO135; clear HO140; clear HB; have HO112 := n0_; have HO117 := n1_; have HO122 := n2_; have HO126 := n3_; have HO130 := n4_; have HO135 := n5_; have HO140 := n6_; have HO145 := n7_; have HB := n8_; clear n0_ n1_ n2_ n3_ n4_ n5_ n6_ n7_ n8_; (try clear hb); (try clear hb2); (try clear hk); (try clear hi); (try clear ho0); obtain ⟨Ao24, co24, eo24⟩ := Kd.R_slice HO145.out; subst eo24) | ((with_reducible refine gate_callee (f := 22) rfl ?_); refine goesL_ (some 71) rfl rfl Try.func22 (by kernel_rfl) rfl #[.slice Ao24 t141.length co24, .int .i64 0] rfl (by (try simp only [List.map_toArray, List.map_cons, List.map_nil]); first | done | rfl | (simp only [List.length_drop, List.length_take]; rfl)) ?_; (with_reducible refine (slots_Release.calls _ _ t141 0 t146 t147 _ ?side1 ?side2 A9.out).mono ?_); (case side1 => repeat (first | exact (Kd.R_reads' HO145.out).2.2 | (with_reducible refine Kd.C_alloc ?_ _) | (with_reducible refine Kd.C_drewN ?_ _) | (with_reducible refine Kd.C_drew ?_))); (case side2 => exact (Kd.R_reads' HO145.out).2.1); rintro e w25 ⟨v148, rfl, ho0, hb⟩; refine ⟨_, rfl, ?_⟩; have n0_ := Aside0.mk (Kd.R_elder' (by (with_reducible repeat (first | apply Kd.R_alloc | apply Kd.R_drewN | apply Kd.R_drew)); exact HO112.out) (Kd.R_base ho0) hb); have n1_ := Aside0.mk (Kd.R_elder' (by (with_reducible repeat (first | apply Kd.R_alloc | apply Kd.R_drewN | apply Kd.R_drew)); exact HO117.out) (Kd.R_base ho0) hb); have n2_ := Aside0.mk (Kd.R_elder' (by (with_reducible repeat (first | apply Kd.R_alloc | apply Kd.R_drewN | apply Kd.R_drew)); exact HO122.out) (Kd.R_base ho0) hb); have n3_ := Aside0.mk (Kd.R_elder' (by (with_reducible repeat (first | apply Kd.R_alloc | apply Kd.R_drewN | apply Kd.R_drew)); exact HO126.out) (Kd.R_base ho0) hb); have n4_ := Aside0.mk (Kd.R_elder' (by (with_reducible repeat (first | apply Kd.R_alloc | apply Kd.R_drewN | apply Kd.R_drew)); exact HO130.out) (Kd.R_base ho0) hb); have n5_ := Aside0.mk (Kd.R_elder' (by (with_reducible repeat (first | apply Kd.R_alloc | apply Kd.R_drewN | apply Kd.R_drew)); exact HO135.out) (Kd.R_base ho0) hb); have n6_ := Aside0.mk (Kd.R_elder' (by (with_reducible repeat (first | apply Kd.R_alloc | apply Kd.R_drewN | apply Kd.R_drew)); exact HO140.out) (Kd.R_base ho0) hb); have n7_ := Aside0.mk (Kd.R_elder' (by (with_reducible repeat (first | apply Kd.R_alloc | apply Kd.R_drewN | apply Kd.R_drew)); exact HO145.out) (Kd.R_base ho0) hb); have n8_ := Aside0.mk (Kd.R_lower (Kd.R_new' (Kd.R_new' (Kd.R_new' (Kd.R_new' (Kd.R_new' (Kd.R_new' (Kd.R_new' (Kd.R_new' ho0 (Kd.R_lt (by (with_reducible repeat (first | apply Kd.R_alloc | apply Kd.R_drewN | apply Kd.R_drew)); exact HO112.out))) (Kd.R_lt (by (with_reducible repeat (first | apply Kd.R_alloc | apply Kd.R_drewN | apply Kd.R_drew)); exact HO117.out))) (Kd.R_lt (by (with_reducible repeat (first | apply Kd.R_alloc | apply Kd.R_drewN | apply Kd.R_drew)); exact HO122.out))) (Kd.R_lt (by (with_reducible repeat (first | apply Kd.R_alloc | apply Kd.R_drewN | apply Kd.R_drew)); exact HO126.out))) (Kd.R_lt (by (with_reducible repeat (first | apply Kd.R_alloc | apply Kd.R_drewN | apply Kd.R_drew)); exact HO130.out))) (Kd.R_lt (by (with_reducible repeat (first | apply Kd.R_alloc | apply Kd.R_drewN | apply Kd.R_drew)); exact HO135.out))) (Kd.R_lt (by (with_reducible repeat (first | apply Kd.R_alloc | apply Kd.R_drewN | apply Kd.R_drew)); exact HO140.out))) (Kd.R_lt (by (with_reducible repeat (first | apply Kd.R_alloc | apply Kd.R_drewN | apply Kd.R_drew)); exact HO145.out))) (below_size (by repeat (first | (with_reducible first | exact HB.out | apply below_alloc | apply pw_below_drewN | apply below_drew1) | exact HB.out)))); have n9_ := Aside0.mk (below_step (by repeat (first | (with_reducible first | exact HB.out | apply below_alloc | apply pw_below_drewN | apply below_drew1) | exact HB.out)) hb); clear HO112; clear HO117; clear HO122; clear HO126; clear HO130; clear HO135; clear HO140; clear HO145; clear HB; have HO112 := n0_; have HO117 := n1_; have HO122 := n2_; have HO126 := n3_; have HO130 := n4_; have HO135 := n5_; have HO140 := n6_; have HO145 := n7_; have HO149 := n8_; have HB := n9_; clear n0_ n1_ n2_ n3_ n4_ n5_ n6_ n7_ n8_ n9_; (try clear hb); (try clear hb2); (try clear hk); (try clear hi); (try clear ho0)))
  (try simp only [Act.put, List.setIfInBounds_toArray, List.set_cons_zero, List.set_cons_succ])
  go_cut [24] (fun v24 wc => ∃ (kq : Nat) (x24_9 : Bool), v24 = .bool x24_9 ∧ Aside0 (estoverslaw32_awake.j0 kq t114 t119 t127 t132 t136 t137 t141 t142 t146 x24_9 = some r) ∧ Aside0 (kq ≤ k) ∧ Aside0 (Kd.R k41 41 wc w.heap.size (fun k_ => some k_ ≠ (v139 : Value).ownBlock ∧ some k_ ≠ ((.slice Ao24 t141.length co24) : Value).ownBlock ∧ some k_ ≠ (v148 : Value).ownBlock) (.slice Ao19 t127.length co19) t127) ∧ Aside0 (Kd.R k41 41 wc w.heap.size (fun k_ => some k_ ≠ ((.slice Ao19 t127.length co19) : Value).ownBlock ∧ some k_ ≠ ((.slice Ao24 t141.length co24) : Value).ownBlock ∧ some k_ ≠ (v148 : Value).ownBlock) v139 t136) ∧ Aside0 (Kd.R k41 41 wc w.heap.size (fun k_ => some k_ ≠ ((.slice Ao19 t127.length co19) : Value).ownBlock ∧ some k_ ≠ (v139 : Value).ownBlock ∧ some k_ ≠ (v148 : Value).ownBlock) (.slice Ao24 t141.length co24) t141) ∧ Aside0 (Kd.R k41 41 wc w.heap.size (fun k_ => some k_ ≠ ((.slice Ao19 t127.length co19) : Value).ownBlock ∧ some k_ ≠ (v139 : Value).ownBlock ∧ some k_ ≠ ((.slice Ao24 t141.length co24) : Value).ownBlock) v148 t146) ∧ Aside0 (Below w.heap.size w wc))
  case first =>
    have H := HC10.out
    clear HC10
    by_cases c26 : t110 = 0
    · rw [if_pos c26] at H
      have c26b0 : (t110 == 0) = true := beq_iff_eq.mpr c26
      have c26b1 : (t110 != 0) = false := bne_eq_false_iff_eq.mpr c26
      clear c26
      (first | rw [c26b0] | (simp only [i64_w, i32_w]; rw [c26b0]) | skip)
      by_cases c27 : t115 = 0
      · rw [if_pos c27] at H
        have c27b0 : (t115 == 0) = true := beq_iff_eq.mpr c27
        have c27b1 : (t115 != 0) = false := bne_eq_false_iff_eq.mpr c27
        clear c27
        by_cases c28 : t120 = 0
        · rw [if_pos c28] at H
          have c28b0 : (t120 == 0) = true := beq_iff_eq.mpr c28
          have c28b1 : (t120 != 0) = false := bne_eq_false_iff_eq.mpr c28
          clear c28
          by_cases c29 : t124 = 0
          · rw [if_pos c29] at H
            have c29b0 : (t124 == 0) = true := beq_iff_eq.mpr c29
            have c29b1 : (t124 != 0) = false := bne_eq_false_iff_eq.mpr c29
            clear c29
            by_cases c30 : t128 = 0
            · rw [if_pos c30] at H
              have c30b0 : (t128 == 0) = true := beq_iff_eq.mpr c30
              have c30b1 : (t128 != 0) = false := bne_eq_false_iff_eq.mpr c30
              clear c30
              by_cases c31 : t133 = 0
              · rw [if_pos c31] at H
                have c31b0 : (t133 == 0) = true := beq_iff_eq.mpr c31
                have c31b1 : (t133 != 0) = false := bne_eq_false_iff_eq.mpr c31
                clear c31
                by_cases c32 : t138 = 0
                · rw [if_pos c32] at H
                  have c32b0 : (t138 == 0) = true := beq_iff_eq.mpr c32
                  have c32b1 : (t138 != 0) = false := bne_eq_false_iff_eq.mpr c32
                  clear c32
                  by_cases c33 : t143 = 0
                  · rw [if_pos c33] at H
                    have c33b0 : (t143 == 0) = true := beq_iff_eq.mpr c33
                    have c33b1 : (t143 != 0) = false := bne_eq_false_iff_eq.mpr c33
                    clear c33
                    have H' := Aside0.mk H
                    clear H
                    go_wp2
                    go_meet
                    case rel => exact ⟨_, ((t147 == 0)), (by first | rfl | (simp; done) | (simp [*]; done)), H', ⟨by first | omega | exact Nat.le_refl _⟩, ⟨by (with_reducible repeat (first | apply Kd.R_alloc | apply Kd.R_drewN | apply Kd.R_drew)); exact Kd.R_mono HO130.out (fun _ hk => ⟨hk.1.1.2, ⟨hk.1.2, hk.2⟩⟩)⟩, ⟨by (with_reducible repeat (first | apply Kd.R_alloc | apply Kd.R_drewN | apply Kd.R_drew)); exact Kd.R_mono HO140.out (fun _ hk => ⟨hk.1.1.1.2, ⟨hk.1.2, hk.2⟩⟩)⟩, ⟨by (with_reducible repeat (first | apply Kd.R_alloc | apply Kd.R_drewN | apply Kd.R_drew)); exact Kd.R_mono HO145.out (fun _ hk => ⟨hk.1.1.1.2, ⟨hk.1.2, hk.2⟩⟩)⟩, ⟨by (with_reducible repeat (first | apply Kd.R_alloc | apply Kd.R_drewN | apply Kd.R_drew)); exact Kd.R_mono HO149.out (fun _ hk => ⟨hk.1.1.1.2, ⟨hk.1.2, hk.2⟩⟩)⟩, ⟨by repeat (first | (with_reducible first | exact HB.out | apply below_alloc | apply pw_below_drewN | apply below_drew1) | exact HB.out)⟩⟩
                  · rw [if_neg c33] at H
                    have c33b0 : (t143 == 0) = false := beq_eq_false_iff_ne.mpr c33
                    have c33b1 : (t143 != 0) = true := bne_iff_ne.mpr c33
                    have H' := Aside0.mk H
                    clear H
                    go_wp2
                    go_meet
                    case rel => exact ⟨_, (false), (by first | rfl | (simp; done) | (simp [*]; done)), H', ⟨by first | omega | exact Nat.le_refl _⟩, ⟨by (with_reducible repeat (first | apply Kd.R_alloc | apply Kd.R_drewN | apply Kd.R_drew)); exact Kd.R_mono HO130.out (fun _ hk => ⟨hk.1.1.2, ⟨hk.1.2, hk.2⟩⟩)⟩, ⟨by (with_reducible repeat (first | apply Kd.R_alloc | apply Kd.R_drewN | apply Kd.R_drew)); exact Kd.R_mono HO140.out (fun _ hk => ⟨hk.1.1.1.2, ⟨hk.1.2, hk.2⟩⟩)⟩, ⟨by (with_reducible repeat (first | apply Kd.R_alloc | apply Kd.R_drewN | apply Kd.R_drew)); exact Kd.R_mono HO145.out (fun _ hk => ⟨hk.1.1.1.2, ⟨hk.1.2, hk.2⟩⟩)⟩, ⟨by (with_reducible repeat (first | apply Kd.R_alloc | apply Kd.R_drewN | apply Kd.R_drew)); exact Kd.R_mono HO149.out (fun _ hk => ⟨hk.1.1.1.2, ⟨hk.1.2, hk.2⟩⟩)⟩, ⟨by repeat (first | (with_reducible first | exact HB.out | apply below_alloc | apply pw_below_drewN | apply below_drew1) | exact HB.out)⟩⟩
                · rw [if_neg c32] at H
                  have c32b0 : (t138 == 0) = false := beq_eq_false_iff_ne.mpr c32
                  have c32b1 : (t138 != 0) = true := bne_iff_ne.mpr c32
                  have H' := Aside0.mk H
                  clear H
                  go_wp2
                  go_meet
                  case rel => exact ⟨_, (false), (by first | rfl | (simp; done) | (simp [*]; done)), H', ⟨by first | omega | exact Nat.le_refl _⟩, ⟨by (with_reducible repeat (first | apply Kd.R_alloc | apply Kd.R_drewN | apply Kd.R_drew)); exact Kd.R_mono HO130.out (fun _ hk => ⟨hk.1.1.2, ⟨hk.1.2, hk.2⟩⟩)⟩, ⟨by (with_reducible repeat (first | apply Kd.R_alloc | apply Kd.R_drewN | apply Kd.R_drew)); exact Kd.R_mono HO140.out (fun _ hk => ⟨hk.1.1.1.2, ⟨hk.1.2, hk.2⟩⟩)⟩, ⟨by (with_reducible repeat (first | apply Kd.R_alloc | apply Kd.R_drewN | apply Kd.R_drew)); exact Kd.R_mono HO145.out (fun _ hk => ⟨hk.1.1.1.2, ⟨hk.1.2, hk.2⟩⟩)⟩, ⟨by (with_reducible repeat (first | apply Kd.R_alloc | apply Kd.R_drewN | apply Kd.R_drew)); exact Kd.R_mono HO149.out (fun _ hk => ⟨hk.1.1.1.2, ⟨hk.1.2, hk.2⟩⟩)⟩, ⟨by repeat (first | (with_reducible first | exact HB.out | apply below_alloc | apply pw_below_drewN | apply below_drew1) | exact HB.out)⟩⟩
              · rw [if_neg c31] at H
                have c31b0 : (t133 == 0) = false := beq_eq_false_iff_ne.mpr c31
                have c31b1 : (t133 != 0) = true := bne_iff_ne.mpr c31
                have H' := Aside0.mk H
                clear H
                go_wp2
                go_meet
                case rel => exact ⟨_, (false), (by first | rfl | (simp; done) | (simp [*]; done)), H', ⟨by first | omega | exact Nat.le_refl _⟩, ⟨by (with_reducible repeat (first | apply Kd.R_alloc | apply Kd.R_drewN | apply Kd.R_drew)); exact Kd.R_mono HO130.out (fun _ hk => ⟨hk.1.1.2, ⟨hk.1.2, hk.2⟩⟩)⟩, ⟨by (with_reducible repeat (first | apply Kd.R_alloc | apply Kd.R_drewN | apply Kd.R_drew)); exact Kd.R_mono HO140.out (fun _ hk => ⟨hk.1.1.1.2, ⟨hk.1.2, hk.2⟩⟩)⟩, ⟨by (with_reducible repeat (first | apply Kd.R_alloc | apply Kd.R_drewN | apply Kd.R_drew)); exact Kd.R_mono HO145.out (fun _ hk => ⟨hk.1.1.1.2, ⟨hk.1.2, hk.2⟩⟩)⟩, ⟨by (with_reducible repeat (first | apply Kd.R_alloc | apply Kd.R_drewN | apply Kd.R_drew)); exact Kd.R_mono HO149.out (fun _ hk => ⟨hk.1.1.1.2, ⟨hk.1.2, hk.2⟩⟩)⟩, ⟨by repeat (first | (with_reducible first | exact HB.out | apply below_alloc | apply pw_below_drewN | apply below_drew1) | exact HB.out)⟩⟩
            · rw [if_neg c30] at H
              have c30b0 : (t128 == 0) = false := beq_eq_false_iff_ne.mpr c30
              have c30b1 : (t128 != 0) = true := bne_iff_ne.mpr c30
              have H' := Aside0.mk H
              clear H
              go_wp2
              go_meet
              case rel => exact ⟨_, (false), (by first | rfl | (simp; done) | (simp [*]; done)), H', ⟨by first | omega | exact Nat.le_refl _⟩, ⟨by (with_reducible repeat (first | apply Kd.R_alloc | apply Kd.R_drewN | apply Kd.R_drew)); exact Kd.R_mono HO130.out (fun _ hk => ⟨hk.1.1.2, ⟨hk.1.2, hk.2⟩⟩)⟩, ⟨by (with_reducible repeat (first | apply Kd.R_alloc | apply Kd.R_drewN | apply Kd.R_drew)); exact Kd.R_mono HO140.out (fun _ hk => ⟨hk.1.1.1.2, ⟨hk.1.2, hk.2⟩⟩)⟩, ⟨by (with_reducible repeat (first | apply Kd.R_alloc | apply Kd.R_drewN | apply Kd.R_drew)); exact Kd.R_mono HO145.out (fun _ hk => ⟨hk.1.1.1.2, ⟨hk.1.2, hk.2⟩⟩)⟩, ⟨by (with_reducible repeat (first | apply Kd.R_alloc | apply Kd.R_drewN | apply Kd.R_drew)); exact Kd.R_mono HO149.out (fun _ hk => ⟨hk.1.1.1.2, ⟨hk.1.2, hk.2⟩⟩)⟩, ⟨by repeat (first | (with_reducible first | exact HB.out | apply below_alloc | apply pw_below_drewN | apply below_drew1) | exact HB.out)⟩⟩
          · rw [if_neg c29] at H
            have c29b0 : (t124 == 0) = false := beq_eq_false_iff_ne.mpr c29
            have c29b1 : (t124 != 0) = true := bne_iff_ne.mpr c29
            have H' := Aside0.mk H
            clear H
            go_wp2
            go_meet
            case rel => exact ⟨_, (false), (by first | rfl | (simp; done) | (simp [*]; done)), H', ⟨by first | omega | exact Nat.le_refl _⟩, ⟨by (with_reducible repeat (first | apply Kd.R_alloc | apply Kd.R_drewN | apply Kd.R_drew)); exact Kd.R_mono HO130.out (fun _ hk => ⟨hk.1.1.2, ⟨hk.1.2, hk.2⟩⟩)⟩, ⟨by (with_reducible repeat (first | apply Kd.R_alloc | apply Kd.R_drewN | apply Kd.R_drew)); exact Kd.R_mono HO140.out (fun _ hk => ⟨hk.1.1.1.2, ⟨hk.1.2, hk.2⟩⟩)⟩, ⟨by (with_reducible repeat (first | apply Kd.R_alloc | apply Kd.R_drewN | apply Kd.R_drew)); exact Kd.R_mono HO145.out (fun _ hk => ⟨hk.1.1.1.2, ⟨hk.1.2, hk.2⟩⟩)⟩, ⟨by (with_reducible repeat (first | apply Kd.R_alloc | apply Kd.R_drewN | apply Kd.R_drew)); exact Kd.R_mono HO149.out (fun _ hk => ⟨hk.1.1.1.2, ⟨hk.1.2, hk.2⟩⟩)⟩, ⟨by repeat (first | (with_reducible first | exact HB.out | apply below_alloc | apply pw_below_drewN | apply below_drew1) | exact HB.out)⟩⟩
        · rw [if_neg c28] at H
          have c28b0 : (t120 == 0) = false := beq_eq_false_iff_ne.mpr c28
          have c28b1 : (t120 != 0) = true := bne_iff_ne.mpr c28
          have H' := Aside0.mk H
          clear H
          go_wp2
          go_meet
          case rel => exact ⟨_, (false), (by first | rfl | (simp; done) | (simp [*]; done)), H', ⟨by first | omega | exact Nat.le_refl _⟩, ⟨by (with_reducible repeat (first | apply Kd.R_alloc | apply Kd.R_drewN | apply Kd.R_drew)); exact Kd.R_mono HO130.out (fun _ hk => ⟨hk.1.1.2, ⟨hk.1.2, hk.2⟩⟩)⟩, ⟨by (with_reducible repeat (first | apply Kd.R_alloc | apply Kd.R_drewN | apply Kd.R_drew)); exact Kd.R_mono HO140.out (fun _ hk => ⟨hk.1.1.1.2, ⟨hk.1.2, hk.2⟩⟩)⟩, ⟨by (with_reducible repeat (first | apply Kd.R_alloc | apply Kd.R_drewN | apply Kd.R_drew)); exact Kd.R_mono HO145.out (fun _ hk => ⟨hk.1.1.1.2, ⟨hk.1.2, hk.2⟩⟩)⟩, ⟨by (with_reducible repeat (first | apply Kd.R_alloc | apply Kd.R_drewN | apply Kd.R_drew)); exact Kd.R_mono HO149.out (fun _ hk => ⟨hk.1.1.1.2, ⟨hk.1.2, hk.2⟩⟩)⟩, ⟨by repeat (first | (with_reducible first | exact HB.out | apply below_alloc | apply pw_below_drewN | apply below_drew1) | exact HB.out)⟩⟩
      · rw [if_neg c27] at H
        have c27b0 : (t115 == 0) = false := beq_eq_false_iff_ne.mpr c27
        have c27b1 : (t115 != 0) = true := bne_iff_ne.mpr c27
        have H' := Aside0.mk H
        clear H
        go_wp2
        go_meet
        case rel => exact ⟨_, (false), (by first | rfl | (simp; done) | (simp [*]; done)), H', ⟨by first | omega | exact Nat.le_refl _⟩, ⟨by (with_reducible repeat (first | apply Kd.R_alloc | apply Kd.R_drewN | apply Kd.R_drew)); exact Kd.R_mono HO130.out (fun _ hk => ⟨hk.1.1.2, ⟨hk.1.2, hk.2⟩⟩)⟩, ⟨by (with_reducible repeat (first | apply Kd.R_alloc | apply Kd.R_drewN | apply Kd.R_drew)); exact Kd.R_mono HO140.out (fun _ hk => ⟨hk.1.1.1.2, ⟨hk.1.2, hk.2⟩⟩)⟩, ⟨by (with_reducible repeat (first | apply Kd.R_alloc | apply Kd.R_drewN | apply Kd.R_drew)); exact Kd.R_mono HO145.out (fun _ hk => ⟨hk.1.1.1.2, ⟨hk.1.2, hk.2⟩⟩)⟩, ⟨by (with_reducible repeat (first | apply Kd.R_alloc | apply Kd.R_drewN | apply Kd.R_drew)); exact Kd.R_mono HO149.out (fun _ hk => ⟨hk.1.1.1.2, ⟨hk.1.2, hk.2⟩⟩)⟩, ⟨by repeat (first | (with_reducible first | exact HB.out | apply below_alloc | apply pw_below_drewN | apply below_drew1) | exact HB.out)⟩⟩
    · rw [if_neg c26] at H
      have c26b0 : (t110 == 0) = false := beq_eq_false_iff_ne.mpr c26
      have c26b1 : (t110 != 0) = true := bne_iff_ne.mpr c26
      (first | rw [c26b0] | (simp only [i64_w, i32_w]; rw [c26b0]) | skip)
      have H' := Aside0.mk H
      clear H
      go_wp2
      go_meet
      case rel => exact ⟨_, (false), (by first | rfl | (simp; done) | (simp [*]; done)), H', ⟨by first | omega | exact Nat.le_refl _⟩, ⟨by (with_reducible repeat (first | apply Kd.R_alloc | apply Kd.R_drewN | apply Kd.R_drew)); exact Kd.R_mono HO130.out (fun _ hk => ⟨hk.1.1.2, ⟨hk.1.2, hk.2⟩⟩)⟩, ⟨by (with_reducible repeat (first | apply Kd.R_alloc | apply Kd.R_drewN | apply Kd.R_drew)); exact Kd.R_mono HO140.out (fun _ hk => ⟨hk.1.1.1.2, ⟨hk.1.2, hk.2⟩⟩)⟩, ⟨by (with_reducible repeat (first | apply Kd.R_alloc | apply Kd.R_drewN | apply Kd.R_drew)); exact Kd.R_mono HO145.out (fun _ hk => ⟨hk.1.1.1.2, ⟨hk.1.2, hk.2⟩⟩)⟩, ⟨by (with_reducible repeat (first | apply Kd.R_alloc | apply Kd.R_drewN | apply Kd.R_drew)); exact Kd.R_mono HO149.out (fun _ hk => ⟨hk.1.1.1.2, ⟨hk.1.2, hk.2⟩⟩)⟩, ⟨by repeat (first | (with_reducible first | exact HB.out | apply below_alloc | apply pw_below_drewN | apply below_drew1) | exact HB.out)⟩⟩
  case rest =>
    clear HC10
    try clear c1
    try clear c2
    try clear p2
    try clear c3
    try clear c9
    try clear c10
    try clear c19
    try clear c20
    try clear c21
    try clear c22
    try clear c26
    try clear c26b0
    try clear c26b1
    try clear c27
    try clear c27b0
    try clear c27b1
    try clear c28
    try clear c28b0
    try clear c28b1
    try clear c29
    try clear c29b0
    try clear c29b1
    try clear c30
    try clear c30b0
    try clear c30b1
    try clear c31
    try clear c31b0
    try clear c31b1
    try clear c32
    try clear c32b0
    try clear c32b1
    try clear c33
    try clear c33b0
    try clear c33b1
    obtain ⟨kq, x24_9, rfl, HA, HJ9, HO_11, HO_16, HO_19, HO_22, HB⟩ := hcut
    cases kq with
    | zero => exact absurd HA.out (by simp [estoverslaw32_awake.j0])
    | succ kj9 =>
      have H := HA.out
      clear HA
      simp only [estoverslaw32_awake.j0] at H
      by_cases c34 : x24_9 = true
      · subst c34
        have H1 : (if t114 = 0 then (if t119 = 1 then (if (t127.length : Int) = 3 then (if 0 < (t127.length : Int) then (if ((rd_T41 t127 0).f1) = 2 then (if ((rd_T41 t127 0).f0) = 1 then (if t132 = true then (some false) else (if t137 = true then ((slots_IsFree.f t136 0).bind fun t152 => (if t152 = true then (if t142 = true then (some false) else ((slots_Used.f kj9 t141).bind fun t153 => (if t153 = 1 then ((slots_Used.f kj9 t146).bind fun t154 => (if t154 = 0 then ((slots_Check.f t141).bind fun t155 => (some (t155 == 0))) else (some false))) else (some false)))) else (some false))) else (some false))) else (some false)) else (some false)) else (none)) else (some false)) else (some false)) else (some false)) = some r := by rw [if_pos rfl] at H; exact H
        clear H
        have H := H1
        clear H1
        by_cases c35 : t114 = 0
        · rw [if_pos c35] at H
          have c35b0 : (t114 == 0) = true := beq_iff_eq.mpr c35
          have c35b1 : (t114 != 0) = false := bne_eq_false_iff_eq.mpr c35
          clear c35
          by_cases c36 : t119 = 1
          · rw [if_pos c36] at H
            have c36b0 : (t119 == 1) = true := beq_iff_eq.mpr c36
            have c36b1 : (t119 != 1) = false := bne_eq_false_iff_eq.mpr c36
            clear c36
            by_cases c37 : (t127.length : Int) = 3
            · rw [if_pos c37] at H
              have c37b0 : ((t127.length : Int) == 3) = true := beq_iff_eq.mpr c37
              have c37b1 : ((t127.length : Int) != 3) = false := bne_eq_false_iff_eq.mpr c37
              clear c37
              by_cases c38 : 0 < (t127.length : Int)
              · rw [if_pos c38] at H
                have c38b0 : decide (0 < (t127.length : Int)) = true := decide_eq_true c38
                have c38b1 : decide (0 < t127.length) = true := decide_eq_true (by omega)
                clear c38
                by_cases c39 : ((rd_T41 t127 0).f1) = 2
                · rw [if_pos c39] at H
                  have c39b0 : (((rd_T41 t127 0).f1) == 2) = true := beq_iff_eq.mpr c39
                  have c39b1 : (((rd_T41 t127 0).f1) != 2) = false := bne_eq_false_iff_eq.mpr c39
                  clear c39
                  by_cases c40 : ((rd_T41 t127 0).f0) = 1
                  · rw [if_pos c40] at H
                    have c40b0 : (((rd_T41 t127 0).f0) == 1) = true := beq_iff_eq.mpr c40
                    have c40b1 : (((rd_T41 t127 0).f0) != 1) = false := bne_eq_false_iff_eq.mpr c40
                    clear c40
                    by_cases c41 : t132 = true
                    · subst c41
                      have H1 : (some false) = some r := by rw [if_pos rfl] at H; exact H
                      clear H
                      have H := H1
                      clear H1
                      obtain rfl := Option.some.inj H
                      have p150 : 0 ≤ (0 : Int) := (by omega)
                      have q150 : 0 < (t127.length : Int) := of_decide_eq_true (by first | (with_reducible assumption) | assumption)
                      obtain ⟨ad150, e150, hx150_0, hx150_1⟩ := at_T41 (Kd.R_reads' HO_11.out).2.2 0 p150 q150
                      cases e150
                      have qi150 : (0 < t127.length) = True := eq_true (by omega)
                      (try rw [show ((0 : Int)).toNat = 0 from rfl] at hx150_0)
                      (try rw [show 0 * 2 = 0 from rfl] at hx150_0)
                      (try rw [Addr.add_zero'] at hx150_0)
                      (try rw [show ((0 : Int)).toNat = 0 from rfl] at hx150_1)
                      (try rw [show 0 * 2 = 0 from rfl] at hx150_1)
                      (try rw [Addr.add_zero'] at hx150_1)
                      replace p150 := eq_true p150
                      replace q150 := eq_true q150
                      have p151 : 0 ≤ (0 : Int) := (by omega)
                      have q151 : 0 < (t127.length : Int) := of_decide_eq_true (by first | (with_reducible assumption) | assumption)
                      obtain ⟨ad151, e151, hx151_0, hx151_1⟩ := at_T41 (Kd.R_reads' HO_11.out).2.2 0 p151 q151
                      obtain rfl : ad150 = ad151 := (by injection e151)
                      have qi151 : (0 < t127.length) = True := eq_true (by omega)
                      (try rw [show ((0 : Int)).toNat = 0 from rfl] at hx151_0)
                      (try rw [show 0 * 2 = 0 from rfl] at hx151_0)
                      (try rw [Addr.add_zero'] at hx151_0)
                      (try rw [show ((0 : Int)).toNat = 0 from rfl] at hx151_1)
                      (try rw [show 0 * 2 = 0 from rfl] at hx151_1)
                      (try rw [Addr.add_zero'] at hx151_1)
                      replace p151 := eq_true p151
                      replace q151 := eq_true q151
                      go_wp2
                      go_ret
                      exact ⟨by first | rfl | (simp [errW_none, errW_some] <;> rfl) | (simp [*, errW_none, errW_some] <;> rfl), by repeat (first | (with_reducible first | exact HB.out | apply below_alloc | apply pw_below_drewN | apply below_drew1) | exact HB.out)⟩
                    · replace c41 := Bool.eq_false_iff.mpr c41
                      subst c41
                      have H1 : (if t137 = true then ((slots_IsFree.f t136 0).bind fun t152 => (if t152 = true then (if t142 = true then (some false) else ((slots_Used.f kj9 t141).bind fun t153 => (if t153 = 1 then ((slots_Used.f kj9 t146).bind fun t154 => (if t154 = 0 then ((slots_Check.f t141).bind fun t155 => (some (t155 == 0))) else (some false))) else (some false)))) else (some false))) else (some false)) = some r := by rw [if_neg (show ¬ (false = true) by decide)] at H; exact H
                      clear H
                      have H := H1
                      clear H1
                      by_cases c42 : t137 = true
                      · subst c42
                        have H1 : ((slots_IsFree.f t136 0).bind fun t152 => (if t152 = true then (if t142 = true then (some false) else ((slots_Used.f kj9 t141).bind fun t153 => (if t153 = 1 then ((slots_Used.f kj9 t146).bind fun t154 => (if t154 = 0 then ((slots_Check.f t141).bind fun t155 => (some (t155 == 0))) else (some false))) else (some false)))) else (some false))) = some r := by rw [if_pos rfl] at H; exact H
                        clear H
                        have H := H1
                        clear H1
                        replace H := Option.bind_eq_some_iff.mp H
                        obtain ⟨t152, A430, H⟩ := H
                        replace H : (if t152 = true then (if t142 = true then (some false) else ((slots_Used.f kj9 t141).bind fun t153 => (if t153 = 1 then ((slots_Used.f kj9 t146).bind fun t154 => (if t154 = 0 then ((slots_Check.f t141).bind fun t155 => (some (t155 == 0))) else (some false))) else (some false)))) else (some false)) = some r := H
                        have A43 := Aside0.mk A430
                        clear A430
                        by_cases c44 : t152 = true
                        · subst c44
                          have H1 : (if t142 = true then (some false) else ((slots_Used.f kj9 t141).bind fun t153 => (if t153 = 1 then ((slots_Used.f kj9 t146).bind fun t154 => (if t154 = 0 then ((slots_Check.f t141).bind fun t155 => (some (t155 == 0))) else (some false))) else (some false)))) = some r := by rw [if_pos rfl] at H; exact H
                          clear H
                          have H := H1
                          clear H1
                          by_cases c45 : t142 = true
                          · subst c45
                            have H1 : (some false) = some r := by rw [if_pos rfl] at H; exact H
                            clear H
                            have H := H1
                            clear H1
                            obtain rfl := Option.some.inj H
                            have p150 : 0 ≤ (0 : Int) := (by omega)
                            have q150 : 0 < (t127.length : Int) := of_decide_eq_true (by first | (with_reducible assumption) | assumption)
                            obtain ⟨ad150, e150, hx150_0, hx150_1⟩ := at_T41 (Kd.R_reads' HO_11.out).2.2 0 p150 q150
                            cases e150
                            have qi150 : (0 < t127.length) = True := eq_true (by omega)
                            (try rw [show ((0 : Int)).toNat = 0 from rfl] at hx150_0)
                            (try rw [show 0 * 2 = 0 from rfl] at hx150_0)
                            (try rw [Addr.add_zero'] at hx150_0)
                            (try rw [show ((0 : Int)).toNat = 0 from rfl] at hx150_1)
                            (try rw [show 0 * 2 = 0 from rfl] at hx150_1)
                            (try rw [Addr.add_zero'] at hx150_1)
                            replace p150 := eq_true p150
                            replace q150 := eq_true q150
                            have p151 : 0 ≤ (0 : Int) := (by omega)
                            have q151 : 0 < (t127.length : Int) := of_decide_eq_true (by first | (with_reducible assumption) | assumption)
                            obtain ⟨ad151, e151, hx151_0, hx151_1⟩ := at_T41 (Kd.R_reads' HO_11.out).2.2 0 p151 q151
                            obtain rfl : ad150 = ad151 := (by injection e151)
                            have qi151 : (0 < t127.length) = True := eq_true (by omega)
                            (try rw [show ((0 : Int)).toNat = 0 from rfl] at hx151_0)
                            (try rw [show 0 * 2 = 0 from rfl] at hx151_0)
                            (try rw [Addr.add_zero'] at hx151_0)
                            (try rw [show ((0 : Int)).toNat = 0 from rfl] at hx151_1)
                            (try rw [show 0 * 2 = 0 from rfl] at hx151_1)
                            (try rw [Addr.add_zero'] at hx151_1)
                            replace p151 := eq_true p151
                            replace q151 := eq_true q151
                            obtain ⟨Ao46, co46, eo46⟩ := Kd.R_slice HO_16.out
                            subst eo46
                            go_wp2_with (first | (go_at_call 17; (with_reducible refine (slots_IsFree.calls _ _ t136 0 true _ ?side1 ?side2 A43.out).mono ?_); (case side1 => repeat (first | exact (Kd.R_reads' HO_16.out).2.2 | (with_reducible refine Kd.C_alloc ?_ _) | (with_reducible refine Kd.C_drewN ?_ _) | (with_reducible refine Kd.C_drew ?_))); (case side2 => exact (Kd.R_reads' HO_16.out).2.1); rintro e w47 ⟨rfl, hb⟩; have n0_ := Aside0.mk (Kd.R_below (by (with_reducible repeat (first | apply Kd.R_alloc | apply Kd.R_drewN | apply Kd.R_drew)); exact HO_11.out) hb); have n1_ := Aside0.mk (Kd.R_below (by (with_reducible repeat (first | apply Kd.R_alloc | apply Kd.R_drewN | apply Kd.R_drew)); exact HO_16.out) hb); have n2_ := Aside0.mk (Kd.R_below (by (with_reducible repeat (first | apply Kd.R_alloc | apply Kd.R_drewN | apply Kd.R_drew)); exact HO_19.out) hb); have n3_ := Aside0.mk (Kd.R_below (by (with_reducible repeat (first | apply Kd.R_alloc | apply Kd.R_drewN | apply Kd.R_drew)); exact HO_22.out) hb); have n4_ := Aside0.mk (below_step (by repeat (first | (with_reducible first | exact HB.out | apply below_alloc | apply pw_below_drewN | apply below_drew1) | exact HB.out)) hb); clear HO_11; clear HO_16; clear HO_19; clear HO_22; clear HB; have HO_11 := n0_; have HO_16 := n1_; have HO_19 := n2_; have HO_22 := n3_; have HB := n4_; clear n0_ n1_ n2_ n3_ n4_; (try clear hb); (try clear hb2); (try clear hk); (try clear hi)))
                            go_ret
                            exact ⟨by first | rfl | (simp [errW_none, errW_some] <;> rfl) | (simp [*, errW_none, errW_some] <;> rfl), by repeat (first | (with_reducible first | exact HB.out | apply below_alloc | apply pw_below_drewN | apply below_drew1) | exact HB.out)⟩
                          · replace c45 := Bool.eq_false_iff.mpr c45
                            subst c45
                            have H1 : ((slots_Used.f kj9 t141).bind fun t153 => (if t153 = 1 then ((slots_Used.f kj9 t146).bind fun t154 => (if t154 = 0 then ((slots_Check.f t141).bind fun t155 => (some (t155 == 0))) else (some false))) else (some false))) = some r := by rw [if_neg (show ¬ (false = true) by decide)] at H; exact H
                            clear H
                            have H := H1
                            clear H1
                            replace H := Option.bind_eq_some_iff.mp H
                            obtain ⟨t153, A480, H⟩ := H
                            replace H : (if t153 = 1 then ((slots_Used.f kj9 t146).bind fun t154 => (if t154 = 0 then ((slots_Check.f t141).bind fun t155 => (some (t155 == 0))) else (some false))) else (some false)) = some r := H
                            have A48 := Aside0.mk A480
                            clear A480
                            by_cases c49 : t153 = 1
                            · rw [if_pos c49] at H
                              have c49b0 : (t153 == 1) = true := beq_iff_eq.mpr c49
                              have c49b1 : (t153 != 1) = false := bne_eq_false_iff_eq.mpr c49
                              clear c49
                              replace H := Option.bind_eq_some_iff.mp H
                              obtain ⟨t154, A500, H⟩ := H
                              replace H : (if t154 = 0 then ((slots_Check.f t141).bind fun t155 => (some (t155 == 0))) else (some false)) = some r := H
                              have A50 := Aside0.mk A500
                              clear A500
                              by_cases c51 : t154 = 0
                              · rw [if_pos c51] at H
                                have c51b0 : (t154 == 0) = true := beq_iff_eq.mpr c51
                                have c51b1 : (t154 != 0) = false := bne_eq_false_iff_eq.mpr c51
                                clear c51
                                replace H := Option.bind_eq_some_iff.mp H
                                obtain ⟨t155, A520, H⟩ := H
                                replace H : (some (t155 == 0)) = some r := H
                                have A52 := Aside0.mk A520
                                clear A520
                                obtain rfl := Option.some.inj H
                                have p150 : 0 ≤ (0 : Int) := (by omega)
                                have q150 : 0 < (t127.length : Int) := of_decide_eq_true (by first | (with_reducible assumption) | assumption)
                                obtain ⟨ad150, e150, hx150_0, hx150_1⟩ := at_T41 (Kd.R_reads' HO_11.out).2.2 0 p150 q150
                                cases e150
                                have qi150 : (0 < t127.length) = True := eq_true (by omega)
                                (try rw [show ((0 : Int)).toNat = 0 from rfl] at hx150_0)
                                (try rw [show 0 * 2 = 0 from rfl] at hx150_0)
                                (try rw [Addr.add_zero'] at hx150_0)
                                (try rw [show ((0 : Int)).toNat = 0 from rfl] at hx150_1)
                                (try rw [show 0 * 2 = 0 from rfl] at hx150_1)
                                (try rw [Addr.add_zero'] at hx150_1)
                                replace p150 := eq_true p150
                                replace q150 := eq_true q150
                                have p151 : 0 ≤ (0 : Int) := (by omega)
                                have q151 : 0 < (t127.length : Int) := of_decide_eq_true (by first | (with_reducible assumption) | assumption)
                                obtain ⟨ad151, e151, hx151_0, hx151_1⟩ := at_T41 (Kd.R_reads' HO_11.out).2.2 0 p151 q151
                                obtain rfl : ad150 = ad151 := (by injection e151)
                                have qi151 : (0 < t127.length) = True := eq_true (by omega)
                                (try rw [show ((0 : Int)).toNat = 0 from rfl] at hx151_0)
                                (try rw [show 0 * 2 = 0 from rfl] at hx151_0)
                                (try rw [Addr.add_zero'] at hx151_0)
                                (try rw [show ((0 : Int)).toNat = 0 from rfl] at hx151_1)
                                (try rw [show 0 * 2 = 0 from rfl] at hx151_1)
                                (try rw [Addr.add_zero'] at hx151_1)
                                replace p151 := eq_true p151
                                replace q151 := eq_true q151
                                obtain ⟨Ao53, co53, eo53⟩ := Kd.R_slice HO_16.out
                                subst eo53
                                go_wp2_with (first | (go_at_call 17; (with_reducible refine (slots_IsFree.calls _ _ t136 0 true _ ?side1 ?side2 A43.out).mono ?_); (case side1 => repeat (first | exact (Kd.R_reads' HO_16.out).2.2 | (with_reducible refine Kd.C_alloc ?_ _) | (with_reducible refine Kd.C_drewN ?_ _) | (with_reducible refine Kd.C_drew ?_))); (case side2 => exact (Kd.R_reads' HO_16.out).2.1); rintro e w54 ⟨rfl, hb⟩; have n0_ := Aside0.mk (Kd.R_below (by (with_reducible repeat (first | apply Kd.R_alloc | apply Kd.R_drewN | apply Kd.R_drew)); exact HO_11.out) hb); have n1_ := Aside0.mk (Kd.R_below (by (with_reducible repeat (first | apply Kd.R_alloc | apply Kd.R_drewN | apply Kd.R_drew)); exact HO_16.out) hb); have n2_ := Aside0.mk (Kd.R_below (by (with_reducible repeat (first | apply Kd.R_alloc | apply Kd.R_drewN | apply Kd.R_drew)); exact HO_19.out) hb); have n3_ := Aside0.mk (Kd.R_below (by (with_reducible repeat (first | apply Kd.R_alloc | apply Kd.R_drewN | apply Kd.R_drew)); exact HO_22.out) hb); have n4_ := Aside0.mk (below_step (by repeat (first | (with_reducible first | exact HB.out | apply below_alloc | apply pw_below_drewN | apply below_drew1) | exact HB.out)) hb); clear HO_11; clear HO_16; clear HO_19; clear HO_22; clear HB; have HO_11 := n0_; have HO_16 := n1_; have HO_19 := n2_; have HO_22 := n3_; have HB := n4_; clear n0_ n1_ n2_ n3_ n4_; (try clear hb); (try clear hb2); (try clear hk); (try clear hi)) | (go_at_call 15; (with_reducible refine (slots_Used.calls kj9 _ _ t141 t153 _ ?side1 ?side2 A48.out).mono ?_); (case side1 => repeat (first | exact (Kd.R_reads' HO_19.out).2.2 | (with_reducible refine Kd.C_alloc ?_ _) | (with_reducible refine Kd.C_drewN ?_ _) | (with_reducible refine Kd.C_drew ?_))); (case side2 => exact (Kd.R_reads' HO_19.out).2.1); rintro e w55 ⟨rfl, hb⟩; have n0_ := Aside0.mk (Kd.R_below (by (with_reducible repeat (first | apply Kd.R_alloc | apply Kd.R_drewN | apply Kd.R_drew)); exact HO_11.out) hb); have n1_ := Aside0.mk (Kd.R_below (by (with_reducible repeat (first | apply Kd.R_alloc | apply Kd.R_drewN | apply Kd.R_drew)); exact HO_16.out) hb); have n2_ := Aside0.mk (Kd.R_below (by (with_reducible repeat (first | apply Kd.R_alloc | apply Kd.R_drewN | apply Kd.R_drew)); exact HO_19.out) hb); have n3_ := Aside0.mk (Kd.R_below (by (with_reducible repeat (first | apply Kd.R_alloc | apply Kd.R_drewN | apply Kd.R_drew)); exact HO_22.out) hb); have n4_ := Aside0.mk (below_step (by repeat (first | (with_reducible first | exact HB.out | apply below_alloc | apply pw_below_drewN | apply below_drew1) | exact HB.out)) hb); clear HO_11; clear HO_16; clear HO_19; clear HO_22; clear HB; have HO_11 := n0_; have HO_16 := n1_; have HO_19 := n2_; have HO_22 := n3_; have HB := n4_; clear n0_ n1_ n2_ n3_ n4_; (try clear hb); (try clear hb2); (try clear hk); (try clear hi); obtain ⟨Ao56, co56, eo56⟩ := Kd.R_slice HO_22.out; subst eo56) | (go_at_call 15; (with_reducible refine (slots_Used.calls kj9 _ _ t146 t154 _ ?side1 ?side2 A50.out).mono ?_); (case side1 => repeat (first | exact (Kd.R_reads' HO_22.out).2.2 | (with_reducible refine Kd.C_alloc ?_ _) | (with_reducible refine Kd.C_drewN ?_ _) | (with_reducible refine Kd.C_drew ?_))); (case side2 => exact (Kd.R_reads' HO_22.out).2.1); rintro e w57 ⟨rfl, hb⟩; have n0_ := Aside0.mk (Kd.R_below (by (with_reducible repeat (first | apply Kd.R_alloc | apply Kd.R_drewN | apply Kd.R_drew)); exact HO_11.out) hb); have n1_ := Aside0.mk (Kd.R_below (by (with_reducible repeat (first | apply Kd.R_alloc | apply Kd.R_drewN | apply Kd.R_drew)); exact HO_16.out) hb); have n2_ := Aside0.mk (Kd.R_below (by (with_reducible repeat (first | apply Kd.R_alloc | apply Kd.R_drewN | apply Kd.R_drew)); exact HO_19.out) hb); have n3_ := Aside0.mk (Kd.R_below (by (with_reducible repeat (first | apply Kd.R_alloc | apply Kd.R_drewN | apply Kd.R_drew)); exact HO_22.out) hb); have n4_ := Aside0.mk (below_step (by repeat (first | (with_reducible first | exact HB.out | apply below_alloc | apply pw_below_drewN | apply below_drew1) | exact HB.out)) hb); clear HO_11; clear HO_16; clear HO_19; clear HO_22; clear HB; have HO_11 := n0_; have HO_16 := n1_; have HO_19 := n2_; have HO_22 := n3_; have HB := n4_; clear n0_ n1_ n2_ n3_ n4_; (try clear hb); (try clear hb2); (try clear hk); (try clear hi)) | (go_at_call 13; (with_reducible refine (slots_Check.calls _ _ t141 t155 _ ?side1 ?side2 A52.out).mono ?_); (case side1 => repeat (first | exact (Kd.R_reads' HO_19.out).2.2 | (with_reducible refine Kd.C_alloc ?_ _) | (with_reducible refine Kd.C_drewN ?_ _) | (with_reducible refine Kd.C_drew ?_))); (case side2 => exact (Kd.R_reads' HO_19.out).2.1); rintro e w58 ⟨rfl, hb⟩; have n0_ := Aside0.mk (Kd.R_below (by (with_reducible repeat (first | apply Kd.R_alloc | apply Kd.R_drewN | apply Kd.R_drew)); exact HO_11.out) hb); have n1_ := Aside0.mk (Kd.R_below (by (with_reducible repeat (first | apply Kd.R_alloc | apply Kd.R_drewN | apply Kd.R_drew)); exact HO_16.out) hb); have n2_ := Aside0.mk (Kd.R_below (by (with_reducible repeat (first | apply Kd.R_alloc | apply Kd.R_drewN | apply Kd.R_drew)); exact HO_19.out) hb); have n3_ := Aside0.mk (Kd.R_below (by (with_reducible repeat (first | apply Kd.R_alloc | apply Kd.R_drewN | apply Kd.R_drew)); exact HO_22.out) hb); have n4_ := Aside0.mk (below_step (by repeat (first | (with_reducible first | exact HB.out | apply below_alloc | apply pw_below_drewN | apply below_drew1) | exact HB.out)) hb); clear HO_11; clear HO_16; clear HO_19; clear HO_22; clear HB; have HO_11 := n0_; have HO_16 := n1_; have HO_19 := n2_; have HO_22 := n3_; have HB := n4_; clear n0_ n1_ n2_ n3_ n4_; (try clear hb); (try clear hb2); (try clear hk); (try clear hi)))
                                go_ret
                                exact ⟨by first | rfl | (simp [errW_none, errW_some] <;> rfl) | (simp [*, errW_none, errW_some] <;> rfl), by repeat (first | (with_reducible first | exact HB.out | apply below_alloc | apply pw_below_drewN | apply below_drew1) | exact HB.out)⟩
                              · rw [if_neg c51] at H
                                have c51b0 : (t154 == 0) = false := beq_eq_false_iff_ne.mpr c51
                                have c51b1 : (t154 != 0) = true := bne_iff_ne.mpr c51
                                obtain rfl := Option.some.inj H
                                have p150 : 0 ≤ (0 : Int) := (by omega)
                                have q150 : 0 < (t127.length : Int) := of_decide_eq_true (by first | (with_reducible assumption) | assumption)
                                obtain ⟨ad150, e150, hx150_0, hx150_1⟩ := at_T41 (Kd.R_reads' HO_11.out).2.2 0 p150 q150
                                cases e150
                                have qi150 : (0 < t127.length) = True := eq_true (by omega)
                                (try rw [show ((0 : Int)).toNat = 0 from rfl] at hx150_0)
                                (try rw [show 0 * 2 = 0 from rfl] at hx150_0)
                                (try rw [Addr.add_zero'] at hx150_0)
                                (try rw [show ((0 : Int)).toNat = 0 from rfl] at hx150_1)
                                (try rw [show 0 * 2 = 0 from rfl] at hx150_1)
                                (try rw [Addr.add_zero'] at hx150_1)
                                replace p150 := eq_true p150
                                replace q150 := eq_true q150
                                have p151 : 0 ≤ (0 : Int) := (by omega)
                                have q151 : 0 < (t127.length : Int) := of_decide_eq_true (by first | (with_reducible assumption) | assumption)
                                obtain ⟨ad151, e151, hx151_0, hx151_1⟩ := at_T41 (Kd.R_reads' HO_11.out).2.2 0 p151 q151
                                obtain rfl : ad150 = ad151 := (by injection e151)
                                have qi151 : (0 < t127.length) = True := eq_true (by omega)
                                (try rw [show ((0 : Int)).toNat = 0 from rfl] at hx151_0)
                                (try rw [show 0 * 2 = 0 from rfl] at hx151_0)
                                (try rw [Addr.add_zero'] at hx151_0)
                                (try rw [show ((0 : Int)).toNat = 0 from rfl] at hx151_1)
                                (try rw [show 0 * 2 = 0 from rfl] at hx151_1)
                                (try rw [Addr.add_zero'] at hx151_1)
                                replace p151 := eq_true p151
                                replace q151 := eq_true q151
                                obtain ⟨Ao59, co59, eo59⟩ := Kd.R_slice HO_16.out
                                subst eo59
                                go_wp2_with (first | (go_at_call 17; (with_reducible refine (slots_IsFree.calls _ _ t136 0 true _ ?side1 ?side2 A43.out).mono ?_); (case side1 => repeat (first | exact (Kd.R_reads' HO_16.out).2.2 | (with_reducible refine Kd.C_alloc ?_ _) | (with_reducible refine Kd.C_drewN ?_ _) | (with_reducible refine Kd.C_drew ?_))); (case side2 => exact (Kd.R_reads' HO_16.out).2.1); rintro e w60 ⟨rfl, hb⟩; have n0_ := Aside0.mk (Kd.R_below (by (with_reducible repeat (first | apply Kd.R_alloc | apply Kd.R_drewN | apply Kd.R_drew)); exact HO_11.out) hb); have n1_ := Aside0.mk (Kd.R_below (by (with_reducible repeat (first | apply Kd.R_alloc | apply Kd.R_drewN | apply Kd.R_drew)); exact HO_16.out) hb); have n2_ := Aside0.mk (Kd.R_below (by (with_reducible repeat (first | apply Kd.R_alloc | apply Kd.R_drewN | apply Kd.R_drew)); exact HO_19.out) hb); have n3_ := Aside0.mk (Kd.R_below (by (with_reducible repeat (first | apply Kd.R_alloc | apply Kd.R_drewN | apply Kd.R_drew)); exact HO_22.out) hb); have n4_ := Aside0.mk (below_step (by repeat (first | (with_reducible first | exact HB.out | apply below_alloc | apply pw_below_drewN | apply below_drew1) | exact HB.out)) hb); clear HO_11; clear HO_16; clear HO_19; clear HO_22; clear HB; have HO_11 := n0_; have HO_16 := n1_; have HO_19 := n2_; have HO_22 := n3_; have HB := n4_; clear n0_ n1_ n2_ n3_ n4_; (try clear hb); (try clear hb2); (try clear hk); (try clear hi)) | (go_at_call 15; (with_reducible refine (slots_Used.calls kj9 _ _ t141 t153 _ ?side1 ?side2 A48.out).mono ?_); (case side1 => repeat (first | exact (Kd.R_reads' HO_19.out).2.2 | (with_reducible refine Kd.C_alloc ?_ _) | (with_reducible refine Kd.C_drewN ?_ _) | (with_reducible refine Kd.C_drew ?_))); (case side2 => exact (Kd.R_reads' HO_19.out).2.1); rintro e w61 ⟨rfl, hb⟩; have n0_ := Aside0.mk (Kd.R_below (by (with_reducible repeat (first | apply Kd.R_alloc | apply Kd.R_drewN | apply Kd.R_drew)); exact HO_11.out) hb); have n1_ := Aside0.mk (Kd.R_below (by (with_reducible repeat (first | apply Kd.R_alloc | apply Kd.R_drewN | apply Kd.R_drew)); exact HO_16.out) hb); have n2_ := Aside0.mk (Kd.R_below (by (with_reducible repeat (first | apply Kd.R_alloc | apply Kd.R_drewN | apply Kd.R_drew)); exact HO_19.out) hb); have n3_ := Aside0.mk (Kd.R_below (by (with_reducible repeat (first | apply Kd.R_alloc | apply Kd.R_drewN | apply Kd.R_drew)); exact HO_22.out) hb); have n4_ := Aside0.mk (below_step (by repeat (first | (with_reducible first | exact HB.out | apply below_alloc | apply pw_below_drewN | apply below_drew1) | exact HB.out)) hb); clear HO_11; clear HO_16; clear HO_19; clear HO_22; clear HB; have HO_11 := n0_; have HO_16 := n1_; have HO_19 := n2_; have HO_22 := n3_; have HB := n4_; clear n0_ n1_ n2_ n3_ n4_; (try clear hb); (try clear hb2); (try clear hk); (try clear hi); obtain ⟨Ao62, co62, eo62⟩ := Kd.R_slice HO_22.out; subst eo62) | (go_at_call 15; (with_reducible refine (slots_Used.calls kj9 _ _ t146 t154 _ ?side1 ?side2 A50.out).mono ?_); (case side1 => repeat (first | exact (Kd.R_reads' HO_22.out).2.2 | (with_reducible refine Kd.C_alloc ?_ _) | (with_reducible refine Kd.C_drewN ?_ _) | (with_reducible refine Kd.C_drew ?_))); (case side2 => exact (Kd.R_reads' HO_22.out).2.1); rintro e w63 ⟨rfl, hb⟩; have n0_ := Aside0.mk (Kd.R_below (by (with_reducible repeat (first | apply Kd.R_alloc | apply Kd.R_drewN | apply Kd.R_drew)); exact HO_11.out) hb); have n1_ := Aside0.mk (Kd.R_below (by (with_reducible repeat (first | apply Kd.R_alloc | apply Kd.R_drewN | apply Kd.R_drew)); exact HO_16.out) hb); have n2_ := Aside0.mk (Kd.R_below (by (with_reducible repeat (first | apply Kd.R_alloc | apply Kd.R_drewN | apply Kd.R_drew)); exact HO_19.out) hb); have n3_ := Aside0.mk (Kd.R_below (by (with_reducible repeat (first | apply Kd.R_alloc | apply Kd.R_drewN | apply Kd.R_drew)); exact HO_22.out) hb); have n4_ := Aside0.mk (below_step (by repeat (first | (with_reducible first | exact HB.out | apply below_alloc | apply pw_below_drewN | apply below_drew1) | exact HB.out)) hb); clear HO_11; clear HO_16; clear HO_19; clear HO_22; clear HB; have HO_11 := n0_; have HO_16 := n1_; have HO_19 := n2_; have HO_22 := n3_; have HB := n4_; clear n0_ n1_ n2_ n3_ n4_; (try clear hb); (try clear hb2); (try clear hk); (try clear hi)))
                                go_ret
                                exact ⟨by first | rfl | (simp [errW_none, errW_some] <;> rfl) | (simp [*, errW_none, errW_some] <;> rfl), by repeat (first | (with_reducible first | exact HB.out | apply below_alloc | apply pw_below_drewN | apply below_drew1) | exact HB.out)⟩
                            · rw [if_neg c49] at H
                              have c49b0 : (t153 == 1) = false := beq_eq_false_iff_ne.mpr c49
                              have c49b1 : (t153 != 1) = true := bne_iff_ne.mpr c49
                              obtain rfl := Option.some.inj H
                              have p150 : 0 ≤ (0 : Int) := (by omega)
                              have q150 : 0 < (t127.length : Int) := of_decide_eq_true (by first | (with_reducible assumption) | assumption)
                              obtain ⟨ad150, e150, hx150_0, hx150_1⟩ := at_T41 (Kd.R_reads' HO_11.out).2.2 0 p150 q150
                              cases e150
                              have qi150 : (0 < t127.length) = True := eq_true (by omega)
                              (try rw [show ((0 : Int)).toNat = 0 from rfl] at hx150_0)
                              (try rw [show 0 * 2 = 0 from rfl] at hx150_0)
                              (try rw [Addr.add_zero'] at hx150_0)
                              (try rw [show ((0 : Int)).toNat = 0 from rfl] at hx150_1)
                              (try rw [show 0 * 2 = 0 from rfl] at hx150_1)
                              (try rw [Addr.add_zero'] at hx150_1)
                              replace p150 := eq_true p150
                              replace q150 := eq_true q150
                              have p151 : 0 ≤ (0 : Int) := (by omega)
                              have q151 : 0 < (t127.length : Int) := of_decide_eq_true (by first | (with_reducible assumption) | assumption)
                              obtain ⟨ad151, e151, hx151_0, hx151_1⟩ := at_T41 (Kd.R_reads' HO_11.out).2.2 0 p151 q151
                              obtain rfl : ad150 = ad151 := (by injection e151)
                              have qi151 : (0 < t127.length) = True := eq_true (by omega)
                              (try rw [show ((0 : Int)).toNat = 0 from rfl] at hx151_0)
                              (try rw [show 0 * 2 = 0 from rfl] at hx151_0)
                              (try rw [Addr.add_zero'] at hx151_0)
                              (try rw [show ((0 : Int)).toNat = 0 from rfl] at hx151_1)
                              (try rw [show 0 * 2 = 0 from rfl] at hx151_1)
                              (try rw [Addr.add_zero'] at hx151_1)
                              replace p151 := eq_true p151
                              replace q151 := eq_true q151
                              obtain ⟨Ao64, co64, eo64⟩ := Kd.R_slice HO_16.out
                              subst eo64
                              go_wp2_with (first | (go_at_call 17; (with_reducible refine (slots_IsFree.calls _ _ t136 0 true _ ?side1 ?side2 A43.out).mono ?_); (case side1 => repeat (first | exact (Kd.R_reads' HO_16.out).2.2 | (with_reducible refine Kd.C_alloc ?_ _) | (with_reducible refine Kd.C_drewN ?_ _) | (with_reducible refine Kd.C_drew ?_))); (case side2 => exact (Kd.R_reads' HO_16.out).2.1); rintro e w65 ⟨rfl, hb⟩; have n0_ := Aside0.mk (Kd.R_below (by (with_reducible repeat (first | apply Kd.R_alloc | apply Kd.R_drewN | apply Kd.R_drew)); exact HO_11.out) hb); have n1_ := Aside0.mk (Kd.R_below (by (with_reducible repeat (first | apply Kd.R_alloc | apply Kd.R_drewN | apply Kd.R_drew)); exact HO_16.out) hb); have n2_ := Aside0.mk (Kd.R_below (by (with_reducible repeat (first | apply Kd.R_alloc | apply Kd.R_drewN | apply Kd.R_drew)); exact HO_19.out) hb); have n3_ := Aside0.mk (Kd.R_below (by (with_reducible repeat (first | apply Kd.R_alloc | apply Kd.R_drewN | apply Kd.R_drew)); exact HO_22.out) hb); have n4_ := Aside0.mk (below_step (by repeat (first | (with_reducible first | exact HB.out | apply below_alloc | apply pw_below_drewN | apply below_drew1) | exact HB.out)) hb); clear HO_11; clear HO_16; clear HO_19; clear HO_22; clear HB; have HO_11 := n0_; have HO_16 := n1_; have HO_19 := n2_; have HO_22 := n3_; have HB := n4_; clear n0_ n1_ n2_ n3_ n4_; (try clear hb); (try clear hb2); (try clear hk); (try clear hi)) | (go_at_call 15; (with_reducible refine (slots_Used.calls kj9 _ _ t141 t153 _ ?side1 ?side2 A48.out).mono ?_); (case side1 => repeat (first | exact (Kd.R_reads' HO_19.out).2.2 | (with_reducible refine Kd.C_alloc ?_ _) | (with_reducible refine Kd.C_drewN ?_ _) | (with_reducible refine Kd.C_drew ?_))); (case side2 => exact (Kd.R_reads' HO_19.out).2.1); rintro e w66 ⟨rfl, hb⟩; have n0_ := Aside0.mk (Kd.R_below (by (with_reducible repeat (first | apply Kd.R_alloc | apply Kd.R_drewN | apply Kd.R_drew)); exact HO_11.out) hb); have n1_ := Aside0.mk (Kd.R_below (by (with_reducible repeat (first | apply Kd.R_alloc | apply Kd.R_drewN | apply Kd.R_drew)); exact HO_16.out) hb); have n2_ := Aside0.mk (Kd.R_below (by (with_reducible repeat (first | apply Kd.R_alloc | apply Kd.R_drewN | apply Kd.R_drew)); exact HO_19.out) hb); have n3_ := Aside0.mk (Kd.R_below (by (with_reducible repeat (first | apply Kd.R_alloc | apply Kd.R_drewN | apply Kd.R_drew)); exact HO_22.out) hb); have n4_ := Aside0.mk (below_step (by repeat (first | (with_reducible first | exact HB.out | apply below_alloc | apply pw_below_drewN | apply below_drew1) | exact HB.out)) hb); clear HO_11; clear HO_16; clear HO_19; clear HO_22; clear HB; have HO_11 := n0_; have HO_16 := n1_; have HO_19 := n2_; have HO_22 := n3_; have HB := n4_; clear n0_ n1_ n2_ n3_ n4_; (try clear hb); (try clear hb2); (try clear hk); (try clear hi)))
                              go_ret
                              exact ⟨by first | rfl | (simp [errW_none, errW_some] <;> rfl) | (simp [*, errW_none, errW_some] <;> rfl), by repeat (first | (with_reducible first | exact HB.out | apply below_alloc | apply pw_below_drewN | apply below_drew1) | exact HB.out)⟩
                        · replace c44 := Bool.eq_false_iff.mpr c44
                          subst c44
                          have H1 : (some false) = some r := by rw [if_neg (show ¬ (false = true) by decide)] at H; exact H
                          clear H
                          have H := H1
                          clear H1
                          obtain rfl := Option.some.inj H
                          have p150 : 0 ≤ (0 : Int) := (by omega)
                          have q150 : 0 < (t127.length : Int) := of_decide_eq_true (by first | (with_reducible assumption) | assumption)
                          obtain ⟨ad150, e150, hx150_0, hx150_1⟩ := at_T41 (Kd.R_reads' HO_11.out).2.2 0 p150 q150
                          cases e150
                          have qi150 : (0 < t127.length) = True := eq_true (by omega)
                          (try rw [show ((0 : Int)).toNat = 0 from rfl] at hx150_0)
                          (try rw [show 0 * 2 = 0 from rfl] at hx150_0)
                          (try rw [Addr.add_zero'] at hx150_0)
                          (try rw [show ((0 : Int)).toNat = 0 from rfl] at hx150_1)
                          (try rw [show 0 * 2 = 0 from rfl] at hx150_1)
                          (try rw [Addr.add_zero'] at hx150_1)
                          replace p150 := eq_true p150
                          replace q150 := eq_true q150
                          have p151 : 0 ≤ (0 : Int) := (by omega)
                          have q151 : 0 < (t127.length : Int) := of_decide_eq_true (by first | (with_reducible assumption) | assumption)
                          obtain ⟨ad151, e151, hx151_0, hx151_1⟩ := at_T41 (Kd.R_reads' HO_11.out).2.2 0 p151 q151
                          obtain rfl : ad150 = ad151 := (by injection e151)
                          have qi151 : (0 < t127.length) = True := eq_true (by omega)
                          (try rw [show ((0 : Int)).toNat = 0 from rfl] at hx151_0)
                          (try rw [show 0 * 2 = 0 from rfl] at hx151_0)
                          (try rw [Addr.add_zero'] at hx151_0)
                          (try rw [show ((0 : Int)).toNat = 0 from rfl] at hx151_1)
                          (try rw [show 0 * 2 = 0 from rfl] at hx151_1)
                          (try rw [Addr.add_zero'] at hx151_1)
                          replace p151 := eq_true p151
                          replace q151 := eq_true q151
                          obtain ⟨Ao67, co67, eo67⟩ := Kd.R_slice HO_16.out
                          subst eo67
                          go_wp2_with (first | (go_at_call 17; (with_reducible refine (slots_IsFree.calls _ _ t136 0 false _ ?side1 ?side2 A43.out).mono ?_); (case side1 => repeat (first | exact (Kd.R_reads' HO_16.out).2.2 | (with_reducible refine Kd.C_alloc ?_ _) | (with_reducible refine Kd.C_drewN ?_ _) | (with_reducible refine Kd.C_drew ?_))); (case side2 => exact (Kd.R_reads' HO_16.out).2.1); rintro e w68 ⟨rfl, hb⟩; have n0_ := Aside0.mk (Kd.R_below (by (with_reducible repeat (first | apply Kd.R_alloc | apply Kd.R_drewN | apply Kd.R_drew)); exact HO_11.out) hb); have n1_ := Aside0.mk (Kd.R_below (by (with_reducible repeat (first | apply Kd.R_alloc | apply Kd.R_drewN | apply Kd.R_drew)); exact HO_16.out) hb); have n2_ := Aside0.mk (Kd.R_below (by (with_reducible repeat (first | apply Kd.R_alloc | apply Kd.R_drewN | apply Kd.R_drew)); exact HO_19.out) hb); have n3_ := Aside0.mk (Kd.R_below (by (with_reducible repeat (first | apply Kd.R_alloc | apply Kd.R_drewN | apply Kd.R_drew)); exact HO_22.out) hb); have n4_ := Aside0.mk (below_step (by repeat (first | (with_reducible first | exact HB.out | apply below_alloc | apply pw_below_drewN | apply below_drew1) | exact HB.out)) hb); clear HO_11; clear HO_16; clear HO_19; clear HO_22; clear HB; have HO_11 := n0_; have HO_16 := n1_; have HO_19 := n2_; have HO_22 := n3_; have HB := n4_; clear n0_ n1_ n2_ n3_ n4_; (try clear hb); (try clear hb2); (try clear hk); (try clear hi)))
                          go_ret
                          exact ⟨by first | rfl | (simp [errW_none, errW_some] <;> rfl) | (simp [*, errW_none, errW_some] <;> rfl), by repeat (first | (with_reducible first | exact HB.out | apply below_alloc | apply pw_below_drewN | apply below_drew1) | exact HB.out)⟩
                      · replace c42 := Bool.eq_false_iff.mpr c42
                        subst c42
                        have H1 : (some false) = some r := by rw [if_neg (show ¬ (false = true) by decide)] at H; exact H
                        clear H
                        have H := H1
                        clear H1
                        obtain rfl := Option.some.inj H
                        have p150 : 0 ≤ (0 : Int) := (by omega)
                        have q150 : 0 < (t127.length : Int) := of_decide_eq_true (by first | (with_reducible assumption) | assumption)
                        obtain ⟨ad150, e150, hx150_0, hx150_1⟩ := at_T41 (Kd.R_reads' HO_11.out).2.2 0 p150 q150
                        cases e150
                        have qi150 : (0 < t127.length) = True := eq_true (by omega)
                        (try rw [show ((0 : Int)).toNat = 0 from rfl] at hx150_0)
                        (try rw [show 0 * 2 = 0 from rfl] at hx150_0)
                        (try rw [Addr.add_zero'] at hx150_0)
                        (try rw [show ((0 : Int)).toNat = 0 from rfl] at hx150_1)
                        (try rw [show 0 * 2 = 0 from rfl] at hx150_1)
                        (try rw [Addr.add_zero'] at hx150_1)
                        replace p150 := eq_true p150
                        replace q150 := eq_true q150
                        have p151 : 0 ≤ (0 : Int) := (by omega)
                        have q151 : 0 < (t127.length : Int) := of_decide_eq_true (by first | (with_reducible assumption) | assumption)
                        obtain ⟨ad151, e151, hx151_0, hx151_1⟩ := at_T41 (Kd.R_reads' HO_11.out).2.2 0 p151 q151
                        obtain rfl : ad150 = ad151 := (by injection e151)
                        have qi151 : (0 < t127.length) = True := eq_true (by omega)
                        (try rw [show ((0 : Int)).toNat = 0 from rfl] at hx151_0)
                        (try rw [show 0 * 2 = 0 from rfl] at hx151_0)
                        (try rw [Addr.add_zero'] at hx151_0)
                        (try rw [show ((0 : Int)).toNat = 0 from rfl] at hx151_1)
                        (try rw [show 0 * 2 = 0 from rfl] at hx151_1)
                        (try rw [Addr.add_zero'] at hx151_1)
                        replace p151 := eq_true p151
                        replace q151 := eq_true q151
                        go_wp2
                        go_ret
                        exact ⟨by first | rfl | (simp [errW_none, errW_some] <;> rfl) | (simp [*, errW_none, errW_some] <;> rfl), by repeat (first | (with_reducible first | exact HB.out | apply below_alloc | apply pw_below_drewN | apply below_drew1) | exact HB.out)⟩
                  · rw [if_neg c40] at H
                    have c40b0 : (((rd_T41 t127 0).f0) == 1) = false := beq_eq_false_iff_ne.mpr c40
                    have c40b1 : (((rd_T41 t127 0).f0) != 1) = true := bne_iff_ne.mpr c40
                    obtain rfl := Option.some.inj H
                    have p150 : 0 ≤ (0 : Int) := (by omega)
                    have q150 : 0 < (t127.length : Int) := of_decide_eq_true (by first | (with_reducible assumption) | assumption)
                    obtain ⟨ad150, e150, hx150_0, hx150_1⟩ := at_T41 (Kd.R_reads' HO_11.out).2.2 0 p150 q150
                    cases e150
                    have qi150 : (0 < t127.length) = True := eq_true (by omega)
                    (try rw [show ((0 : Int)).toNat = 0 from rfl] at hx150_0)
                    (try rw [show 0 * 2 = 0 from rfl] at hx150_0)
                    (try rw [Addr.add_zero'] at hx150_0)
                    (try rw [show ((0 : Int)).toNat = 0 from rfl] at hx150_1)
                    (try rw [show 0 * 2 = 0 from rfl] at hx150_1)
                    (try rw [Addr.add_zero'] at hx150_1)
                    replace p150 := eq_true p150
                    replace q150 := eq_true q150
                    have p151 : 0 ≤ (0 : Int) := (by omega)
                    have q151 : 0 < (t127.length : Int) := of_decide_eq_true (by first | (with_reducible assumption) | assumption)
                    obtain ⟨ad151, e151, hx151_0, hx151_1⟩ := at_T41 (Kd.R_reads' HO_11.out).2.2 0 p151 q151
                    obtain rfl : ad150 = ad151 := (by injection e151)
                    have qi151 : (0 < t127.length) = True := eq_true (by omega)
                    (try rw [show ((0 : Int)).toNat = 0 from rfl] at hx151_0)
                    (try rw [show 0 * 2 = 0 from rfl] at hx151_0)
                    (try rw [Addr.add_zero'] at hx151_0)
                    (try rw [show ((0 : Int)).toNat = 0 from rfl] at hx151_1)
                    (try rw [show 0 * 2 = 0 from rfl] at hx151_1)
                    (try rw [Addr.add_zero'] at hx151_1)
                    replace p151 := eq_true p151
                    replace q151 := eq_true q151
                    go_wp2
                    go_ret
                    exact ⟨by first | rfl | (simp [errW_none, errW_some] <;> rfl) | (simp [*, errW_none, errW_some] <;> rfl), by repeat (first | (with_reducible first | exact HB.out | apply below_alloc | apply pw_below_drewN | apply below_drew1) | exact HB.out)⟩
                · rw [if_neg c39] at H
                  have c39b0 : (((rd_T41 t127 0).f1) == 2) = false := beq_eq_false_iff_ne.mpr c39
                  have c39b1 : (((rd_T41 t127 0).f1) != 2) = true := bne_iff_ne.mpr c39
                  obtain rfl := Option.some.inj H
                  have p150 : 0 ≤ (0 : Int) := (by omega)
                  have q150 : 0 < (t127.length : Int) := of_decide_eq_true (by first | (with_reducible assumption) | assumption)
                  obtain ⟨ad150, e150, hx150_0, hx150_1⟩ := at_T41 (Kd.R_reads' HO_11.out).2.2 0 p150 q150
                  cases e150
                  have qi150 : (0 < t127.length) = True := eq_true (by omega)
                  (try rw [show ((0 : Int)).toNat = 0 from rfl] at hx150_0)
                  (try rw [show 0 * 2 = 0 from rfl] at hx150_0)
                  (try rw [Addr.add_zero'] at hx150_0)
                  (try rw [show ((0 : Int)).toNat = 0 from rfl] at hx150_1)
                  (try rw [show 0 * 2 = 0 from rfl] at hx150_1)
                  (try rw [Addr.add_zero'] at hx150_1)
                  replace p150 := eq_true p150
                  replace q150 := eq_true q150
                  go_wp2
                  go_ret
                  exact ⟨by first | rfl | (simp [errW_none, errW_some] <;> rfl) | (simp [*, errW_none, errW_some] <;> rfl), by repeat (first | (with_reducible first | exact HB.out | apply below_alloc | apply pw_below_drewN | apply below_drew1) | exact HB.out)⟩
              · rw [if_neg c38] at H
                exact absurd H (by simp)
            · rw [if_neg c37] at H
              have c37b0 : ((t127.length : Int) == 3) = false := beq_eq_false_iff_ne.mpr c37
              have c37b1 : ((t127.length : Int) != 3) = true := bne_iff_ne.mpr c37
              obtain rfl := Option.some.inj H
              go_wp2
              go_ret
              exact ⟨by first | rfl | (simp [errW_none, errW_some] <;> rfl) | (simp [*, errW_none, errW_some] <;> rfl), by repeat (first | (with_reducible first | exact HB.out | apply below_alloc | apply pw_below_drewN | apply below_drew1) | exact HB.out)⟩
          · rw [if_neg c36] at H
            have c36b0 : (t119 == 1) = false := beq_eq_false_iff_ne.mpr c36
            have c36b1 : (t119 != 1) = true := bne_iff_ne.mpr c36
            obtain rfl := Option.some.inj H
            go_wp2
            go_ret
            exact ⟨by first | rfl | (simp [errW_none, errW_some] <;> rfl) | (simp [*, errW_none, errW_some] <;> rfl), by repeat (first | (with_reducible first | exact HB.out | apply below_alloc | apply pw_below_drewN | apply below_drew1) | exact HB.out)⟩
        · rw [if_neg c35] at H
          have c35b0 : (t114 == 0) = false := beq_eq_false_iff_ne.mpr c35
          have c35b1 : (t114 != 0) = true := bne_iff_ne.mpr c35
          obtain rfl := Option.some.inj H
          go_wp2
          go_ret
          exact ⟨by first | rfl | (simp [errW_none, errW_some] <;> rfl) | (simp [*, errW_none, errW_some] <;> rfl), by repeat (first | (with_reducible first | exact HB.out | apply below_alloc | apply pw_below_drewN | apply below_drew1) | exact HB.out)⟩
      · replace c34 := Bool.eq_false_iff.mpr c34
        subst c34
        have H1 : (some false) = some r := by rw [if_neg (show ¬ (false = true) by decide)] at H; exact H
        clear H
        have H := H1
        clear H1
        obtain rfl := Option.some.inj H
        go_wp2
        go_ret
        exact ⟨by first | rfl | (simp [errW_none, errW_some] <;> rfl) | (simp [*, errW_none, errW_some] <;> rfl), by repeat (first | (with_reducible first | exact HB.out | apply below_alloc | apply pw_below_drewN | apply below_drew1) | exact HB.out)⟩

/-! ### estoversref32_New: function 11 -/
mutual
def estoversref32_New.j0 : Nat → Int → Bool → Option ((List (S41)) × Int)
  | 0, _, _ => none
  | k + 1, x0, x11 => if x11 = true then (some (([] : List (S41)), 2)) else (estoversref32_New.l0 k x0 ([] : List (S41)) 0)
def estoversref32_New.l0 : Nat → Int → List (S41) → Int → Option ((List (S41)) × Int)
  | 0, _, _, _ => none
  | k + 1, x0, x4, x5 => if x5 < x0 then (if x4.length < 8796093022208 then (estoversref32_New.l0 k x0 (x4 ++ [(⟨0, 0⟩ : S41)]) (wrap64 (x5 + 1))) else (none)) else (some (x4, 0))
end
def estoversref32_New.f (k : Nat) (a0 : Int) : Option ((List (S41)) × Int) := if a0 < 0 then (estoversref32_New.j0 k a0 true) else (estoversref32_New.j0 k a0 (decide (a0 > 64)))
theorem estoversref32_New.mono_l : ∀ k, (∀ y0 y1, LeO (estoversref32_New.j0 k y0 y1) (estoversref32_New.j0 (k + 1) y0 y1)) ∧ (∀ y0 y1 y2, LeO (estoversref32_New.l0 k y0 y1 y2) (estoversref32_New.l0 (k + 1) y0 y1 y2))
  | 0 => ⟨fun _ _ r h => by simp [estoversref32_New.j0] at h, fun _ _ _ r h => by simp [estoversref32_New.l0] at h⟩
  | k + 1 => by
    obtain ⟨ih0, ih1⟩ := estoversref32_New.mono_l k
    refine ⟨?_, ?_⟩
    · intro y0 y1
      unfold estoversref32_New.j0
      repeat' first
      | (with_reducible exact ih0 _ _)
      | (with_reducible exact ih1 _ _ _)
      | (with_reducible exact LeO.refl _)
      | (with_reducible exact LeO.none _)
      | (with_reducible refine LeO.ite ?_ ?_)
      | (with_reducible refine LeO.bind ?_ (fun _ => ?_))
      | exact ih0 _ _
      | exact ih1 _ _ _
      | exact LeO.none _
      | refine LeO.ite ?_ ?_
      | refine LeO.bind ?_ (fun _ => ?_)
    · intro y0 y1 y2
      unfold estoversref32_New.l0
      repeat' first
      | (with_reducible exact ih0 _ _)
      | (with_reducible exact ih1 _ _ _)
      | (with_reducible exact LeO.refl _)
      | (with_reducible exact LeO.none _)
      | (with_reducible refine LeO.ite ?_ ?_)
      | (with_reducible refine LeO.bind ?_ (fun _ => ?_))
      | exact ih0 _ _
      | exact ih1 _ _ _
      | exact LeO.none _
      | refine LeO.ite ?_ ?_
      | refine LeO.bind ?_ (fun _ => ?_)
theorem estoversref32_New.mono : ∀ a0 k, LeO (estoversref32_New.f k a0) (estoversref32_New.f (k + 1) a0) := by
  intro a0 k
  obtain ⟨ih0, ih1⟩ := estoversref32_New.mono_l k
  unfold estoversref32_New.f
  repeat' first
      | (with_reducible exact ih0 _ _)
      | (with_reducible exact ih1 _ _ _)
      | (with_reducible exact LeO.refl _)
      | (with_reducible exact LeO.none _)
      | (with_reducible refine LeO.ite ?_ ?_)
      | (with_reducible refine LeO.bind ?_ (fun _ => ?_))
      | exact ih0 _ _
      | exact ih1 _ _ _
      | exact LeO.none _
      | refine LeO.ite ?_ ?_
      | refine LeO.bind ?_ (fun _ => ?_)
set_option maxHeartbeats 8000000 in
set_option maxRecDepth 100000 in
theorem estoversref32_New.calls (k : Nat) (a0 : Int) (r1 : List (S41)) (r2 : Int) (w : World) (h : estoversref32_New.f k a0 = some (r1, r2)) :
    Calls Try.prog 11 #[.int .i64 a0] w fun e w' => ∃ v0_ : Value, e = .returned (.tuple #[v0_, .int .i64 r2]) ∧ Kd.R k41 41 w' w.heap.size (fun _ => True) v0_ r1 ∧ Below w.heap.size w w' := by
  have hu41 := Try.underlying41
  have HB := Aside0.mk (Below.refl w.heap.size w)
  have H : (if a0 < 0 then (estoversref32_New.j0 k a0 true) else (estoversref32_New.j0 k a0 (decide (a0 > 64)))) = some (r1, r2) := h
  clear h
  have HC2 := Aside0.mk H
  clear H
  go_enter Try.func11, Try.ntmps11
  go_upto_region 1 with (fail)
  go_cut [11] (fun v11 wc => ∃ (kq : Nat) (x11_1 : Bool), v11 = .bool x11_1 ∧ Aside0 (estoversref32_New.j0 kq a0 x11_1 = some (r1, r2)) ∧ Aside0 (kq ≤ k) ∧ Aside0 (Below w.heap.size w wc))
  case first =>
    have H := HC2.out
    clear HC2
    by_cases c3 : a0 < 0
    · rw [if_pos c3] at H
      have c3b0 : decide (a0 < 0) = true := decide_eq_true c3
      clear c3
      (first | rw [c3b0] | (simp only [i64_w, i32_w]; rw [c3b0]) | skip)
      have H' := Aside0.mk H
      clear H
      go_wp2
      go_meet
      case rel => exact ⟨_, (true), (by first | rfl | (simp; done) | (simp [*]; done)), H', ⟨by first | omega | exact Nat.le_refl _⟩, ⟨by repeat (first | (with_reducible first | exact HB.out | apply below_alloc | apply pw_below_drewN | apply below_drew1) | exact HB.out)⟩⟩
    · rw [if_neg c3] at H
      have c3b0 : decide (a0 < 0) = false := decide_eq_false c3
      clear c3
      (first | rw [c3b0] | (simp only [i64_w, i32_w]; rw [c3b0]) | skip)
      have H' := Aside0.mk H
      clear H
      go_wp2
      go_meet
      case rel => exact ⟨_, (decide (a0 > 64)), (by first | rfl | (simp; done) | (simp [*]; done)), H', ⟨by first | omega | exact Nat.le_refl _⟩, ⟨by repeat (first | (with_reducible first | exact HB.out | apply below_alloc | apply pw_below_drewN | apply below_drew1) | exact HB.out)⟩⟩
  case rest =>
    clear HC2
    try clear c1
    try clear p2
    try clear c3
    try clear c3b0
    obtain ⟨kq, x11_1, rfl, HA, HJ1, HB⟩ := hcut
    cases kq with
    | zero => exact absurd HA.out (by simp [estoversref32_New.j0])
    | succ kj1 =>
      have H := HA.out
      clear HA
      simp only [estoversref32_New.j0] at H
      by_cases c4 : x11_1 = true
      · subst c4
        have H1 : (some (([] : List (S41)), 2)) = some (r1, r2) := by rw [if_pos rfl] at H; exact H
        clear H
        have H := H1
        clear H1
        simp only [Option.some.injEq, Prod.mk.injEq] at H
        obtain ⟨rfl, rfl⟩ := H
        go_wp2
        go_ret2
        exact ⟨_, by first | rfl | (simp [errW_none, errW_some] <;> rfl) | (simp [*, errW_none, errW_some] <;> rfl), by first | exact Kd.R_nil _ _ _ _ _ | exact Kd.N_nil _ _ _ _ _ | exact Kd.V_nil _ _ _ _ _ | exact Kd.Q_nil _ _ _ _ _ | exact Kd.S_nil _ _ _ _ _, by repeat (first | (with_reducible first | exact HB.out | apply below_alloc | apply pw_below_drewN | apply below_drew1) | exact HB.out)⟩
      · replace c4 := Bool.eq_false_iff.mpr c4
        subst c4
        have H1 : (estoversref32_New.l0 kj1 a0 ([] : List (S41)) 0) = some (r1, r2) := by rw [if_neg (show ¬ (false = true) by decide)] at H; exact H
        clear H
        have H := H1
        clear H1
        have H' := Aside0.mk H
        clear H
        go_wp2
        go_loopg [4, 5] kj1 (fun kq v4 v5 w' => ∃ (x4_2 : List (S41)) (x5_2 : Int), v5 = .int .i64 x5_2 ∧ Aside0 (estoversref32_New.l0 kq a0 x4_2 x5_2 = some (r1, r2)) ∧ Aside0 (kq ≤ kj1) ∧ Aside0 (Kd.R k41 41 w' w.heap.size (fun _ => True) v4 x4_2) ∧ Aside0 (Below w.heap.size w w'))
        case atStart => exact ⟨(([] : List (S41))), (0), (by first | rfl | (simp; done) | (simp [*]; done)), H', ⟨Nat.le_refl _⟩, ⟨by first | exact Kd.R_nil _ _ _ _ _ | exact Kd.N_nil _ _ _ _ _ | exact Kd.V_nil _ _ _ _ _ | exact Kd.Q_nil _ _ _ _ _ | exact Kd.S_nil _ _ _ _ _⟩, ⟨by repeat (first | (with_reducible first | exact HB.out | apply below_alloc | apply pw_below_drewN | apply below_drew1) | exact HB.out)⟩⟩
        case round =>
          clear H'
          try clear c1
          try clear p2
          try clear c3
          try clear c3b0
          try clear c4
          try clear p2
          obtain ⟨x4_2, x5_2, rfl, HA, HK2, HO_4, HB⟩ := hrel
          cases gk with
          | zero => exact absurd HA.out (by simp [estoversref32_New.l0])
          | succ k2 =>
            have H := HA.out
            clear HA
            simp only [estoversref32_New.l0] at H
            by_cases c5 : x5_2 < a0
            · rw [if_pos c5] at H
              have c5b0 : decide (x5_2 < a0) = true := decide_eq_true c5
              clear c5
              by_cases c6 : x4_2.length < 8796093022208
              · rw [if_pos c6] at H
                have LMc6 := Aside0.mk c6
                clear c6
                obtain ⟨y156, hy156⟩ : ∃ y_ : List (S41), y_ = (x4_2 ++ [(⟨0, 0⟩ : S41)]) := ⟨_, rfl⟩
                replace H : (estoversref32_New.l0 k2 a0 y156 (wrap64 (x5_2 + 1))) = some (r1, r2) := by first | (rw [hy156]; with_reducible exact H) | (have H2_ := (Option.bind_some _ _).symm.trans H; rw [hy156]; with_reducible exact H2_) | (have H2_ := (Option.bind_some _ _).symm.trans H; with_reducible exact H2_) | with_reducible exact H | (rw [hy156]; exact H) | exact H
                have Ny156 := Aside0.mk hy156
                clear hy156
                have H' := Aside0.mk H
                clear H
                go_wp2_with (first | ((with_reducible refine gate_builtin (b := .append) (xs := #[.tmp 17, .tmp 19]) rfl ?_); at_builtin; refine Kd.R_append k41 (w0 := w) w.heap.size rfl (.tmp 17) (.tmp 19) 22 41 (.agg #[(.int .i64 0), (.int .i64 0)]) 16 rfl Try.underlying22 info41 rfl (by decide) (by omega) u4 x4_2 (⟨0, 0⟩ : S41) [.int .i64 0, .int .i64 0] (fun _ => True) (fun _ => False) rfl rfl ?aP (fun _ hk => hk.elim) ?aF ?aO ?aB ?aS ?aL ?_; (case aP => exact k41_mkM _ _ _ (⟨0, 0⟩ : S41)); (case aB => exact (by repeat (first | (with_reducible first | exact HB.out | apply below_alloc | apply pw_below_drewN | apply below_drew1) | exact HB.out))); (case aF => exact (fun _ _ => trivial)); (case aO => exact (by (with_reducible repeat (first | apply Kd.R_alloc | apply Kd.R_drewN | apply Kd.R_drew)); exact HO_4.out)); (case aS => exact (below_size (by repeat (first | (with_reducible first | exact HB.out | apply below_alloc | apply pw_below_drewN | apply below_drew1) | exact HB.out)))); (case aL => have := LMc6.out; omega); intro v157 w7 ho hb hg hat; rw [← Ny156.out] at ho; have n0_ := Aside0.mk (hb); have n1_ := Aside0.mk (ho); clear HB; clear HO_4; have HB := n0_; have HO158 := n1_; clear n0_ n1_; clear ho hb hg hat))
                go_roundg k2
                case measure => have := HJ1.out; have := HK2.out; omega
                case rel => exact ⟨(y156), (wrap64 (x5_2 + 1)), (by first | rfl | (simp; done) | (simp [*]; done)), H', ⟨by have := HJ1.out; have := HK2.out; omega⟩, ⟨by (with_reducible repeat (first | apply Kd.R_alloc | apply Kd.R_drewN | apply Kd.R_drew)); exact HO158.out⟩, ⟨by repeat (first | (with_reducible first | exact HB.out | apply below_alloc | apply pw_below_drewN | apply below_drew1) | exact HB.out)⟩⟩
              · rw [if_neg c6] at H
                exact absurd H (by simp)
            · rw [if_neg c5] at H
              have c5b0 : decide (x5_2 < a0) = false := decide_eq_false c5
              clear c5
              simp only [Option.some.injEq, Prod.mk.injEq] at H
              obtain ⟨rfl, rfl⟩ := H
              go_wp2
              go_ret2
              exact ⟨_, by first | rfl | (simp [errW_none, errW_some] <;> rfl) | (simp [*, errW_none, errW_some] <;> rfl), by (with_reducible repeat (first | apply Kd.R_alloc | apply Kd.R_drewN | apply Kd.R_drew)); exact HO_4.out, by repeat (first | (with_reducible first | exact HB.out | apply below_alloc | apply pw_below_drewN | apply below_drew1) | exact HB.out)⟩

end Go.Proofs.Ytjaondnglmimaaa.X
