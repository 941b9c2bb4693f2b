/-
  No cell of these rows narrows 'for every input' (looked for: loops, veiled, ifaces, maps, wideKeys, modest, calm, conditions, laid).
  DERIVED. THE GIVEN ROWS OF THIS SEAT. 6 by the template 'for every input the law returns true; each argument reads behind the call as it read before'; 0 by the template 'total and deterministic' (their statements: YtjaondnglmimaaaTotals.lean).
  GIVEN WITH THE SEED: the statements are not yours to turn. If you find one false, say at which input.
  Laid BY PROGRAM, IN A SANDBOX (cutbox-rows.mjs): the forced cells as the released guide's own fill.sh prints them over the translation 2e6311e416da829e… (all of the seat's roots in one cut). By AI agents, Wed Nov 11 2026. No macro, syntax, notation, axiom, sorry.
-/
import Derived.Test.YtjaondnglmimaaaChecked
import GoSem.Claim
import GoSem.ClaimJoined
import GoSem.ClaimMapViews
import Derived.JoinedTies
import Derived.KernelRfl
namespace Go.Proofs.Ytjaondnglmimaaa
/- THE CELL 'sum', in the pinned program and in every row, IS THE sha256 OF THE DUMP (.gsa) THAT YtjaondnglmimaaaProg.lean LOADS. Nothing in Lean hashes anything: it is a label: what it is worth is what the hold of that sum in a sandbox is worth. -/
noncomputable def Try.pinned : Pinned := { name := "ytjaondnglmimaaa", sum := "2e6311e416da829e99e743ce7aab5de0afb4254416d4fdf34c6c9e23caaba75d", checked := Try.checked }
namespace Rows
def none {H : Type} : Left H := { results := [], args := [] }

/-- 'estoverslaw32.SlotsChecks': WHATEVER THE INPUT: true; the input reads as it did. -/
def slotsChecksSpec : ChangeSpec := { name := "slotsChecks", fn := fun _ => fun
  | [d1, d2, d3] => { results := [.lit (.bool true)], args := [d1, d2, d3] }
  | _ => none }
def slotsChecksRow : OpenClaim := { program := "ytjaondnglmimaaa", sum := "2e6311e416da829e99e743ce7aab5de0afb4254416d4fdf34c6c9e23caaba75d", func := "estovers/estoverslaw32.SlotsChecks", spec := "slotsChecks", unfollowed := true, recurses := true, apart := false }
def SlotsChecksSaid : Prop := slotsChecksRow.holds Try.pinned (OpenSpec.ofChange slotsChecksSpec)

/-- ITS FALSE NEIGHBOUR: 'it returns false'. Refute it at one input. -/
def slotsChecksWrong : ChangeSpec := { name := "slotsChecks", fn := fun _ => fun
  | [d1, d2, d3] => { results := [.lit (.bool false)], args := [d1, d2, d3] }
  | _ => none }
def SlotsChecksWrongFalsely : Prop := slotsChecksRow.holds Try.pinned (OpenSpec.ofChange slotsChecksWrong)

/-- 'estoverslaw32.SlotsReferences': WHATEVER THE INPUT: true; the input reads as it did. -/
def slotsReferencesSpec : ChangeSpec := { name := "slotsReferences", fn := fun _ => fun
  | [d1, d2] => { results := [.lit (.bool true)], args := [d1, d2] }
  | _ => none }
def slotsReferencesRow : OpenClaim := { program := "ytjaondnglmimaaa", sum := "2e6311e416da829e99e743ce7aab5de0afb4254416d4fdf34c6c9e23caaba75d", func := "estovers/estoverslaw32.SlotsReferences", spec := "slotsReferences", unfollowed := true, recurses := true, apart := false }
def SlotsReferencesSaid : Prop := slotsReferencesRow.holds Try.pinned (OpenSpec.ofChange slotsReferencesSpec)

/-- ITS FALSE NEIGHBOUR: 'it returns false'. Refute it at one input. -/
def slotsReferencesWrong : ChangeSpec := { name := "slotsReferences", fn := fun _ => fun
  | [d1, d2] => { results := [.lit (.bool false)], args := [d1, d2] }
  | _ => none }
def SlotsReferencesWrongFalsely : Prop := slotsReferencesRow.holds Try.pinned (OpenSpec.ofChange slotsReferencesWrong)

/-- 'estoverslaw32.SlotsFull': WHATEVER THE INPUT: true; the input reads as it did. -/
def slotsFullSpec : ChangeSpec := { name := "slotsFull", fn := fun _ => fun
  | [d] => { results := [.lit (.bool true)], args := [d] }
  | _ => none }
def slotsFullRow : OpenClaim := { program := "ytjaondnglmimaaa", sum := "2e6311e416da829e99e743ce7aab5de0afb4254416d4fdf34c6c9e23caaba75d", func := "estovers/estoverslaw32.SlotsFull", spec := "slotsFull", unfollowed := true, recurses := true, apart := false }
def SlotsFullSaid : Prop := slotsFullRow.holds Try.pinned (OpenSpec.ofChange slotsFullSpec)

/-- ITS FALSE NEIGHBOUR: 'it returns false'. Refute it at one input. -/
def slotsFullWrong : ChangeSpec := { name := "slotsFull", fn := fun _ => fun
  | [d] => { results := [.lit (.bool false)], args := [d] }
  | _ => none }
def SlotsFullWrongFalsely : Prop := slotsFullRow.holds Try.pinned (OpenSpec.ofChange slotsFullWrong)

/-- 'estoverslaw32.SlotsBack': WHATEVER THE INPUT: true; the input reads as it did. -/
def slotsBackSpec : ChangeSpec := { name := "slotsBack", fn := fun _ => fun
  | [d1, d2, d3] => { results := [.lit (.bool true)], args := [d1, d2, d3] }
  | _ => none }
def slotsBackRow : OpenClaim := { program := "ytjaondnglmimaaa", sum := "2e6311e416da829e99e743ce7aab5de0afb4254416d4fdf34c6c9e23caaba75d", func := "estovers/estoverslaw32.SlotsBack", spec := "slotsBack", unfollowed := true, recurses := true, apart := false }
def SlotsBackSaid : Prop := slotsBackRow.holds Try.pinned (OpenSpec.ofChange slotsBackSpec)

/-- ITS FALSE NEIGHBOUR: 'it returns false'. Refute it at one input. -/
def slotsBackWrong : ChangeSpec := { name := "slotsBack", fn := fun _ => fun
  | [d1, d2, d3] => { results := [.lit (.bool false)], args := [d1, d2, d3] }
  | _ => none }
def SlotsBackWrongFalsely : Prop := slotsBackRow.holds Try.pinned (OpenSpec.ofChange slotsBackWrong)

/-- 'estoverslaw32.SlotsSteps': WHATEVER THE INPUT: true; the input reads as it did. -/
def slotsStepsSpec : ChangeSpec := { name := "slotsSteps", fn := fun _ => fun
  | [d1, d2] => { results := [.lit (.bool true)], args := [d1, d2] }
  | _ => none }
def slotsStepsRow : OpenClaim := { program := "ytjaondnglmimaaa", sum := "2e6311e416da829e99e743ce7aab5de0afb4254416d4fdf34c6c9e23caaba75d", func := "estovers/estoverslaw32.SlotsSteps", spec := "slotsSteps", unfollowed := true, recurses := true, apart := false }
def SlotsStepsSaid : Prop := slotsStepsRow.holds Try.pinned (OpenSpec.ofChange slotsStepsSpec)

/-- ITS FALSE NEIGHBOUR: 'it returns false'. Refute it at one input. -/
def slotsStepsWrong : ChangeSpec := { name := "slotsSteps", fn := fun _ => fun
  | [d1, d2] => { results := [.lit (.bool false)], args := [d1, d2] }
  | _ => none }
def SlotsStepsWrongFalsely : Prop := slotsStepsRow.holds Try.pinned (OpenSpec.ofChange slotsStepsWrong)

/-- 'estoverslaw32.SlotsAlone': WHATEVER THE INPUT: true; the input reads as it did. -/
def slotsAloneSpec : ChangeSpec := { name := "slotsAlone", fn := fun _ => fun
  | [d1, d2] => { results := [.lit (.bool true)], args := [d1, d2] }
  | _ => none }
def slotsAloneRow : OpenClaim := { program := "ytjaondnglmimaaa", sum := "2e6311e416da829e99e743ce7aab5de0afb4254416d4fdf34c6c9e23caaba75d", func := "estovers/estoverslaw32.SlotsAlone", spec := "slotsAlone", unfollowed := true, recurses := true, apart := false }
def SlotsAloneSaid : Prop := slotsAloneRow.holds Try.pinned (OpenSpec.ofChange slotsAloneSpec)

/-- ITS FALSE NEIGHBOUR: 'it returns false'. Refute it at one input. -/
def slotsAloneWrong : ChangeSpec := { name := "slotsAlone", fn := fun _ => fun
  | [d1, d2] => { results := [.lit (.bool false)], args := [d1, d2] }
  | _ => none }
def SlotsAloneWrongFalsely : Prop := slotsAloneRow.holds Try.pinned (OpenSpec.ofChange slotsAloneWrong)

/- THE SECOND FORM. 'bulk': how many values and letters a reading holds, each counted each time it is reached (what is shared counts as often as it is met; a slice's spare places count too). A statement '..UptoSaid' is the law's where the arguments, and the package variables that the reading takes, are together of bulk at most 1048576: NARROWER than '..Said'. Prove '..Said' where nothing that the law and all that it calls make is longer than what came in: it says more and counts as full. Else prove '..UptoSaid'. A law counts once. -/
mutual
def uptoBulk {H : Type} : DataW H → Nat
  | .lit (.string bytes) => bytes.length + 1
  | .lit _ => 1
  | .nil => 1
  | .ptr d => uptoBulk d + 1
  | .slice elems spare => uptoBulkAll elems + uptoBulkAll spare + 1
  | .agg parts => uptoBulkAll parts + 1
  | .iface _ d => uptoBulk d + 1
  | .map entries => uptoBulkEntries entries + 1
  | .held _ => 1
def uptoBulkAll {H : Type} : List (DataW H) → Nat
  | [] => 0
  | d :: r => uptoBulk d + uptoBulkAll r
def uptoBulkEntries {H : Type} : List (Lit × DataW H) → Nat
  | [] => 0
  | x :: r => uptoBulkEntry x + uptoBulkEntries r
def uptoBulkEntry {H : Type} : Lit × DataW H → Nat
  | (.string bytes, d) => bytes.length + uptoBulk d + 1
  | (_, d) => uptoBulk d + 1
 end
def uptoSmall : (H : Type) → List (DataW H) → Bool := fun _ ds => decide (uptoBulkAll ds ≤ 1048576)
def OpenSpec.upto (s : _root_.Go.ChangeSpec) : _root_.Go.OpenSpec := { _root_.Go.OpenSpec.ofChange s with cond := some uptoSmall }

/-- 'estoverslaw32.SlotsChecks', WHERE WHAT IT READS IS OF BULK AT MOST 1048576: true; the input reads as it did. -/
def slotsChecksUptoRow : OpenClaim := { program := "ytjaondnglmimaaa", sum := "2e6311e416da829e99e743ce7aab5de0afb4254416d4fdf34c6c9e23caaba75d", func := "estovers/estoverslaw32.SlotsChecks", spec := "slotsChecks", unfollowed := true, recurses := true, apart := false, narrowed := true }
def SlotsChecksUptoSaid : Prop := slotsChecksUptoRow.holds Try.pinned (OpenSpec.upto slotsChecksSpec)

/-- 'estoverslaw32.SlotsReferences', WHERE WHAT IT READS IS OF BULK AT MOST 1048576: true; the input reads as it did. -/
def slotsReferencesUptoRow : OpenClaim := { program := "ytjaondnglmimaaa", sum := "2e6311e416da829e99e743ce7aab5de0afb4254416d4fdf34c6c9e23caaba75d", func := "estovers/estoverslaw32.SlotsReferences", spec := "slotsReferences", unfollowed := true, recurses := true, apart := false, narrowed := true }
def SlotsReferencesUptoSaid : Prop := slotsReferencesUptoRow.holds Try.pinned (OpenSpec.upto slotsReferencesSpec)

/-- 'estoverslaw32.SlotsFull', WHERE WHAT IT READS IS OF BULK AT MOST 1048576: true; the input reads as it did. -/
def slotsFullUptoRow : OpenClaim := { program := "ytjaondnglmimaaa", sum := "2e6311e416da829e99e743ce7aab5de0afb4254416d4fdf34c6c9e23caaba75d", func := "estovers/estoverslaw32.SlotsFull", spec := "slotsFull", unfollowed := true, recurses := true, apart := false, narrowed := true }
def SlotsFullUptoSaid : Prop := slotsFullUptoRow.holds Try.pinned (OpenSpec.upto slotsFullSpec)

/-- 'estoverslaw32.SlotsBack', WHERE WHAT IT READS IS OF BULK AT MOST 1048576: true; the input reads as it did. -/
def slotsBackUptoRow : OpenClaim := { program := "ytjaondnglmimaaa", sum := "2e6311e416da829e99e743ce7aab5de0afb4254416d4fdf34c6c9e23caaba75d", func := "estovers/estoverslaw32.SlotsBack", spec := "slotsBack", unfollowed := true, recurses := true, apart := false, narrowed := true }
def SlotsBackUptoSaid : Prop := slotsBackUptoRow.holds Try.pinned (OpenSpec.upto slotsBackSpec)

/-- 'estoverslaw32.SlotsSteps', WHERE WHAT IT READS IS OF BULK AT MOST 1048576: true; the input reads as it did. -/
def slotsStepsUptoRow : OpenClaim := { program := "ytjaondnglmimaaa", sum := "2e6311e416da829e99e743ce7aab5de0afb4254416d4fdf34c6c9e23caaba75d", func := "estovers/estoverslaw32.SlotsSteps", spec := "slotsSteps", unfollowed := true, recurses := true, apart := false, narrowed := true }
def SlotsStepsUptoSaid : Prop := slotsStepsUptoRow.holds Try.pinned (OpenSpec.upto slotsStepsSpec)

/-- 'estoverslaw32.SlotsAlone', WHERE WHAT IT READS IS OF BULK AT MOST 1048576: true; the input reads as it did. -/
def slotsAloneUptoRow : OpenClaim := { program := "ytjaondnglmimaaa", sum := "2e6311e416da829e99e743ce7aab5de0afb4254416d4fdf34c6c9e23caaba75d", func := "estovers/estoverslaw32.SlotsAlone", spec := "slotsAlone", unfollowed := true, recurses := true, apart := false, narrowed := true }
def SlotsAloneUptoSaid : Prop := slotsAloneUptoRow.holds Try.pinned (OpenSpec.upto slotsAloneSpec)

end Rows
end Go.Proofs.Ytjaondnglmimaaa
