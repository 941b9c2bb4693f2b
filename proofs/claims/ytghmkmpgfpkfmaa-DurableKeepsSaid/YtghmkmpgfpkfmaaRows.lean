/-
  No cell of these rows narrows 'for every input' (looked for: loops, veiled, ifaces, maps, wideKeys, modest, calm, conditions, laid).
  DERIVED. THE GIVEN ROWS OF THIS SEAT. 9 by the template 'for every input the law returns true; each argument reads behind the call as it read before'; 0 by the template 'total and deterministic' (their statements: YtghmkmpgfpkfmaaTotals.lean).
  GIVEN WITH THE SEED: the statements are not yours to turn. If you find one false, say at which input.
  Laid BY PROGRAM, IN A SANDBOX (cutbox-rows.mjs): the forced cells as the released guide's own fill.sh prints them over the translation 1a9faf3fcd4eb94b… (all of the seat's roots in one cut). By AI agents, Wed Nov 11 2026. No macro, syntax, notation, axiom, sorry.
-/
import Derived.Test.YtghmkmpgfpkfmaaChecked
import GoSem.Claim
import GoSem.ClaimJoined
import GoSem.ClaimMapViews
import Derived.JoinedTies
import Derived.KernelRfl
namespace Go.Proofs.Ytghmkmpgfpkfmaa
/- THE CELL 'sum', in the pinned program and in every row, IS THE sha256 OF THE DUMP (.gsa) THAT YtghmkmpgfpkfmaaProg.lean LOADS. Nothing in Lean hashes anything: it is a label: what it is worth is what the hold of that sum in a sandbox is worth. -/
noncomputable def Try.pinned : Pinned := { name := "ytghmkmpgfpkfmaa", sum := "1a9faf3fcd4eb94b6376b423816f96e8e5624dd90a204aad3090d1de4988138c", checked := Try.checked }
namespace Rows
def none {H : Type} : Left H := { results := [], args := [] }

/-- 'estoverslaw11.DurableChecks': WHATEVER THE INPUT: true; the input reads as it did. -/
def durableChecksSpec : ChangeSpec := { name := "durableChecks", fn := fun _ => fun
  | [d] => { results := [.lit (.bool true)], args := [d] }
  | _ => none }
def durableChecksRow : OpenClaim := { program := "ytghmkmpgfpkfmaa", sum := "1a9faf3fcd4eb94b6376b423816f96e8e5624dd90a204aad3090d1de4988138c", func := "estovers/estoverslaw11.DurableChecks", spec := "durableChecks", unfollowed := true, recurses := true, apart := false }
def DurableChecksSaid : Prop := durableChecksRow.holds Try.pinned (OpenSpec.ofChange durableChecksSpec)

/-- ITS FALSE NEIGHBOUR: 'it returns false'. Refute it at one input. -/
def durableChecksWrong : ChangeSpec := { name := "durableChecks", fn := fun _ => fun
  | [d] => { results := [.lit (.bool false)], args := [d] }
  | _ => none }
def DurableChecksWrongFalsely : Prop := durableChecksRow.holds Try.pinned (OpenSpec.ofChange durableChecksWrong)

/-- 'estoverslaw11.DurableImages': WHATEVER THE INPUT: true; the input reads as it did. -/
def durableImagesSpec : ChangeSpec := { name := "durableImages", fn := fun _ => fun
  | [d] => { results := [.lit (.bool true)], args := [d] }
  | _ => none }
def durableImagesRow : OpenClaim := { program := "ytghmkmpgfpkfmaa", sum := "1a9faf3fcd4eb94b6376b423816f96e8e5624dd90a204aad3090d1de4988138c", func := "estovers/estoverslaw11.DurableImages", spec := "durableImages", unfollowed := true, recurses := true, apart := false }
def DurableImagesSaid : Prop := durableImagesRow.holds Try.pinned (OpenSpec.ofChange durableImagesSpec)

/-- ITS FALSE NEIGHBOUR: 'it returns false'. Refute it at one input. -/
def durableImagesWrong : ChangeSpec := { name := "durableImages", fn := fun _ => fun
  | [d] => { results := [.lit (.bool false)], args := [d] }
  | _ => none }
def DurableImagesWrongFalsely : Prop := durableImagesRow.holds Try.pinned (OpenSpec.ofChange durableImagesWrong)

/-- 'estoverslaw11.DurableOrders': WHATEVER THE INPUT: true; the input reads as it did. -/
def durableOrdersSpec : ChangeSpec := { name := "durableOrders", fn := fun _ => fun
  | [d1, d2, d3] => { results := [.lit (.bool true)], args := [d1, d2, d3] }
  | _ => none }
def durableOrdersRow : OpenClaim := { program := "ytghmkmpgfpkfmaa", sum := "1a9faf3fcd4eb94b6376b423816f96e8e5624dd90a204aad3090d1de4988138c", func := "estovers/estoverslaw11.DurableOrders", spec := "durableOrders", unfollowed := true, recurses := true, apart := false }
def DurableOrdersSaid : Prop := durableOrdersRow.holds Try.pinned (OpenSpec.ofChange durableOrdersSpec)

/-- ITS FALSE NEIGHBOUR: 'it returns false'. Refute it at one input. -/
def durableOrdersWrong : ChangeSpec := { name := "durableOrders", fn := fun _ => fun
  | [d1, d2, d3] => { results := [.lit (.bool false)], args := [d1, d2, d3] }
  | _ => none }
def DurableOrdersWrongFalsely : Prop := durableOrdersRow.holds Try.pinned (OpenSpec.ofChange durableOrdersWrong)

/-- 'estoverslaw11.DurableOrdered': WHATEVER THE INPUT: true; the input reads as it did. -/
def durableOrderedSpec : ChangeSpec := { name := "durableOrdered", fn := fun _ => fun
  | [d1, d2, d3] => { results := [.lit (.bool true)], args := [d1, d2, d3] }
  | _ => none }
def durableOrderedRow : OpenClaim := { program := "ytghmkmpgfpkfmaa", sum := "1a9faf3fcd4eb94b6376b423816f96e8e5624dd90a204aad3090d1de4988138c", func := "estovers/estoverslaw11.DurableOrdered", spec := "durableOrdered", unfollowed := true, recurses := true, apart := false }
def DurableOrderedSaid : Prop := durableOrderedRow.holds Try.pinned (OpenSpec.ofChange durableOrderedSpec)

/-- ITS FALSE NEIGHBOUR: 'it returns false'. Refute it at one input. -/
def durableOrderedWrong : ChangeSpec := { name := "durableOrdered", fn := fun _ => fun
  | [d1, d2, d3] => { results := [.lit (.bool false)], args := [d1, d2, d3] }
  | _ => none }
def DurableOrderedWrongFalsely : Prop := durableOrderedRow.holds Try.pinned (OpenSpec.ofChange durableOrderedWrong)

/-- 'estoverslaw11.DurableContents': WHATEVER THE INPUT: true; the input reads as it did. -/
def durableContentsSpec : ChangeSpec := { name := "durableContents", fn := fun _ => fun
  | [d1, d2] => { results := [.lit (.bool true)], args := [d1, d2] }
  | _ => none }
def durableContentsRow : OpenClaim := { program := "ytghmkmpgfpkfmaa", sum := "1a9faf3fcd4eb94b6376b423816f96e8e5624dd90a204aad3090d1de4988138c", func := "estovers/estoverslaw11.DurableContents", spec := "durableContents", unfollowed := true, recurses := true, apart := false }
def DurableContentsSaid : Prop := durableContentsRow.holds Try.pinned (OpenSpec.ofChange durableContentsSpec)

/-- ITS FALSE NEIGHBOUR: 'it returns false'. Refute it at one input. -/
def durableContentsWrong : ChangeSpec := { name := "durableContents", fn := fun _ => fun
  | [d1, d2] => { results := [.lit (.bool false)], args := [d1, d2] }
  | _ => none }
def DurableContentsWrongFalsely : Prop := durableContentsRow.holds Try.pinned (OpenSpec.ofChange durableContentsWrong)

/-- 'estoverslaw11.DurableFlushed': WHATEVER THE INPUT: true; the input reads as it did. -/
def durableFlushedSpec : ChangeSpec := { name := "durableFlushed", fn := fun _ => fun
  | [d] => { results := [.lit (.bool true)], args := [d] }
  | _ => none }
def durableFlushedRow : OpenClaim := { program := "ytghmkmpgfpkfmaa", sum := "1a9faf3fcd4eb94b6376b423816f96e8e5624dd90a204aad3090d1de4988138c", func := "estovers/estoverslaw11.DurableFlushed", spec := "durableFlushed", unfollowed := true, recurses := true, apart := false }
def DurableFlushedSaid : Prop := durableFlushedRow.holds Try.pinned (OpenSpec.ofChange durableFlushedSpec)

/-- ITS FALSE NEIGHBOUR: 'it returns false'. Refute it at one input. -/
def durableFlushedWrong : ChangeSpec := { name := "durableFlushed", fn := fun _ => fun
  | [d] => { results := [.lit (.bool false)], args := [d] }
  | _ => none }
def DurableFlushedWrongFalsely : Prop := durableFlushedRow.holds Try.pinned (OpenSpec.ofChange durableFlushedWrong)

/-- 'estoverslaw11.DurableKeeps': WHATEVER THE INPUT: true; the input reads as it did. -/
def durableKeepsSpec : ChangeSpec := { name := "durableKeeps", fn := fun _ => fun
  | [d] => { results := [.lit (.bool true)], args := [d] }
  | _ => none }
def durableKeepsRow : OpenClaim := { program := "ytghmkmpgfpkfmaa", sum := "1a9faf3fcd4eb94b6376b423816f96e8e5624dd90a204aad3090d1de4988138c", func := "estovers/estoverslaw11.DurableKeeps", spec := "durableKeeps", unfollowed := true, recurses := true, apart := false }
def DurableKeepsSaid : Prop := durableKeepsRow.holds Try.pinned (OpenSpec.ofChange durableKeepsSpec)

/-- ITS FALSE NEIGHBOUR: 'it returns false'. Refute it at one input. -/
def durableKeepsWrong : ChangeSpec := { name := "durableKeeps", fn := fun _ => fun
  | [d] => { results := [.lit (.bool false)], args := [d] }
  | _ => none }
def DurableKeepsWrongFalsely : Prop := durableKeepsRow.holds Try.pinned (OpenSpec.ofChange durableKeepsWrong)

/-- 'estoverslaw11.DurableAllows': WHATEVER THE INPUT: true; the input reads as it did. -/
def durableAllowsSpec : ChangeSpec := { name := "durableAllows", fn := fun _ => fun
  | [d1, d2] => { results := [.lit (.bool true)], args := [d1, d2] }
  | _ => none }
def durableAllowsRow : OpenClaim := { program := "ytghmkmpgfpkfmaa", sum := "1a9faf3fcd4eb94b6376b423816f96e8e5624dd90a204aad3090d1de4988138c", func := "estovers/estoverslaw11.DurableAllows", spec := "durableAllows", unfollowed := true, recurses := true, apart := false }
def DurableAllowsSaid : Prop := durableAllowsRow.holds Try.pinned (OpenSpec.ofChange durableAllowsSpec)

/-- ITS FALSE NEIGHBOUR: 'it returns false'. Refute it at one input. -/
def durableAllowsWrong : ChangeSpec := { name := "durableAllows", fn := fun _ => fun
  | [d1, d2] => { results := [.lit (.bool false)], args := [d1, d2] }
  | _ => none }
def DurableAllowsWrongFalsely : Prop := durableAllowsRow.holds Try.pinned (OpenSpec.ofChange durableAllowsWrong)

/-- 'estoverslaw11.DurableExact': WHATEVER THE INPUT: true; the input reads as it did. -/
def durableExactSpec : ChangeSpec := { name := "durableExact", fn := fun _ => fun
  | [d] => { results := [.lit (.bool true)], args := [d] }
  | _ => none }
def durableExactRow : OpenClaim := { program := "ytghmkmpgfpkfmaa", sum := "1a9faf3fcd4eb94b6376b423816f96e8e5624dd90a204aad3090d1de4988138c", func := "estovers/estoverslaw11.DurableExact", spec := "durableExact", unfollowed := true, recurses := true, apart := false }
def DurableExactSaid : Prop := durableExactRow.holds Try.pinned (OpenSpec.ofChange durableExactSpec)

/-- ITS FALSE NEIGHBOUR: 'it returns false'. Refute it at one input. -/
def durableExactWrong : ChangeSpec := { name := "durableExact", fn := fun _ => fun
  | [d] => { results := [.lit (.bool false)], args := [d] }
  | _ => none }
def DurableExactWrongFalsely : Prop := durableExactRow.holds Try.pinned (OpenSpec.ofChange durableExactWrong)

/- THE SECOND FORM. 'bulk': how many values and letters a reading holds, each counted each time it is reached (what is shared counts as often as it is met; a slice's spare places count too). A statement '..UptoSaid' is the law's where the arguments, and the package variables that the reading takes, are together of bulk at most 1048576: NARROWER than '..Said'. Prove '..Said' where nothing that the law and all that it calls make is longer than what came in: it says more and counts as full. Else prove '..UptoSaid'. A law counts once. -/
mutual
def uptoBulk {H : Type} : DataW H → Nat
  | .lit (.string bytes) => bytes.length + 1
  | .lit _ => 1
  | .nil => 1
  | .ptr d => uptoBulk d + 1
  | .slice elems spare => uptoBulkAll elems + uptoBulkAll spare + 1
  | .agg parts => uptoBulkAll parts + 1
  | .iface _ d => uptoBulk d + 1
  | .map entries => uptoBulkEntries entries + 1
  | .held _ => 1
def uptoBulkAll {H : Type} : List (DataW H) → Nat
  | [] => 0
  | d :: r => uptoBulk d + uptoBulkAll r
def uptoBulkEntries {H : Type} : List (Lit × DataW H) → Nat
  | [] => 0
  | x :: r => uptoBulkEntry x + uptoBulkEntries r
def uptoBulkEntry {H : Type} : Lit × DataW H → Nat
  | (.string bytes, d) => bytes.length + uptoBulk d + 1
  | (_, d) => uptoBulk d + 1
 end
def uptoSmall : (H : Type) → List (DataW H) → Bool := fun _ ds => decide (uptoBulkAll ds ≤ 1048576)
def OpenSpec.upto (s : _root_.Go.ChangeSpec) : _root_.Go.OpenSpec := { _root_.Go.OpenSpec.ofChange s with cond := some uptoSmall }

/-- 'estoverslaw11.DurableChecks', WHERE WHAT IT READS IS OF BULK AT MOST 1048576: true; the input reads as it did. -/
def durableChecksUptoRow : OpenClaim := { program := "ytghmkmpgfpkfmaa", sum := "1a9faf3fcd4eb94b6376b423816f96e8e5624dd90a204aad3090d1de4988138c", func := "estovers/estoverslaw11.DurableChecks", spec := "durableChecks", unfollowed := true, recurses := true, apart := false, narrowed := true }
def DurableChecksUptoSaid : Prop := durableChecksUptoRow.holds Try.pinned (OpenSpec.upto durableChecksSpec)

/-- 'estoverslaw11.DurableImages', WHERE WHAT IT READS IS OF BULK AT MOST 1048576: true; the input reads as it did. -/
def durableImagesUptoRow : OpenClaim := { program := "ytghmkmpgfpkfmaa", sum := "1a9faf3fcd4eb94b6376b423816f96e8e5624dd90a204aad3090d1de4988138c", func := "estovers/estoverslaw11.DurableImages", spec := "durableImages", unfollowed := true, recurses := true, apart := false, narrowed := true }
def DurableImagesUptoSaid : Prop := durableImagesUptoRow.holds Try.pinned (OpenSpec.upto durableImagesSpec)

/-- 'estoverslaw11.DurableOrders', WHERE WHAT IT READS IS OF BULK AT MOST 1048576: true; the input reads as it did. -/
def durableOrdersUptoRow : OpenClaim := { program := "ytghmkmpgfpkfmaa", sum := "1a9faf3fcd4eb94b6376b423816f96e8e5624dd90a204aad3090d1de4988138c", func := "estovers/estoverslaw11.DurableOrders", spec := "durableOrders", unfollowed := true, recurses := true, apart := false, narrowed := true }
def DurableOrdersUptoSaid : Prop := durableOrdersUptoRow.holds Try.pinned (OpenSpec.upto durableOrdersSpec)

/-- 'estoverslaw11.DurableOrdered', WHERE WHAT IT READS IS OF BULK AT MOST 1048576: true; the input reads as it did. -/
def durableOrderedUptoRow : OpenClaim := { program := "ytghmkmpgfpkfmaa", sum := "1a9faf3fcd4eb94b6376b423816f96e8e5624dd90a204aad3090d1de4988138c", func := "estovers/estoverslaw11.DurableOrdered", spec := "durableOrdered", unfollowed := true, recurses := true, apart := false, narrowed := true }
def DurableOrderedUptoSaid : Prop := durableOrderedUptoRow.holds Try.pinned (OpenSpec.upto durableOrderedSpec)

/-- 'estoverslaw11.DurableContents', WHERE WHAT IT READS IS OF BULK AT MOST 1048576: true; the input reads as it did. -/
def durableContentsUptoRow : OpenClaim := { program := "ytghmkmpgfpkfmaa", sum := "1a9faf3fcd4eb94b6376b423816f96e8e5624dd90a204aad3090d1de4988138c", func := "estovers/estoverslaw11.DurableContents", spec := "durableContents", unfollowed := true, recurses := true, apart := false, narrowed := true }
def DurableContentsUptoSaid : Prop := durableContentsUptoRow.holds Try.pinned (OpenSpec.upto durableContentsSpec)

/-- 'estoverslaw11.DurableFlushed', WHERE WHAT IT READS IS OF BULK AT MOST 1048576: true; the input reads as it did. -/
def durableFlushedUptoRow : OpenClaim := { program := "ytghmkmpgfpkfmaa", sum := "1a9faf3fcd4eb94b6376b423816f96e8e5624dd90a204aad3090d1de4988138c", func := "estovers/estoverslaw11.DurableFlushed", spec := "durableFlushed", unfollowed := true, recurses := true, apart := false, narrowed := true }
def DurableFlushedUptoSaid : Prop := durableFlushedUptoRow.holds Try.pinned (OpenSpec.upto durableFlushedSpec)

/-- 'estoverslaw11.DurableKeeps', WHERE WHAT IT READS IS OF BULK AT MOST 1048576: true; the input reads as it did. -/
def durableKeepsUptoRow : OpenClaim := { program := "ytghmkmpgfpkfmaa", sum := "1a9faf3fcd4eb94b6376b423816f96e8e5624dd90a204aad3090d1de4988138c", func := "estovers/estoverslaw11.DurableKeeps", spec := "durableKeeps", unfollowed := true, recurses := true, apart := false, narrowed := true }
def DurableKeepsUptoSaid : Prop := durableKeepsUptoRow.holds Try.pinned (OpenSpec.upto durableKeepsSpec)

/-- 'estoverslaw11.DurableAllows', WHERE WHAT IT READS IS OF BULK AT MOST 1048576: true; the input reads as it did. -/
def durableAllowsUptoRow : OpenClaim := { program := "ytghmkmpgfpkfmaa", sum := "1a9faf3fcd4eb94b6376b423816f96e8e5624dd90a204aad3090d1de4988138c", func := "estovers/estoverslaw11.DurableAllows", spec := "durableAllows", unfollowed := true, recurses := true, apart := false, narrowed := true }
def DurableAllowsUptoSaid : Prop := durableAllowsUptoRow.holds Try.pinned (OpenSpec.upto durableAllowsSpec)

/-- 'estoverslaw11.DurableExact', WHERE WHAT IT READS IS OF BULK AT MOST 1048576: true; the input reads as it did. -/
def durableExactUptoRow : OpenClaim := { program := "ytghmkmpgfpkfmaa", sum := "1a9faf3fcd4eb94b6376b423816f96e8e5624dd90a204aad3090d1de4988138c", func := "estovers/estoverslaw11.DurableExact", spec := "durableExact", unfollowed := true, recurses := true, apart := false, narrowed := true }
def DurableExactUptoSaid : Prop := durableExactUptoRow.holds Try.pinned (OpenSpec.upto durableExactSpec)

end Rows
end Go.Proofs.Ytghmkmpgfpkfmaa
