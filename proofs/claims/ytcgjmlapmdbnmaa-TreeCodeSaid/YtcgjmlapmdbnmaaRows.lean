/-
  No cell of these rows narrows 'for every input' (looked for: loops, veiled, ifaces, maps, wideKeys, modest, calm, conditions, laid).
  DERIVED. THE GIVEN ROWS OF THIS SEAT. 8 by the template 'for every input the law returns true; each argument reads behind the call as it read before'; 0 by the template 'total and deterministic' (their statements: YtcgjmlapmdbnmaaTotals.lean).
  GIVEN WITH THE SEED: the statements are not yours to turn. If you find one false, say at which input.
  Laid BY PROGRAM, IN A SANDBOX (cutbox-rows.mjs): the forced cells as the released guide's own fill.sh prints them over the translation 39c89ecc8bd0717d… (all of the seat's roots in one cut). By AI agents, Wed Nov 11 2026. No macro, syntax, notation, axiom, sorry.
-/
import Derived.Test.YtcgjmlapmdbnmaaChecked
import GoSem.Claim
import GoSem.ClaimJoined
import GoSem.ClaimMapViews
import Derived.JoinedTies
import Derived.KernelRfl
namespace Go.Proofs.Ytcgjmlapmdbnmaa
/- THE CELL 'sum', in the pinned program and in every row, IS THE sha256 OF THE DUMP (.gsa) THAT YtcgjmlapmdbnmaaProg.lean LOADS. Nothing in Lean hashes anything: it is a label: what it is worth is what the hold of that sum in a sandbox is worth. -/
noncomputable def Try.pinned : Pinned := { name := "ytcgjmlapmdbnmaa", sum := "39c89ecc8bd0717d96680b4cc821ca25c02cafeaed7b83917a7b3a770861fa4a", checked := Try.checked }
namespace Rows
def none {H : Type} : Left H := { results := [], args := [] }

/-- 'confidantlaw29.TreeTells': WHATEVER THE INPUT: true; the input reads as it did. -/
def treeTellsSpec : ChangeSpec := { name := "treeTells", fn := fun _ => fun
  | [d1, d2, d3, d4, d5, d6, d7] => { results := [.lit (.bool true)], args := [d1, d2, d3, d4, d5, d6, d7] }
  | _ => none }
def treeTellsRow : OpenClaim := { program := "ytcgjmlapmdbnmaa", sum := "39c89ecc8bd0717d96680b4cc821ca25c02cafeaed7b83917a7b3a770861fa4a", func := "confidant/confidantlaw29.TreeTells", spec := "treeTells", unfollowed := true, recurses := true, apart := false }
def TreeTellsSaid : Prop := treeTellsRow.holds Try.pinned (OpenSpec.ofChange treeTellsSpec)

/-- ITS FALSE NEIGHBOUR: 'it returns false'. Refute it at one input. -/
def treeTellsWrong : ChangeSpec := { name := "treeTells", fn := fun _ => fun
  | [d1, d2, d3, d4, d5, d6, d7] => { results := [.lit (.bool false)], args := [d1, d2, d3, d4, d5, d6, d7] }
  | _ => none }
def TreeTellsWrongFalsely : Prop := treeTellsRow.holds Try.pinned (OpenSpec.ofChange treeTellsWrong)

/-- 'confidantlaw29.TreeCode': WHATEVER THE INPUT: true; the input reads as it did. -/
def treeCodeSpec : ChangeSpec := { name := "treeCode", fn := fun _ => fun
  | [d] => { results := [.lit (.bool true)], args := [d] }
  | _ => none }
def treeCodeRow : OpenClaim := { program := "ytcgjmlapmdbnmaa", sum := "39c89ecc8bd0717d96680b4cc821ca25c02cafeaed7b83917a7b3a770861fa4a", func := "confidant/confidantlaw29.TreeCode", spec := "treeCode", unfollowed := true, recurses := true, apart := false }
def TreeCodeSaid : Prop := treeCodeRow.holds Try.pinned (OpenSpec.ofChange treeCodeSpec)

/-- ITS FALSE NEIGHBOUR: 'it returns false'. Refute it at one input. -/
def treeCodeWrong : ChangeSpec := { name := "treeCode", fn := fun _ => fun
  | [d] => { results := [.lit (.bool false)], args := [d] }
  | _ => none }
def TreeCodeWrongFalsely : Prop := treeCodeRow.holds Try.pinned (OpenSpec.ofChange treeCodeWrong)

/-- 'confidantlaw29.TreeSums': WHATEVER THE INPUT: true; the input reads as it did. -/
def treeSumsSpec : ChangeSpec := { name := "treeSums", fn := fun _ => fun
  | [d1, d2] => { results := [.lit (.bool true)], args := [d1, d2] }
  | _ => none }
def treeSumsRow : OpenClaim := { program := "ytcgjmlapmdbnmaa", sum := "39c89ecc8bd0717d96680b4cc821ca25c02cafeaed7b83917a7b3a770861fa4a", func := "confidant/confidantlaw29.TreeSums", spec := "treeSums", unfollowed := true, recurses := true, apart := false }
def TreeSumsSaid : Prop := treeSumsRow.holds Try.pinned (OpenSpec.ofChange treeSumsSpec)

/-- ITS FALSE NEIGHBOUR: 'it returns false'. Refute it at one input. -/
def treeSumsWrong : ChangeSpec := { name := "treeSums", fn := fun _ => fun
  | [d1, d2] => { results := [.lit (.bool false)], args := [d1, d2] }
  | _ => none }
def TreeSumsWrongFalsely : Prop := treeSumsRow.holds Try.pinned (OpenSpec.ofChange treeSumsWrong)

/-- 'confidantlaw29.TreeParts': WHATEVER THE INPUT: true; the input reads as it did. -/
def treePartsSpec : ChangeSpec := { name := "treeParts", fn := fun _ => fun
  | [d1, d2] => { results := [.lit (.bool true)], args := [d1, d2] }
  | _ => none }
def treePartsRow : OpenClaim := { program := "ytcgjmlapmdbnmaa", sum := "39c89ecc8bd0717d96680b4cc821ca25c02cafeaed7b83917a7b3a770861fa4a", func := "confidant/confidantlaw29.TreeParts", spec := "treeParts", unfollowed := true, recurses := true, apart := false }
def TreePartsSaid : Prop := treePartsRow.holds Try.pinned (OpenSpec.ofChange treePartsSpec)

/-- ITS FALSE NEIGHBOUR: 'it returns false'. Refute it at one input. -/
def treePartsWrong : ChangeSpec := { name := "treeParts", fn := fun _ => fun
  | [d1, d2] => { results := [.lit (.bool false)], args := [d1, d2] }
  | _ => none }
def TreePartsWrongFalsely : Prop := treePartsRow.holds Try.pinned (OpenSpec.ofChange treePartsWrong)

/-- 'confidantlaw29.TreeDiffs': WHATEVER THE INPUT: true; the input reads as it did. -/
def treeDiffsSpec : ChangeSpec := { name := "treeDiffs", fn := fun _ => fun
  | [d1, d2, d3] => { results := [.lit (.bool true)], args := [d1, d2, d3] }
  | _ => none }
def treeDiffsRow : OpenClaim := { program := "ytcgjmlapmdbnmaa", sum := "39c89ecc8bd0717d96680b4cc821ca25c02cafeaed7b83917a7b3a770861fa4a", func := "confidant/confidantlaw29.TreeDiffs", spec := "treeDiffs", unfollowed := true, recurses := true, apart := false }
def TreeDiffsSaid : Prop := treeDiffsRow.holds Try.pinned (OpenSpec.ofChange treeDiffsSpec)

/-- ITS FALSE NEIGHBOUR: 'it returns false'. Refute it at one input. -/
def treeDiffsWrong : ChangeSpec := { name := "treeDiffs", fn := fun _ => fun
  | [d1, d2, d3] => { results := [.lit (.bool false)], args := [d1, d2, d3] }
  | _ => none }
def TreeDiffsWrongFalsely : Prop := treeDiffsRow.holds Try.pinned (OpenSpec.ofChange treeDiffsWrong)

/-- 'confidantlaw19.QueuePlays': WHATEVER THE INPUT: true; the input reads as it did. -/
def queuePlaysSpec : ChangeSpec := { name := "queuePlays", fn := fun _ => fun
  | [d] => { results := [.lit (.bool true)], args := [d] }
  | _ => none }
def queuePlaysRow : OpenClaim := { program := "ytcgjmlapmdbnmaa", sum := "39c89ecc8bd0717d96680b4cc821ca25c02cafeaed7b83917a7b3a770861fa4a", func := "confidant/confidantlaw19.QueuePlays", spec := "queuePlays", unfollowed := true, recurses := true, apart := false }
def QueuePlaysSaid : Prop := queuePlaysRow.holds Try.pinned (OpenSpec.ofChange queuePlaysSpec)

/-- ITS FALSE NEIGHBOUR: 'it returns false'. Refute it at one input. -/
def queuePlaysWrong : ChangeSpec := { name := "queuePlays", fn := fun _ => fun
  | [d] => { results := [.lit (.bool false)], args := [d] }
  | _ => none }
def QueuePlaysWrongFalsely : Prop := queuePlaysRow.holds Try.pinned (OpenSpec.ofChange queuePlaysWrong)

/-- 'confidantlaw19.QueueSorts': WHATEVER THE INPUT: true; the input reads as it did. -/
def queueSortsSpec : ChangeSpec := { name := "queueSorts", fn := fun _ => fun
  | [d] => { results := [.lit (.bool true)], args := [d] }
  | _ => none }
def queueSortsRow : OpenClaim := { program := "ytcgjmlapmdbnmaa", sum := "39c89ecc8bd0717d96680b4cc821ca25c02cafeaed7b83917a7b3a770861fa4a", func := "confidant/confidantlaw19.QueueSorts", spec := "queueSorts", unfollowed := true, recurses := true, apart := false }
def QueueSortsSaid : Prop := queueSortsRow.holds Try.pinned (OpenSpec.ofChange queueSortsSpec)

/-- ITS FALSE NEIGHBOUR: 'it returns false'. Refute it at one input. -/
def queueSortsWrong : ChangeSpec := { name := "queueSorts", fn := fun _ => fun
  | [d] => { results := [.lit (.bool false)], args := [d] }
  | _ => none }
def QueueSortsWrongFalsely : Prop := queueSortsRow.holds Try.pinned (OpenSpec.ofChange queueSortsWrong)

/-- 'confidantlaw19.QueueSteady': WHATEVER THE INPUT: true; the input reads as it did. -/
def queueSteadySpec : ChangeSpec := { name := "queueSteady", fn := fun _ => fun
  | [d] => { results := [.lit (.bool true)], args := [d] }
  | _ => none }
def queueSteadyRow : OpenClaim := { program := "ytcgjmlapmdbnmaa", sum := "39c89ecc8bd0717d96680b4cc821ca25c02cafeaed7b83917a7b3a770861fa4a", func := "confidant/confidantlaw19.QueueSteady", spec := "queueSteady", unfollowed := true, recurses := true, apart := false }
def QueueSteadySaid : Prop := queueSteadyRow.holds Try.pinned (OpenSpec.ofChange queueSteadySpec)

/-- ITS FALSE NEIGHBOUR: 'it returns false'. Refute it at one input. -/
def queueSteadyWrong : ChangeSpec := { name := "queueSteady", fn := fun _ => fun
  | [d] => { results := [.lit (.bool false)], args := [d] }
  | _ => none }
def QueueSteadyWrongFalsely : Prop := queueSteadyRow.holds Try.pinned (OpenSpec.ofChange queueSteadyWrong)

/- THE SECOND FORM. 'bulk': how many values and letters a reading holds, each counted each time it is reached (what is shared counts as often as it is met; a slice's spare places count too). A statement '..UptoSaid' is the law's where the arguments, and the package variables that the reading takes, are together of bulk at most 1048576: NARROWER than '..Said'. Prove '..Said' where nothing that the law and all that it calls make is longer than what came in: it says more and counts as full. Else prove '..UptoSaid'. A law counts once. -/
mutual
def uptoBulk {H : Type} : DataW H → Nat
  | .lit (.string bytes) => bytes.length + 1
  | .lit _ => 1
  | .nil => 1
  | .ptr d => uptoBulk d + 1
  | .slice elems spare => uptoBulkAll elems + uptoBulkAll spare + 1
  | .agg parts => uptoBulkAll parts + 1
  | .iface _ d => uptoBulk d + 1
  | .map entries => uptoBulkEntries entries + 1
  | .held _ => 1
def uptoBulkAll {H : Type} : List (DataW H) → Nat
  | [] => 0
  | d :: r => uptoBulk d + uptoBulkAll r
def uptoBulkEntries {H : Type} : List (Lit × DataW H) → Nat
  | [] => 0
  | x :: r => uptoBulkEntry x + uptoBulkEntries r
def uptoBulkEntry {H : Type} : Lit × DataW H → Nat
  | (.string bytes, d) => bytes.length + uptoBulk d + 1
  | (_, d) => uptoBulk d + 1
 end
def uptoSmall : (H : Type) → List (DataW H) → Bool := fun _ ds => decide (uptoBulkAll ds ≤ 1048576)
def OpenSpec.upto (s : _root_.Go.ChangeSpec) : _root_.Go.OpenSpec := { _root_.Go.OpenSpec.ofChange s with cond := some uptoSmall }

/-- 'confidantlaw29.TreeTells', WHERE WHAT IT READS IS OF BULK AT MOST 1048576: true; the input reads as it did. -/
def treeTellsUptoRow : OpenClaim := { program := "ytcgjmlapmdbnmaa", sum := "39c89ecc8bd0717d96680b4cc821ca25c02cafeaed7b83917a7b3a770861fa4a", func := "confidant/confidantlaw29.TreeTells", spec := "treeTells", unfollowed := true, recurses := true, apart := false, narrowed := true }
def TreeTellsUptoSaid : Prop := treeTellsUptoRow.holds Try.pinned (OpenSpec.upto treeTellsSpec)

/-- 'confidantlaw29.TreeCode', WHERE WHAT IT READS IS OF BULK AT MOST 1048576: true; the input reads as it did. -/
def treeCodeUptoRow : OpenClaim := { program := "ytcgjmlapmdbnmaa", sum := "39c89ecc8bd0717d96680b4cc821ca25c02cafeaed7b83917a7b3a770861fa4a", func := "confidant/confidantlaw29.TreeCode", spec := "treeCode", unfollowed := true, recurses := true, apart := false, narrowed := true }
def TreeCodeUptoSaid : Prop := treeCodeUptoRow.holds Try.pinned (OpenSpec.upto treeCodeSpec)

/-- 'confidantlaw29.TreeSums', WHERE WHAT IT READS IS OF BULK AT MOST 1048576: true; the input reads as it did. -/
def treeSumsUptoRow : OpenClaim := { program := "ytcgjmlapmdbnmaa", sum := "39c89ecc8bd0717d96680b4cc821ca25c02cafeaed7b83917a7b3a770861fa4a", func := "confidant/confidantlaw29.TreeSums", spec := "treeSums", unfollowed := true, recurses := true, apart := false, narrowed := true }
def TreeSumsUptoSaid : Prop := treeSumsUptoRow.holds Try.pinned (OpenSpec.upto treeSumsSpec)

/-- 'confidantlaw29.TreeParts', WHERE WHAT IT READS IS OF BULK AT MOST 1048576: true; the input reads as it did. -/
def treePartsUptoRow : OpenClaim := { program := "ytcgjmlapmdbnmaa", sum := "39c89ecc8bd0717d96680b4cc821ca25c02cafeaed7b83917a7b3a770861fa4a", func := "confidant/confidantlaw29.TreeParts", spec := "treeParts", unfollowed := true, recurses := true, apart := false, narrowed := true }
def TreePartsUptoSaid : Prop := treePartsUptoRow.holds Try.pinned (OpenSpec.upto treePartsSpec)

/-- 'confidantlaw29.TreeDiffs', WHERE WHAT IT READS IS OF BULK AT MOST 1048576: true; the input reads as it did. -/
def treeDiffsUptoRow : OpenClaim := { program := "ytcgjmlapmdbnmaa", sum := "39c89ecc8bd0717d96680b4cc821ca25c02cafeaed7b83917a7b3a770861fa4a", func := "confidant/confidantlaw29.TreeDiffs", spec := "treeDiffs", unfollowed := true, recurses := true, apart := false, narrowed := true }
def TreeDiffsUptoSaid : Prop := treeDiffsUptoRow.holds Try.pinned (OpenSpec.upto treeDiffsSpec)

/-- 'confidantlaw19.QueuePlays', WHERE WHAT IT READS IS OF BULK AT MOST 1048576: true; the input reads as it did. -/
def queuePlaysUptoRow : OpenClaim := { program := "ytcgjmlapmdbnmaa", sum := "39c89ecc8bd0717d96680b4cc821ca25c02cafeaed7b83917a7b3a770861fa4a", func := "confidant/confidantlaw19.QueuePlays", spec := "queuePlays", unfollowed := true, recurses := true, apart := false, narrowed := true }
def QueuePlaysUptoSaid : Prop := queuePlaysUptoRow.holds Try.pinned (OpenSpec.upto queuePlaysSpec)

/-- 'confidantlaw19.QueueSorts', WHERE WHAT IT READS IS OF BULK AT MOST 1048576: true; the input reads as it did. -/
def queueSortsUptoRow : OpenClaim := { program := "ytcgjmlapmdbnmaa", sum := "39c89ecc8bd0717d96680b4cc821ca25c02cafeaed7b83917a7b3a770861fa4a", func := "confidant/confidantlaw19.QueueSorts", spec := "queueSorts", unfollowed := true, recurses := true, apart := false, narrowed := true }
def QueueSortsUptoSaid : Prop := queueSortsUptoRow.holds Try.pinned (OpenSpec.upto queueSortsSpec)

/-- 'confidantlaw19.QueueSteady', WHERE WHAT IT READS IS OF BULK AT MOST 1048576: true; the input reads as it did. -/
def queueSteadyUptoRow : OpenClaim := { program := "ytcgjmlapmdbnmaa", sum := "39c89ecc8bd0717d96680b4cc821ca25c02cafeaed7b83917a7b3a770861fa4a", func := "confidant/confidantlaw19.QueueSteady", spec := "queueSteady", unfollowed := true, recurses := true, apart := false, narrowed := true }
def QueueSteadyUptoSaid : Prop := queueSteadyUptoRow.holds Try.pinned (OpenSpec.upto queueSteadySpec)

end Rows
end Go.Proofs.Ytcgjmlapmdbnmaa
