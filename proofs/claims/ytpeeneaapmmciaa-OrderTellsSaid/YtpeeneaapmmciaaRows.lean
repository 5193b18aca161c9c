/-
  No cell of these rows narrows 'for every input' (looked for: loops, veiled, ifaces, maps, wideKeys, modest, calm, conditions, laid).
  DERIVED. THE GIVEN ROWS OF THIS SEAT. 10 by the template 'for every input the law returns true; each argument reads behind the call as it read before'; 0 by the template 'total and deterministic' (their statements: YtpeeneaapmmciaaTotals.lean).
  GIVEN WITH THE SEED: the statements are not yours to turn. If you find one false, say at which input.
  Laid BY PROGRAM, IN A SANDBOX (cutbox-rows.mjs): the forced cells as the released guide's own fill.sh prints them over the translation d4e2d4f5690d285b… (all of the seat's roots in one cut). By AI agents, Wed Nov 11 2026. No macro, syntax, notation, axiom, sorry.
-/
import Derived.Test.YtpeeneaapmmciaaChecked
import GoSem.Claim
import GoSem.ClaimJoined
import GoSem.ClaimMapViews
import Derived.JoinedTies
import Derived.KernelRfl
namespace Go.Proofs.Ytpeeneaapmmciaa
/- THE CELL 'sum', in the pinned program and in every row, IS THE sha256 OF THE DUMP (.gsa) THAT YtpeeneaapmmciaaProg.lean LOADS. Nothing in Lean hashes anything: it is a label: what it is worth is what the hold of that sum in a sandbox is worth. -/
noncomputable def Try.pinned : Pinned := { name := "ytpeeneaapmmciaa", sum := "d4e2d4f5690d285b0759e9b353c3c96d4b1d67079ba9ae0641be3ea5134ea42c", checked := Try.checked }
namespace Rows
def none {H : Type} : Left H := { results := [], args := [] }

/-- 'confidantlaw4.PrivTells': WHATEVER THE INPUT: true; the input reads as it did. -/
def privTellsSpec : ChangeSpec := { name := "privTells", fn := fun _ => fun
  | [d1, d2, d3] => { results := [.lit (.bool true)], args := [d1, d2, d3] }
  | _ => none }
def privTellsRow : OpenClaim := { program := "ytpeeneaapmmciaa", sum := "d4e2d4f5690d285b0759e9b353c3c96d4b1d67079ba9ae0641be3ea5134ea42c", func := "confidant/confidantlaw4.PrivTells", spec := "privTells", apart := false }
def PrivTellsSaid : Prop := privTellsRow.holds Try.pinned (OpenSpec.ofChange privTellsSpec)

/-- ITS FALSE NEIGHBOUR: 'it returns false'. Refute it at one input. -/
def privTellsWrong : ChangeSpec := { name := "privTells", fn := fun _ => fun
  | [d1, d2, d3] => { results := [.lit (.bool false)], args := [d1, d2, d3] }
  | _ => none }
def PrivTellsWrongFalsely : Prop := privTellsRow.holds Try.pinned (OpenSpec.ofChange privTellsWrong)

/-- 'confidantlaw4.PrivAll': WHATEVER THE INPUT: true; the input reads as it did. -/
def privAllSpec : ChangeSpec := { name := "privAll", fn := fun _ => fun
  | [d1, d2, d3, d4, d5] => { results := [.lit (.bool true)], args := [d1, d2, d3, d4, d5] }
  | _ => none }
def privAllRow : OpenClaim := { program := "ytpeeneaapmmciaa", sum := "d4e2d4f5690d285b0759e9b353c3c96d4b1d67079ba9ae0641be3ea5134ea42c", func := "confidant/confidantlaw4.PrivAll", spec := "privAll", apart := false }
def PrivAllSaid : Prop := privAllRow.holds Try.pinned (OpenSpec.ofChange privAllSpec)

/-- ITS FALSE NEIGHBOUR: 'it returns false'. Refute it at one input. -/
def privAllWrong : ChangeSpec := { name := "privAll", fn := fun _ => fun
  | [d1, d2, d3, d4, d5] => { results := [.lit (.bool false)], args := [d1, d2, d3, d4, d5] }
  | _ => none }
def PrivAllWrongFalsely : Prop := privAllRow.holds Try.pinned (OpenSpec.ofChange privAllWrong)

/-- 'confidantlaw2.OrderTells': WHATEVER THE INPUT: true; the input reads as it did. -/
def orderTellsSpec : ChangeSpec := { name := "orderTells", fn := fun _ => fun
  | [d1, d2, d3, d4, d5, d6, d7, d8] => { results := [.lit (.bool true)], args := [d1, d2, d3, d4, d5, d6, d7, d8] }
  | _ => none }
def orderTellsRow : OpenClaim := { program := "ytpeeneaapmmciaa", sum := "d4e2d4f5690d285b0759e9b353c3c96d4b1d67079ba9ae0641be3ea5134ea42c", func := "confidant/confidantlaw2.OrderTells", spec := "orderTells", unfollowed := true, recurses := true, apart := false }
def OrderTellsSaid : Prop := orderTellsRow.holds Try.pinned (OpenSpec.ofChange orderTellsSpec)

/-- ITS FALSE NEIGHBOUR: 'it returns false'. Refute it at one input. -/
def orderTellsWrong : ChangeSpec := { name := "orderTells", fn := fun _ => fun
  | [d1, d2, d3, d4, d5, d6, d7, d8] => { results := [.lit (.bool false)], args := [d1, d2, d3, d4, d5, d6, d7, d8] }
  | _ => none }
def OrderTellsWrongFalsely : Prop := orderTellsRow.holds Try.pinned (OpenSpec.ofChange orderTellsWrong)

/-- 'confidantlaw2.OrderBounds': WHATEVER THE INPUT: true; the input reads as it did. -/
def orderBoundsSpec : ChangeSpec := { name := "orderBounds", fn := fun _ => fun
  | [d1, d2, d3, d4, d5] => { results := [.lit (.bool true)], args := [d1, d2, d3, d4, d5] }
  | _ => none }
def orderBoundsRow : OpenClaim := { program := "ytpeeneaapmmciaa", sum := "d4e2d4f5690d285b0759e9b353c3c96d4b1d67079ba9ae0641be3ea5134ea42c", func := "confidant/confidantlaw2.OrderBounds", spec := "orderBounds", unfollowed := true, recurses := true, apart := false }
def OrderBoundsSaid : Prop := orderBoundsRow.holds Try.pinned (OpenSpec.ofChange orderBoundsSpec)

/-- ITS FALSE NEIGHBOUR: 'it returns false'. Refute it at one input. -/
def orderBoundsWrong : ChangeSpec := { name := "orderBounds", fn := fun _ => fun
  | [d1, d2, d3, d4, d5] => { results := [.lit (.bool false)], args := [d1, d2, d3, d4, d5] }
  | _ => none }
def OrderBoundsWrongFalsely : Prop := orderBoundsRow.holds Try.pinned (OpenSpec.ofChange orderBoundsWrong)

/-- 'confidantlaw2.OrderSquares': WHATEVER THE INPUT: true; the input reads as it did. -/
def orderSquaresSpec : ChangeSpec := { name := "orderSquares", fn := fun _ => fun
  | [d1, d2] => { results := [.lit (.bool true)], args := [d1, d2] }
  | _ => none }
def orderSquaresRow : OpenClaim := { program := "ytpeeneaapmmciaa", sum := "d4e2d4f5690d285b0759e9b353c3c96d4b1d67079ba9ae0641be3ea5134ea42c", func := "confidant/confidantlaw2.OrderSquares", spec := "orderSquares", unfollowed := true, recurses := true, apart := false }
def OrderSquaresSaid : Prop := orderSquaresRow.holds Try.pinned (OpenSpec.ofChange orderSquaresSpec)

/-- ITS FALSE NEIGHBOUR: 'it returns false'. Refute it at one input. -/
def orderSquaresWrong : ChangeSpec := { name := "orderSquares", fn := fun _ => fun
  | [d1, d2] => { results := [.lit (.bool false)], args := [d1, d2] }
  | _ => none }
def OrderSquaresWrongFalsely : Prop := orderSquaresRow.holds Try.pinned (OpenSpec.ofChange orderSquaresWrong)

/-- 'confidantlaw3.LatticeTells': WHATEVER THE INPUT: true; the input reads as it did. -/
def latticeTellsSpec : ChangeSpec := { name := "latticeTells", fn := fun _ => fun
  | [d1, d2, d3, d4, d5, d6, d7] => { results := [.lit (.bool true)], args := [d1, d2, d3, d4, d5, d6, d7] }
  | _ => none }
def latticeTellsRow : OpenClaim := { program := "ytpeeneaapmmciaa", sum := "d4e2d4f5690d285b0759e9b353c3c96d4b1d67079ba9ae0641be3ea5134ea42c", func := "confidant/confidantlaw3.LatticeTells", spec := "latticeTells", unfollowed := true, recurses := true, apart := false }
def LatticeTellsSaid : Prop := latticeTellsRow.holds Try.pinned (OpenSpec.ofChange latticeTellsSpec)

/-- ITS FALSE NEIGHBOUR: 'it returns false'. Refute it at one input. -/
def latticeTellsWrong : ChangeSpec := { name := "latticeTells", fn := fun _ => fun
  | [d1, d2, d3, d4, d5, d6, d7] => { results := [.lit (.bool false)], args := [d1, d2, d3, d4, d5, d6, d7] }
  | _ => none }
def LatticeTellsWrongFalsely : Prop := latticeTellsRow.holds Try.pinned (OpenSpec.ofChange latticeTellsWrong)

/-- 'confidantlaw3.LatticeLaws': WHATEVER THE INPUT: true; the input reads as it did. -/
def latticeLawsSpec : ChangeSpec := { name := "latticeLaws", fn := fun _ => fun
  | [d1, d2, d3, d4] => { results := [.lit (.bool true)], args := [d1, d2, d3, d4] }
  | _ => none }
def latticeLawsRow : OpenClaim := { program := "ytpeeneaapmmciaa", sum := "d4e2d4f5690d285b0759e9b353c3c96d4b1d67079ba9ae0641be3ea5134ea42c", func := "confidant/confidantlaw3.LatticeLaws", spec := "latticeLaws", unfollowed := true, recurses := true, apart := false }
def LatticeLawsSaid : Prop := latticeLawsRow.holds Try.pinned (OpenSpec.ofChange latticeLawsSpec)

/-- ITS FALSE NEIGHBOUR: 'it returns false'. Refute it at one input. -/
def latticeLawsWrong : ChangeSpec := { name := "latticeLaws", fn := fun _ => fun
  | [d1, d2, d3, d4] => { results := [.lit (.bool false)], args := [d1, d2, d3, d4] }
  | _ => none }
def LatticeLawsWrongFalsely : Prop := latticeLawsRow.holds Try.pinned (OpenSpec.ofChange latticeLawsWrong)

/-- 'confidantlaw3.LatticeMade': WHATEVER THE INPUT: true; the input reads as it did. -/
def latticeMadeSpec : ChangeSpec := { name := "latticeMade", fn := fun _ => fun
  | [d1, d2] => { results := [.lit (.bool true)], args := [d1, d2] }
  | _ => none }
def latticeMadeRow : OpenClaim := { program := "ytpeeneaapmmciaa", sum := "d4e2d4f5690d285b0759e9b353c3c96d4b1d67079ba9ae0641be3ea5134ea42c", func := "confidant/confidantlaw3.LatticeMade", spec := "latticeMade", unfollowed := true, recurses := true, apart := false }
def LatticeMadeSaid : Prop := latticeMadeRow.holds Try.pinned (OpenSpec.ofChange latticeMadeSpec)

/-- ITS FALSE NEIGHBOUR: 'it returns false'. Refute it at one input. -/
def latticeMadeWrong : ChangeSpec := { name := "latticeMade", fn := fun _ => fun
  | [d1, d2] => { results := [.lit (.bool false)], args := [d1, d2] }
  | _ => none }
def LatticeMadeWrongFalsely : Prop := latticeMadeRow.holds Try.pinned (OpenSpec.ofChange latticeMadeWrong)

/-- 'confidantlaw3.LatticeBelow': WHATEVER THE INPUT: true; the input reads as it did. -/
def latticeBelowSpec : ChangeSpec := { name := "latticeBelow", fn := fun _ => fun
  | [d1, d2] => { results := [.lit (.bool true)], args := [d1, d2] }
  | _ => none }
def latticeBelowRow : OpenClaim := { program := "ytpeeneaapmmciaa", sum := "d4e2d4f5690d285b0759e9b353c3c96d4b1d67079ba9ae0641be3ea5134ea42c", func := "confidant/confidantlaw3.LatticeBelow", spec := "latticeBelow", unfollowed := true, recurses := true, apart := false }
def LatticeBelowSaid : Prop := latticeBelowRow.holds Try.pinned (OpenSpec.ofChange latticeBelowSpec)

/-- ITS FALSE NEIGHBOUR: 'it returns false'. Refute it at one input. -/
def latticeBelowWrong : ChangeSpec := { name := "latticeBelow", fn := fun _ => fun
  | [d1, d2] => { results := [.lit (.bool false)], args := [d1, d2] }
  | _ => none }
def LatticeBelowWrongFalsely : Prop := latticeBelowRow.holds Try.pinned (OpenSpec.ofChange latticeBelowWrong)

/-- 'confidantlaw3.LatticeKeeps': WHATEVER THE INPUT: true; the input reads as it did. -/
def latticeKeepsSpec : ChangeSpec := { name := "latticeKeeps", fn := fun _ => fun
  | [d1, d2, d3] => { results := [.lit (.bool true)], args := [d1, d2, d3] }
  | _ => none }
def latticeKeepsRow : OpenClaim := { program := "ytpeeneaapmmciaa", sum := "d4e2d4f5690d285b0759e9b353c3c96d4b1d67079ba9ae0641be3ea5134ea42c", func := "confidant/confidantlaw3.LatticeKeeps", spec := "latticeKeeps", unfollowed := true, recurses := true, apart := false }
def LatticeKeepsSaid : Prop := latticeKeepsRow.holds Try.pinned (OpenSpec.ofChange latticeKeepsSpec)

/-- ITS FALSE NEIGHBOUR: 'it returns false'. Refute it at one input. -/
def latticeKeepsWrong : ChangeSpec := { name := "latticeKeeps", fn := fun _ => fun
  | [d1, d2, d3] => { results := [.lit (.bool false)], args := [d1, d2, d3] }
  | _ => none }
def LatticeKeepsWrongFalsely : Prop := latticeKeepsRow.holds Try.pinned (OpenSpec.ofChange latticeKeepsWrong)

/- THE SECOND FORM. 'bulk': how many values and letters a reading holds, each counted each time it is reached (what is shared counts as often as it is met; a slice's spare places count too). A statement '..UptoSaid' is the law's where the arguments, and the package variables that the reading takes, are together of bulk at most 1048576: NARROWER than '..Said'. Prove '..Said' where nothing that the law and all that it calls make is longer than what came in: it says more and counts as full. Else prove '..UptoSaid'. A law counts once. -/
mutual
def uptoBulk {H : Type} : DataW H → Nat
  | .lit (.string bytes) => bytes.length + 1
  | .lit _ => 1
  | .nil => 1
  | .ptr d => uptoBulk d + 1
  | .slice elems spare => uptoBulkAll elems + uptoBulkAll spare + 1
  | .agg parts => uptoBulkAll parts + 1
  | .iface _ d => uptoBulk d + 1
  | .map entries => uptoBulkEntries entries + 1
  | .held _ => 1
def uptoBulkAll {H : Type} : List (DataW H) → Nat
  | [] => 0
  | d :: r => uptoBulk d + uptoBulkAll r
def uptoBulkEntries {H : Type} : List (Lit × DataW H) → Nat
  | [] => 0
  | x :: r => uptoBulkEntry x + uptoBulkEntries r
def uptoBulkEntry {H : Type} : Lit × DataW H → Nat
  | (.string bytes, d) => bytes.length + uptoBulk d + 1
  | (_, d) => uptoBulk d + 1
 end
def uptoSmall : (H : Type) → List (DataW H) → Bool := fun _ ds => decide (uptoBulkAll ds ≤ 1048576)
def OpenSpec.upto (s : _root_.Go.ChangeSpec) : _root_.Go.OpenSpec := { _root_.Go.OpenSpec.ofChange s with cond := some uptoSmall }

/-- 'confidantlaw4.PrivTells', WHERE WHAT IT READS IS OF BULK AT MOST 1048576: true; the input reads as it did. -/
def privTellsUptoRow : OpenClaim := { program := "ytpeeneaapmmciaa", sum := "d4e2d4f5690d285b0759e9b353c3c96d4b1d67079ba9ae0641be3ea5134ea42c", func := "confidant/confidantlaw4.PrivTells", spec := "privTells", apart := false, narrowed := true }
def PrivTellsUptoSaid : Prop := privTellsUptoRow.holds Try.pinned (OpenSpec.upto privTellsSpec)

/-- 'confidantlaw4.PrivAll', WHERE WHAT IT READS IS OF BULK AT MOST 1048576: true; the input reads as it did. -/
def privAllUptoRow : OpenClaim := { program := "ytpeeneaapmmciaa", sum := "d4e2d4f5690d285b0759e9b353c3c96d4b1d67079ba9ae0641be3ea5134ea42c", func := "confidant/confidantlaw4.PrivAll", spec := "privAll", apart := false, narrowed := true }
def PrivAllUptoSaid : Prop := privAllUptoRow.holds Try.pinned (OpenSpec.upto privAllSpec)

/-- 'confidantlaw2.OrderTells', WHERE WHAT IT READS IS OF BULK AT MOST 1048576: true; the input reads as it did. -/
def orderTellsUptoRow : OpenClaim := { program := "ytpeeneaapmmciaa", sum := "d4e2d4f5690d285b0759e9b353c3c96d4b1d67079ba9ae0641be3ea5134ea42c", func := "confidant/confidantlaw2.OrderTells", spec := "orderTells", unfollowed := true, recurses := true, apart := false, narrowed := true }
def OrderTellsUptoSaid : Prop := orderTellsUptoRow.holds Try.pinned (OpenSpec.upto orderTellsSpec)

/-- 'confidantlaw2.OrderBounds', WHERE WHAT IT READS IS OF BULK AT MOST 1048576: true; the input reads as it did. -/
def orderBoundsUptoRow : OpenClaim := { program := "ytpeeneaapmmciaa", sum := "d4e2d4f5690d285b0759e9b353c3c96d4b1d67079ba9ae0641be3ea5134ea42c", func := "confidant/confidantlaw2.OrderBounds", spec := "orderBounds", unfollowed := true, recurses := true, apart := false, narrowed := true }
def OrderBoundsUptoSaid : Prop := orderBoundsUptoRow.holds Try.pinned (OpenSpec.upto orderBoundsSpec)

/-- 'confidantlaw2.OrderSquares', WHERE WHAT IT READS IS OF BULK AT MOST 1048576: true; the input reads as it did. -/
def orderSquaresUptoRow : OpenClaim := { program := "ytpeeneaapmmciaa", sum := "d4e2d4f5690d285b0759e9b353c3c96d4b1d67079ba9ae0641be3ea5134ea42c", func := "confidant/confidantlaw2.OrderSquares", spec := "orderSquares", unfollowed := true, recurses := true, apart := false, narrowed := true }
def OrderSquaresUptoSaid : Prop := orderSquaresUptoRow.holds Try.pinned (OpenSpec.upto orderSquaresSpec)

/-- 'confidantlaw3.LatticeTells', WHERE WHAT IT READS IS OF BULK AT MOST 1048576: true; the input reads as it did. -/
def latticeTellsUptoRow : OpenClaim := { program := "ytpeeneaapmmciaa", sum := "d4e2d4f5690d285b0759e9b353c3c96d4b1d67079ba9ae0641be3ea5134ea42c", func := "confidant/confidantlaw3.LatticeTells", spec := "latticeTells", unfollowed := true, recurses := true, apart := false, narrowed := true }
def LatticeTellsUptoSaid : Prop := latticeTellsUptoRow.holds Try.pinned (OpenSpec.upto latticeTellsSpec)

/-- 'confidantlaw3.LatticeLaws', WHERE WHAT IT READS IS OF BULK AT MOST 1048576: true; the input reads as it did. -/
def latticeLawsUptoRow : OpenClaim := { program := "ytpeeneaapmmciaa", sum := "d4e2d4f5690d285b0759e9b353c3c96d4b1d67079ba9ae0641be3ea5134ea42c", func := "confidant/confidantlaw3.LatticeLaws", spec := "latticeLaws", unfollowed := true, recurses := true, apart := false, narrowed := true }
def LatticeLawsUptoSaid : Prop := latticeLawsUptoRow.holds Try.pinned (OpenSpec.upto latticeLawsSpec)

/-- 'confidantlaw3.LatticeMade', WHERE WHAT IT READS IS OF BULK AT MOST 1048576: true; the input reads as it did. -/
def latticeMadeUptoRow : OpenClaim := { program := "ytpeeneaapmmciaa", sum := "d4e2d4f5690d285b0759e9b353c3c96d4b1d67079ba9ae0641be3ea5134ea42c", func := "confidant/confidantlaw3.LatticeMade", spec := "latticeMade", unfollowed := true, recurses := true, apart := false, narrowed := true }
def LatticeMadeUptoSaid : Prop := latticeMadeUptoRow.holds Try.pinned (OpenSpec.upto latticeMadeSpec)

/-- 'confidantlaw3.LatticeBelow', WHERE WHAT IT READS IS OF BULK AT MOST 1048576: true; the input reads as it did. -/
def latticeBelowUptoRow : OpenClaim := { program := "ytpeeneaapmmciaa", sum := "d4e2d4f5690d285b0759e9b353c3c96d4b1d67079ba9ae0641be3ea5134ea42c", func := "confidant/confidantlaw3.LatticeBelow", spec := "latticeBelow", unfollowed := true, recurses := true, apart := false, narrowed := true }
def LatticeBelowUptoSaid : Prop := latticeBelowUptoRow.holds Try.pinned (OpenSpec.upto latticeBelowSpec)

/-- 'confidantlaw3.LatticeKeeps', WHERE WHAT IT READS IS OF BULK AT MOST 1048576: true; the input reads as it did. -/
def latticeKeepsUptoRow : OpenClaim := { program := "ytpeeneaapmmciaa", sum := "d4e2d4f5690d285b0759e9b353c3c96d4b1d67079ba9ae0641be3ea5134ea42c", func := "confidant/confidantlaw3.LatticeKeeps", spec := "latticeKeeps", unfollowed := true, recurses := true, apart := false, narrowed := true }
def LatticeKeepsUptoSaid : Prop := latticeKeepsUptoRow.holds Try.pinned (OpenSpec.upto latticeKeepsSpec)

end Rows
end Go.Proofs.Ytpeeneaapmmciaa
