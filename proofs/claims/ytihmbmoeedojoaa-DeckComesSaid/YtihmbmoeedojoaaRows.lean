/-
  No cell of these rows narrows 'for every input' (looked for: loops, veiled, ifaces, maps, wideKeys, modest, calm, conditions, laid).
  DERIVED. THE GIVEN ROWS OF THIS SEAT. 7 by the template 'for every input the law returns true; each argument reads behind the call as it read before'; 0 by the template 'total and deterministic' (their statements: YtihmbmoeedojoaaTotals.lean).
  GIVEN WITH THE SEED: the statements are not yours to turn. If you find one false, say at which input.
  Laid BY PROGRAM, IN A SANDBOX (cutbox-rows.mjs): the forced cells as the released guide's own fill.sh prints them over the translation ab91da191f153d1c… (all of the seat's roots in one cut). By AI agents, Wed Nov 11 2026. No macro, syntax, notation, axiom, sorry.
-/
import Derived.Test.YtihmbmoeedojoaaChecked
import GoSem.Claim
import GoSem.ClaimJoined
import GoSem.ClaimMapViews
import Derived.JoinedTies
import Derived.KernelRfl
namespace Go.Proofs.Ytihmbmoeedojoaa
/- THE CELL 'sum', in the pinned program and in every row, IS THE sha256 OF THE DUMP (.gsa) THAT YtihmbmoeedojoaaProg.lean LOADS. Nothing in Lean hashes anything: it is a label: what it is worth is what the hold of that sum in a sandbox is worth. -/
noncomputable def Try.pinned : Pinned := { name := "ytihmbmoeedojoaa", sum := "ab91da191f153d1c557e99ef0e4464578d3bac7f0a315303f9a47f9e02997544", checked := Try.checked }
namespace Rows
def none {H : Type} : Left H := { results := [], args := [] }

/-- 'confidantlaw24.DeckRights': WHATEVER THE INPUT: true; the input reads as it did. -/
def deckRightsSpec : ChangeSpec := { name := "deckRights", fn := fun _ => fun
  | [d1, d2, d3, d4, d5, d6] => { results := [.lit (.bool true)], args := [d1, d2, d3, d4, d5, d6] }
  | _ => none }
def deckRightsRow : OpenClaim := { program := "ytihmbmoeedojoaa", sum := "ab91da191f153d1c557e99ef0e4464578d3bac7f0a315303f9a47f9e02997544", func := "confidant/confidantlaw24.DeckRights", spec := "deckRights", unfollowed := true, recurses := true, apart := false }
def DeckRightsSaid : Prop := deckRightsRow.holds Try.pinned (OpenSpec.ofChange deckRightsSpec)

/-- ITS FALSE NEIGHBOUR: 'it returns false'. Refute it at one input. -/
def deckRightsWrong : ChangeSpec := { name := "deckRights", fn := fun _ => fun
  | [d1, d2, d3, d4, d5, d6] => { results := [.lit (.bool false)], args := [d1, d2, d3, d4, d5, d6] }
  | _ => none }
def DeckRightsWrongFalsely : Prop := deckRightsRow.holds Try.pinned (OpenSpec.ofChange deckRightsWrong)

/-- 'confidantlaw24.DeckThefts': WHATEVER THE INPUT: true; the input reads as it did. -/
def deckTheftsSpec : ChangeSpec := { name := "deckThefts", fn := fun _ => fun
  | [d1, d2, d3, d4] => { results := [.lit (.bool true)], args := [d1, d2, d3, d4] }
  | _ => none }
def deckTheftsRow : OpenClaim := { program := "ytihmbmoeedojoaa", sum := "ab91da191f153d1c557e99ef0e4464578d3bac7f0a315303f9a47f9e02997544", func := "confidant/confidantlaw24.DeckThefts", spec := "deckThefts", unfollowed := true, recurses := true, apart := false }
def DeckTheftsSaid : Prop := deckTheftsRow.holds Try.pinned (OpenSpec.ofChange deckTheftsSpec)

/-- ITS FALSE NEIGHBOUR: 'it returns false'. Refute it at one input. -/
def deckTheftsWrong : ChangeSpec := { name := "deckThefts", fn := fun _ => fun
  | [d1, d2, d3, d4] => { results := [.lit (.bool false)], args := [d1, d2, d3, d4] }
  | _ => none }
def DeckTheftsWrongFalsely : Prop := deckTheftsRow.holds Try.pinned (OpenSpec.ofChange deckTheftsWrong)

/-- 'confidantlaw24.DeckOwn': WHATEVER THE INPUT: true; the input reads as it did. -/
def deckOwnSpec : ChangeSpec := { name := "deckOwn", fn := fun _ => fun
  | [d1, d2, d3] => { results := [.lit (.bool true)], args := [d1, d2, d3] }
  | _ => none }
def deckOwnRow : OpenClaim := { program := "ytihmbmoeedojoaa", sum := "ab91da191f153d1c557e99ef0e4464578d3bac7f0a315303f9a47f9e02997544", func := "confidant/confidantlaw24.DeckOwn", spec := "deckOwn", unfollowed := true, recurses := true, apart := false }
def DeckOwnSaid : Prop := deckOwnRow.holds Try.pinned (OpenSpec.ofChange deckOwnSpec)

/-- ITS FALSE NEIGHBOUR: 'it returns false'. Refute it at one input. -/
def deckOwnWrong : ChangeSpec := { name := "deckOwn", fn := fun _ => fun
  | [d1, d2, d3] => { results := [.lit (.bool false)], args := [d1, d2, d3] }
  | _ => none }
def DeckOwnWrongFalsely : Prop := deckOwnRow.holds Try.pinned (OpenSpec.ofChange deckOwnWrong)

/-- 'confidantlaw24.DeckHalves': WHATEVER THE INPUT: true; the input reads as it did. -/
def deckHalvesSpec : ChangeSpec := { name := "deckHalves", fn := fun _ => fun
  | [d] => { results := [.lit (.bool true)], args := [d] }
  | _ => none }
def deckHalvesRow : OpenClaim := { program := "ytihmbmoeedojoaa", sum := "ab91da191f153d1c557e99ef0e4464578d3bac7f0a315303f9a47f9e02997544", func := "confidant/confidantlaw24.DeckHalves", spec := "deckHalves", unfollowed := true, recurses := true, apart := false }
def DeckHalvesSaid : Prop := deckHalvesRow.holds Try.pinned (OpenSpec.ofChange deckHalvesSpec)

/-- ITS FALSE NEIGHBOUR: 'it returns false'. Refute it at one input. -/
def deckHalvesWrong : ChangeSpec := { name := "deckHalves", fn := fun _ => fun
  | [d] => { results := [.lit (.bool false)], args := [d] }
  | _ => none }
def DeckHalvesWrongFalsely : Prop := deckHalvesRow.holds Try.pinned (OpenSpec.ofChange deckHalvesWrong)

/-- 'confidantlaw24.DeckFuel': WHATEVER THE INPUT: true; the input reads as it did. -/
def deckFuelSpec : ChangeSpec := { name := "deckFuel", fn := fun _ => fun
  | [d1, d2, d3] => { results := [.lit (.bool true)], args := [d1, d2, d3] }
  | _ => none }
def deckFuelRow : OpenClaim := { program := "ytihmbmoeedojoaa", sum := "ab91da191f153d1c557e99ef0e4464578d3bac7f0a315303f9a47f9e02997544", func := "confidant/confidantlaw24.DeckFuel", spec := "deckFuel", unfollowed := true, recurses := true, apart := false }
def DeckFuelSaid : Prop := deckFuelRow.holds Try.pinned (OpenSpec.ofChange deckFuelSpec)

/-- ITS FALSE NEIGHBOUR: 'it returns false'. Refute it at one input. -/
def deckFuelWrong : ChangeSpec := { name := "deckFuel", fn := fun _ => fun
  | [d1, d2, d3] => { results := [.lit (.bool false)], args := [d1, d2, d3] }
  | _ => none }
def DeckFuelWrongFalsely : Prop := deckFuelRow.holds Try.pinned (OpenSpec.ofChange deckFuelWrong)

/-- 'confidantlaw24.DeckWakes': WHATEVER THE INPUT: true; the input reads as it did. -/
def deckWakesSpec : ChangeSpec := { name := "deckWakes", fn := fun _ => fun
  | [d1, d2, d3] => { results := [.lit (.bool true)], args := [d1, d2, d3] }
  | _ => none }
def deckWakesRow : OpenClaim := { program := "ytihmbmoeedojoaa", sum := "ab91da191f153d1c557e99ef0e4464578d3bac7f0a315303f9a47f9e02997544", func := "confidant/confidantlaw24.DeckWakes", spec := "deckWakes", unfollowed := true, recurses := true, apart := false }
def DeckWakesSaid : Prop := deckWakesRow.holds Try.pinned (OpenSpec.ofChange deckWakesSpec)

/-- ITS FALSE NEIGHBOUR: 'it returns false'. Refute it at one input. -/
def deckWakesWrong : ChangeSpec := { name := "deckWakes", fn := fun _ => fun
  | [d1, d2, d3] => { results := [.lit (.bool false)], args := [d1, d2, d3] }
  | _ => none }
def DeckWakesWrongFalsely : Prop := deckWakesRow.holds Try.pinned (OpenSpec.ofChange deckWakesWrong)

/-- 'confidantlaw24.DeckComes': WHATEVER THE INPUT: true; the input reads as it did. -/
def deckComesSpec : ChangeSpec := { name := "deckComes", fn := fun _ => fun
  | [d1, d2, d3] => { results := [.lit (.bool true)], args := [d1, d2, d3] }
  | _ => none }
def deckComesRow : OpenClaim := { program := "ytihmbmoeedojoaa", sum := "ab91da191f153d1c557e99ef0e4464578d3bac7f0a315303f9a47f9e02997544", func := "confidant/confidantlaw24.DeckComes", spec := "deckComes", unfollowed := true, recurses := true, apart := false }
def DeckComesSaid : Prop := deckComesRow.holds Try.pinned (OpenSpec.ofChange deckComesSpec)

/-- ITS FALSE NEIGHBOUR: 'it returns false'. Refute it at one input. -/
def deckComesWrong : ChangeSpec := { name := "deckComes", fn := fun _ => fun
  | [d1, d2, d3] => { results := [.lit (.bool false)], args := [d1, d2, d3] }
  | _ => none }
def DeckComesWrongFalsely : Prop := deckComesRow.holds Try.pinned (OpenSpec.ofChange deckComesWrong)

/- THE SECOND FORM. 'bulk': how many values and letters a reading holds, each counted each time it is reached (what is shared counts as often as it is met; a slice's spare places count too). A statement '..UptoSaid' is the law's where the arguments, and the package variables that the reading takes, are together of bulk at most 1048576: NARROWER than '..Said'. Prove '..Said' where nothing that the law and all that it calls make is longer than what came in: it says more and counts as full. Else prove '..UptoSaid'. A law counts once. -/
mutual
def uptoBulk {H : Type} : DataW H → Nat
  | .lit (.string bytes) => bytes.length + 1
  | .lit _ => 1
  | .nil => 1
  | .ptr d => uptoBulk d + 1
  | .slice elems spare => uptoBulkAll elems + uptoBulkAll spare + 1
  | .agg parts => uptoBulkAll parts + 1
  | .iface _ d => uptoBulk d + 1
  | .map entries => uptoBulkEntries entries + 1
  | .held _ => 1
def uptoBulkAll {H : Type} : List (DataW H) → Nat
  | [] => 0
  | d :: r => uptoBulk d + uptoBulkAll r
def uptoBulkEntries {H : Type} : List (Lit × DataW H) → Nat
  | [] => 0
  | x :: r => uptoBulkEntry x + uptoBulkEntries r
def uptoBulkEntry {H : Type} : Lit × DataW H → Nat
  | (.string bytes, d) => bytes.length + uptoBulk d + 1
  | (_, d) => uptoBulk d + 1
 end
def uptoSmall : (H : Type) → List (DataW H) → Bool := fun _ ds => decide (uptoBulkAll ds ≤ 1048576)
def OpenSpec.upto (s : _root_.Go.ChangeSpec) : _root_.Go.OpenSpec := { _root_.Go.OpenSpec.ofChange s with cond := some uptoSmall }

/-- 'confidantlaw24.DeckRights', WHERE WHAT IT READS IS OF BULK AT MOST 1048576: true; the input reads as it did. -/
def deckRightsUptoRow : OpenClaim := { program := "ytihmbmoeedojoaa", sum := "ab91da191f153d1c557e99ef0e4464578d3bac7f0a315303f9a47f9e02997544", func := "confidant/confidantlaw24.DeckRights", spec := "deckRights", unfollowed := true, recurses := true, apart := false, narrowed := true }
def DeckRightsUptoSaid : Prop := deckRightsUptoRow.holds Try.pinned (OpenSpec.upto deckRightsSpec)

/-- 'confidantlaw24.DeckThefts', WHERE WHAT IT READS IS OF BULK AT MOST 1048576: true; the input reads as it did. -/
def deckTheftsUptoRow : OpenClaim := { program := "ytihmbmoeedojoaa", sum := "ab91da191f153d1c557e99ef0e4464578d3bac7f0a315303f9a47f9e02997544", func := "confidant/confidantlaw24.DeckThefts", spec := "deckThefts", unfollowed := true, recurses := true, apart := false, narrowed := true }
def DeckTheftsUptoSaid : Prop := deckTheftsUptoRow.holds Try.pinned (OpenSpec.upto deckTheftsSpec)

/-- 'confidantlaw24.DeckOwn', WHERE WHAT IT READS IS OF BULK AT MOST 1048576: true; the input reads as it did. -/
def deckOwnUptoRow : OpenClaim := { program := "ytihmbmoeedojoaa", sum := "ab91da191f153d1c557e99ef0e4464578d3bac7f0a315303f9a47f9e02997544", func := "confidant/confidantlaw24.DeckOwn", spec := "deckOwn", unfollowed := true, recurses := true, apart := false, narrowed := true }
def DeckOwnUptoSaid : Prop := deckOwnUptoRow.holds Try.pinned (OpenSpec.upto deckOwnSpec)

/-- 'confidantlaw24.DeckHalves', WHERE WHAT IT READS IS OF BULK AT MOST 1048576: true; the input reads as it did. -/
def deckHalvesUptoRow : OpenClaim := { program := "ytihmbmoeedojoaa", sum := "ab91da191f153d1c557e99ef0e4464578d3bac7f0a315303f9a47f9e02997544", func := "confidant/confidantlaw24.DeckHalves", spec := "deckHalves", unfollowed := true, recurses := true, apart := false, narrowed := true }
def DeckHalvesUptoSaid : Prop := deckHalvesUptoRow.holds Try.pinned (OpenSpec.upto deckHalvesSpec)

/-- 'confidantlaw24.DeckFuel', WHERE WHAT IT READS IS OF BULK AT MOST 1048576: true; the input reads as it did. -/
def deckFuelUptoRow : OpenClaim := { program := "ytihmbmoeedojoaa", sum := "ab91da191f153d1c557e99ef0e4464578d3bac7f0a315303f9a47f9e02997544", func := "confidant/confidantlaw24.DeckFuel", spec := "deckFuel", unfollowed := true, recurses := true, apart := false, narrowed := true }
def DeckFuelUptoSaid : Prop := deckFuelUptoRow.holds Try.pinned (OpenSpec.upto deckFuelSpec)

/-- 'confidantlaw24.DeckWakes', WHERE WHAT IT READS IS OF BULK AT MOST 1048576: true; the input reads as it did. -/
def deckWakesUptoRow : OpenClaim := { program := "ytihmbmoeedojoaa", sum := "ab91da191f153d1c557e99ef0e4464578d3bac7f0a315303f9a47f9e02997544", func := "confidant/confidantlaw24.DeckWakes", spec := "deckWakes", unfollowed := true, recurses := true, apart := false, narrowed := true }
def DeckWakesUptoSaid : Prop := deckWakesUptoRow.holds Try.pinned (OpenSpec.upto deckWakesSpec)

/-- 'confidantlaw24.DeckComes', WHERE WHAT IT READS IS OF BULK AT MOST 1048576: true; the input reads as it did. -/
def deckComesUptoRow : OpenClaim := { program := "ytihmbmoeedojoaa", sum := "ab91da191f153d1c557e99ef0e4464578d3bac7f0a315303f9a47f9e02997544", func := "confidant/confidantlaw24.DeckComes", spec := "deckComes", unfollowed := true, recurses := true, apart := false, narrowed := true }
def DeckComesUptoSaid : Prop := deckComesUptoRow.holds Try.pinned (OpenSpec.upto deckComesSpec)

end Rows
end Go.Proofs.Ytihmbmoeedojoaa
