/- Contracts of functions of the program, proved in a small separation logic. Conditions: those that each theorem states. -/
import Derived.Test.YtcgjmlapmdbnmaaDeck4
namespace Go.Proofs.Ytcgjmlapmdbnmaa
open Go Go.Sl
set_option maxHeartbeats 4000000
set_option maxRecDepth 100000
set_option linter.unusedVariables false
def DK.setF (d : DK) (f : Int) : DK := { d with fuel := f }
def DK.othersB (d : DK) (w : Int) : Bool := (ints d.hands.length).any fun i => decide (i ≠ w) && decide (0 < (rd d.hands i).q.length)
-- FN (*confidant/deck.Deck).stolen
def DK.take (d : DK) (n : Nat) : Nat := if d.half then (n + 1) / 2 else 1
end Go.Proofs.Ytcgjmlapmdbnmaa

