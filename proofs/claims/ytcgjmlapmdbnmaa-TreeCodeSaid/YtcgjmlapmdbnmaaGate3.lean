/- Contracts of functions of the program, proved in a small separation logic. Conditions: those that each theorem states. -/
import Derived.Test.YtcgjmlapmdbnmaaGate2
namespace Go.Proofs.Ytcgjmlapmdbnmaa
open Go Go.Sl
set_option maxHeartbeats 4000000
set_option maxRecDepth 100000
set_option linter.unusedVariables false
abbrev kInt : Int → Value := kI .i64
instance : KeyT Try.prog 3 kInt := KeyT.int Try.underlying3
end Go.Proofs.Ytcgjmlapmdbnmaa

