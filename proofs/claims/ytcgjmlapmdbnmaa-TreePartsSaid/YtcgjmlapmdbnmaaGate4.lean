/- Contracts of functions of the program, proved in a small separation logic. Conditions: those that each theorem states. -/
import Derived.Test.YtcgjmlapmdbnmaaGate3
namespace Go.Proofs.Ytcgjmlapmdbnmaa
open Go Go.Sl
set_option maxHeartbeats 4000000
set_option maxRecDepth 100000
set_option linter.unusedVariables false
def pairV2 (p : Int × Int) : List Value := [.int .i64 p.1, .int .i64 p.2]
end Go.Proofs.Ytcgjmlapmdbnmaa

