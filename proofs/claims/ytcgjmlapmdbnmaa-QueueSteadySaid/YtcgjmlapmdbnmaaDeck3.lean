/- Contracts of functions of the program, proved in a small separation logic. Conditions: those that each theorem states. -/
import Derived.Test.YtcgjmlapmdbnmaaDeck2
namespace Go.Proofs.Ytcgjmlapmdbnmaa
open Go Go.Sl
set_option maxHeartbeats 4000000
set_option maxRecDepth 100000
set_option linter.unusedVariables false
/-! numbers out of a seed -/
def stepI (s : Int) : Int := let a := xorI .u64 s (shlI .u64 s 13); let b := xorI .u64 a (shrI .u64 a 7); xorI .u64 b (shlI .u64 b 17)
theorem u64_nn (n : Int) : 0 ≤ IntKind.u64.wrap n ∧ IntKind.u64.wrap n ≤ 18446744073709551615 := by
  rw [IntKind.wrap_u64]; omega
theorem stepI_nn (s : Int) : 0 ≤ stepI s ∧ stepI s ≤ 18446744073709551615 := u64_nn _
/-! picks -/
structure PS where
  l : List Int
  s : Int
def PS.next (p : PS) (n : Int) : PS := match p.l with | [] => ⟨[], stepI p.s⟩ | _ :: l => ⟨l, p.s⟩
def PS.val (p : PS) (n : Int) : Int := match p.l with | [] => stepI p.s % n | x :: _ => x % n
end Go.Proofs.Ytcgjmlapmdbnmaa

