/- Contracts of functions of the program, proved in a small separation logic. Conditions: those that each theorem states. -/
import Derived.Test.YtcgjmlapmdbnmaaGate3
namespace Go.Proofs.Ytcgjmlapmdbnmaa
open Go Go.Sl
set_option maxHeartbeats 4000000
set_option maxRecDepth 100000
set_option linter.unusedVariables false
theorem one_slc {r : Bool} {T : Type} {E : Enc T} {v : Value} {xs : List T} {w : World} (h : sat w (slB r E v xs)) : ∀ l n, One (slcV v l n) := fun l n => by
  obtain ⟨a, l', c, rfl, _⟩ := (slB_in h).slice
  exact ⟨rfl⟩
end Go.Proofs.Ytcgjmlapmdbnmaa

