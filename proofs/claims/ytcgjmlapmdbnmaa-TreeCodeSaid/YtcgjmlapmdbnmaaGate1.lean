/- Contracts of functions of the program, proved in a small separation logic. Conditions: those that each theorem states. -/
import Derived.Test.YtcgjmlapmdbnmaaGateA
namespace Go.Proofs.Ytcgjmlapmdbnmaa
open Go Go.Sl
set_option maxHeartbeats 4000000
set_option maxRecDepth 100000
set_option linter.unusedVariables false
def privHas (x y : Int) : Bool := decide (andI .u32 x y = y)
-- FN confidant/lattice.Chain$1
theorem lattice_Chain1 (x y : Int) :
    Sp Try.prog 81 [.int .i64 x, .int .i64 y] [] (fun _ : Unit => True) (fun _ => .bool (decide (x ≤ y))) (fun _ => []) := by
  refine Sp.intro (n := 8) Try.func81 rfl rfl fun w0 R => ?_
  dsimp only [List.cons_append, List.nil_append, envOf]
  refine go ?_
  refine Dn.ret1 rfl rfl fun w hs => ⟨(), ?_, by trivial, by first | exact hs | (refine hs.conv ?_; exact ent_)⟩
  rfl
def inN (x n : Int) : Bool := decide (0 ≤ x ∧ x < n)
end Go.Proofs.Ytcgjmlapmdbnmaa

