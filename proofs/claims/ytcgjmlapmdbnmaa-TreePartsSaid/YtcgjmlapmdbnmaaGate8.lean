/- Contracts of functions of the program, proved in a small separation logic. Conditions: those that each theorem states. -/
import Derived.Test.YtcgjmlapmdbnmaaGate7
import Derived.Test.YtcgjmlapmdbnmaaGate4
import Derived.Test.YtcgjmlapmdbnmaaGate5
import Derived.Test.YtcgjmlapmdbnmaaLattice2
import Derived.Test.YtcgjmlapmdbnmaaLattice4
namespace Go.Proofs.Ytcgjmlapmdbnmaa
open Go Go.Sl
set_option maxHeartbeats 4000000
set_option maxRecDepth 100000
set_option linter.unusedVariables false
/-- Below the labels the lattice tells what the table tells. -/
theorem flowsB_eq {q : List (List Bool)} {V : LatV} (h : isLat q V) {a b : Int} (ha : 0 ≤ a ∧ a < q.length) (hb : 0 ≤ b ∧ b < q.length) : flowsB V a b = rd (rd q a) b := by
  unfold flowsB atB
  rw [h.leq, rowsL_length, if_pos ⟨ha, hb⟩, rowsL_rd ha.1 ha.2, map_rd _ hb.1 (by rw [ints_length]; exact hb.2), ints_rd hb.1 hb.2]
  unfold leqI
  cases rd (rd q a) b <;> rfl
theorem flowsB_out {q : List (List Bool)} {V : LatV} (h : isLat q V) {a b : Int} (hn : ¬ ((0 ≤ a ∧ a < q.length) ∧ 0 ≤ b ∧ b < q.length)) : flowsB V a b = false := by
  unfold flowsB atB
  rw [h.leq, rowsL_length, if_neg hn]; rfl
theorem tabT_length (n k : Nat) (F : Int → Int → Bool) : (tabT n k F).length = k := by simp [tabT, ints_length]
theorem tabT_rd {n : Nat} {F : Int → Int → Bool} {a b : Int} (ha : 0 ≤ a ∧ a < n) (hb : 0 ≤ b ∧ b < n) : rd (rd (tabT n n F) a) b = F a b := by
  unfold tabT
  rw [map_rd _ ha.1 (by rw [ints_length]; exact ha.2), ints_rd ha.1 ha.2]
  unfold rowT
  rw [map_rd _ hb.1 (by rw [ints_length]; exact hb.2), ints_rd hb.1 hb.2]
end Go.Proofs.Ytcgjmlapmdbnmaa

