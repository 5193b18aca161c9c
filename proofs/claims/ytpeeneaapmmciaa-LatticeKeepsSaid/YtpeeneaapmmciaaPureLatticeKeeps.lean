/- The row of LatticeKeeps: a lattice stays what its table was when it was made. Conditions: none beside the statement's own. -/
import Derived.Test.YtpeeneaapmmciaaVLatticeKeeps
namespace Go.Proofs.Ytpeeneaapmmciaa.Pure
theorem LatticeKeeps : Go.Proofs.Ytpeeneaapmmciaa.PLkeeps.confidantlaw3_LatticeKeeps.Pure := trivial
end Go.Proofs.Ytpeeneaapmmciaa.Pure
