/- The row of LatticeBelow: what is below a label is what it joins to nothing new. Conditions: none beside the statement's own. -/
import Derived.Test.YtpeeneaapmmciaaVLatticeBelow
namespace Go.Proofs.Ytpeeneaapmmciaa.Pure
theorem LatticeBelow : Go.Proofs.Ytpeeneaapmmciaa.PLbelow.confidantlaw3_LatticeBelow.Pure := trivial
end Go.Proofs.Ytpeeneaapmmciaa.Pure
