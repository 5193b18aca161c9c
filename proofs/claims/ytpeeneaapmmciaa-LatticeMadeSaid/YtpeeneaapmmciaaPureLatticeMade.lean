/- The row of LatticeMade: Powers and Chain are the documented tables, and these are lattices. Conditions: none beside the statement's own. -/
import Derived.Test.YtpeeneaapmmciaaVLatticeMade
namespace Go.Proofs.Ytpeeneaapmmciaa.Pure
theorem LatticeMade : Go.Proofs.Ytpeeneaapmmciaa.PLmade.confidantlaw3_LatticeMade.Pure := trivial
end Go.Proofs.Ytpeeneaapmmciaa.Pure
