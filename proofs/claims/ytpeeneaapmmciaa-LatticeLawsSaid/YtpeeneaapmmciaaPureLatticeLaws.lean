/- The walk of LatticeLaws and of what it calls, out of printed texts and of our own: known answers true, New takes the drawn table, and the twelve laws hold of it. -/
import Derived.Test.YtpeeneaapmmciaaVLatticeLaws
namespace Go.Proofs.Ytpeeneaapmmciaa.Pure
theorem LatticeLaws : Go.Proofs.Ytpeeneaapmmciaa.PLlaws.confidantlaw3_LatticeLaws.Pure := trivial
end Go.Proofs.Ytpeeneaapmmciaa.Pure
