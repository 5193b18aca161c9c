/- The row of LatticeBelow: what is below a label is what it joins to nothing new. Conditions: none beside the statement's own. -/
import Derived.Test.YtpeeneaapmmciaaPLbelowx0
import Derived.Test.YtpeeneaapmmciaaPLbelowx1
import Derived.Test.YtpeeneaapmmciaaPLbelowx2
import Derived.Test.YtpeeneaapmmciaaPLbelowx3
import Derived.Test.YtpeeneaapmmciaaPLbelowx4
import Derived.Test.YtpeeneaapmmciaaPLbelowx5
import Derived.Test.YtpeeneaapmmciaaPLbelowx6
