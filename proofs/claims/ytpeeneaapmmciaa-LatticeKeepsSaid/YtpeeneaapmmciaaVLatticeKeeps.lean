/- The row of LatticeKeeps: a lattice stays what its table was when it was made. Conditions: none beside the statement's own. -/
import Derived.Test.YtpeeneaapmmciaaPLkeepsx0
import Derived.Test.YtpeeneaapmmciaaPLkeepsx1
import Derived.Test.YtpeeneaapmmciaaPLkeepsx2
import Derived.Test.YtpeeneaapmmciaaPLkeepsx3
import Derived.Test.YtpeeneaapmmciaaPLkeepsx4
import Derived.Test.YtpeeneaapmmciaaPLkeepsx5
import Derived.Test.YtpeeneaapmmciaaPLkeepsx6
import Derived.Test.YtpeeneaapmmciaaPLkeepsx7
import Derived.Test.YtpeeneaapmmciaaPLkeepsx8
