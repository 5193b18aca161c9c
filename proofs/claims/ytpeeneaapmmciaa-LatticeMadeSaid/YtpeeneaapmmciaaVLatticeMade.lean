/- The row of LatticeMade: Powers and Chain are the documented tables, and these are lattices. Conditions: none beside the statement's own. -/
import Derived.Test.YtpeeneaapmmciaaPLmadex0
import Derived.Test.YtpeeneaapmmciaaPLmadex1
import Derived.Test.YtpeeneaapmmciaaPLmadex2
import Derived.Test.YtpeeneaapmmciaaPLmadex3
import Derived.Test.YtpeeneaapmmciaaPLmadex4
import Derived.Test.YtpeeneaapmmciaaPLmadex5
import Derived.Test.YtpeeneaapmmciaaPLmadex6
