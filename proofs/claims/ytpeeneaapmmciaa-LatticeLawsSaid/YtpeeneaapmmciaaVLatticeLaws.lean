/- The walk of LatticeLaws and of what it calls, out of printed texts and of our own: known answers true, New takes the drawn table, and the twelve laws hold of it. -/
import Derived.Test.YtpeeneaapmmciaaPLlawsx0
import Derived.Test.YtpeeneaapmmciaaPLlawsx1
import Derived.Test.YtpeeneaapmmciaaPLlawsx2
import Derived.Test.YtpeeneaapmmciaaPLlawsx3
import Derived.Test.YtpeeneaapmmciaaPLlawsx4
import Derived.Test.YtpeeneaapmmciaaPLlawsx5
