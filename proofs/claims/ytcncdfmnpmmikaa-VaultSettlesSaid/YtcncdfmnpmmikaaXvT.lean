/- The functions do what they ask for: the parts. No condition. -/
import Derived.Test.YtcncdfmnpmmikaaXvT1
import Derived.Test.YtcncdfmnpmmikaaXvT2
import Derived.Test.YtcncdfmnpmmikaaXvT3
