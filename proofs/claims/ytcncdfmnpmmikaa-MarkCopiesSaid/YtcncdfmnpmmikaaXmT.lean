/- The functions do what they ask for: the parts. No condition. -/
import Derived.Test.YtcncdfmnpmmikaaXmT1
import Derived.Test.YtcncdfmnpmmikaaXmT2
