/- The functions do what they ask for: the parts. No condition. -/
import Derived.Test.YtcncdfmnpmmikaaXhT1
import Derived.Test.YtcncdfmnpmmikaaXhT2
import Derived.Test.YtcncdfmnpmmikaaXhT3
import Derived.Test.YtcncdfmnpmmikaaXhT4
