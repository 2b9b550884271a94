/- The functions do what they ask for: the parts. No condition. -/
import Derived.Test.YtoajfmmomgpjcaaXfT1
import Derived.Test.YtoajfmmomgpjcaaXfT2
