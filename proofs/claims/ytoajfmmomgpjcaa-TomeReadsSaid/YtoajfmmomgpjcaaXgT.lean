/- The functions do what they ask for: the parts. No condition. -/
import Derived.Test.YtoajfmmomgpjcaaXgT1
import Derived.Test.YtoajfmmomgpjcaaXgT2
import Derived.Test.YtoajfmmomgpjcaaXgT3
