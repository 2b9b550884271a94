/- The functions do what they ask for: the parts. No condition. -/
import Derived.Test.YthloobpjkeodgaaXfT1
import Derived.Test.YthloobpjkeodgaaXfT2
