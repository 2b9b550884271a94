/- The functions do what they ask for: the parts. No condition. -/
import Derived.Test.YthloobpjkeodgaaXdT1
import Derived.Test.YthloobpjkeodgaaXdT2
