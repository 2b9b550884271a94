/- The functions do what they ask for: the parts. No condition. -/
import Derived.Test.YthloobpjkeodgaaXwT1
import Derived.Test.YthloobpjkeodgaaXwT2
import Derived.Test.YthloobpjkeodgaaXwT3
