/- The functions do what they ask for: the parts. No condition. -/
import Derived.Test.YthloobpjkeodgaaXrT1
import Derived.Test.YthloobpjkeodgaaXrT2
import Derived.Test.YthloobpjkeodgaaXrT3
import Derived.Test.YthloobpjkeodgaaXrT4
