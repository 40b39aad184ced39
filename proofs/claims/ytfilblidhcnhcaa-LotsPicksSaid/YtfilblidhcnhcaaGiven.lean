/- What the printed texts take as given: contracts proved by hand, and printed functions. -/
import Derived.Test.YtfilblidhcnhcaaG3
import Derived.Test.YtfilblidhcnhcaaStr
