/- What the printed texts take as given: contracts proved by hand. -/
import Derived.Test.YthlpcfjnpagokaaG1
import Derived.Test.YthlpcfjnpagokaaLit
import Derived.Test.YthlpcfjnpagokaaStr
