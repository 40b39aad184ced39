/- What the printed law SuperHeads takes as given: super.Head by hand, and the printed functions. -/
import Derived.Test.YthlpcfjnpagokaaG3
import Derived.Test.YthlpcfjnpagokaaPHeadFnsx6
import Derived.Test.YthlpcfjnpagokaaPHeadFnsx5
