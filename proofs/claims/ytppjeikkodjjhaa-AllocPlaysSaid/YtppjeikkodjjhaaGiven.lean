/- What the print takes as given in this seat. -/
import Derived.Test.YtppjeikkodjjhaaB1
import Derived.Test.YtppjeikkodjjhaaPWithx1
