/- What the printed texts take as given: contracts proved by hand. -/
import Derived.Test.YtemachlhoanngaaG1
import Derived.Test.YtemachlhoanngaaG3
import Derived.Test.YtemachlhoanngaaG5
import Derived.Test.YtemachlhoanngaaStr
