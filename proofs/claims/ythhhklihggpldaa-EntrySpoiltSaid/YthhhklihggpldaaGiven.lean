/- What the printed texts take as given: contracts proved by hand. -/
import Derived.Test.YthhhklihggpldaaG1
import Derived.Test.YthhhklihggpldaaStr
