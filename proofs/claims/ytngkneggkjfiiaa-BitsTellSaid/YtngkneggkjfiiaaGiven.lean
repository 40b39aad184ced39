/- What the printed texts take as given: contracts proved by hand. -/
import Derived.Test.YtngkneggkjfiiaaG1
import Derived.Test.YtngkneggkjfiiaaPWithx1
