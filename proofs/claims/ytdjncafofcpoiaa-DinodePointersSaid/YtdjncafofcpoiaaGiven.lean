/- What the printed texts take as given: contracts proved by hand. -/
import Derived.Test.YtdjncafofcpoiaaG6
