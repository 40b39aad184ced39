/- What the printed texts of EntryBlocks and EntrySpoilt take as given: contracts proved by hand, and the printed ones of EntryReads. -/
import Derived.Test.YthhhklihggpldaaG2
import Derived.Test.YthhhklihggpldaaPEntryReadsx5
