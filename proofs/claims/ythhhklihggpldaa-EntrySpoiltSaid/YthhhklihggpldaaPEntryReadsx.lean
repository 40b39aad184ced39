-- written by the session's program wip/print/patch.py (a turned copy of the print) over contracts that the session proved by hand
import Derived.Test.YthhhklihggpldaaPEntryReadsx0
import Derived.Test.YthhhklihggpldaaPEntryReadsx1
import Derived.Test.YthhhklihggpldaaPEntryReadsx2
import Derived.Test.YthhhklihggpldaaPEntryReadsx3
import Derived.Test.YthhhklihggpldaaPEntryReadsx4
import Derived.Test.YthhhklihggpldaaPEntryReadsx5
import Derived.Test.YthhhklihggpldaaPEntryReadsx6
namespace Go.Proofs.Ythhhklihggpldaa.PEntryReads
open Go.Proofs.Ythhhklihggpldaa.Given
open Go.RowKit Go.Proofs.YthhhklihggpldaaW.PrintWords Go.Proofs.YthhhklihggpldaaW.PrintLast Go.Proofs.YthhhklihggpldaaW.PrintMore
attribute [local go_sem] max2_int min2_int max_two min_two max_three min_three max_four min_four   -- for this text's walks alone
set_option linter.unusedVariables false
set_option linter.unusedSimpArgs false

end Go.Proofs.Ythhhklihggpldaa.PEntryReads
