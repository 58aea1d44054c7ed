/- What the texts on names stand on. -/
import Derived.Test.YtfjndjbpgcggkaaDoorR2
import Derived.Test.YtfjndjbpgcggkaaDoorL
import Derived.Test.YtfjndjbpgcggkaaDoorProg
import Derived.Lib.Hide
set_option linter.unusedVariables false
set_option linter.unusedSimpArgs false
