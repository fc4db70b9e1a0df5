/- Texts turned, as the reference says it (lanyardref03.Turned). No conditions. -/
import Derived.Test.YtigjbehgfjjlkaaGreatDoorTrGB
import Derived.Test.YtigjbehgfjjlkaaGreatDoorTrGC
set_option linter.unusedVariables false
set_option linter.unusedSimpArgs false
namespace Go.Proofs.YtigjbehgfjjlkaaGreatDoor
open Go Go.Abs Go.RowKit Go.Xml
variable {base : Nat} {w0 : World} {G : Nat}
end Go.Proofs.YtigjbehgfjjlkaaGreatDoor
set_option linter.unusedVariables false
set_option linter.unusedSimpArgs false
namespace Go.Proofs.YtigjbehgfjjlkaaGreatDoor
open Go Go.Abs Go.RowKit Go.Xml
variable {base : Nat} {w0 : World} {G : Nat}
end Go.Proofs.YtigjbehgfjjlkaaGreatDoor
