/- Texts that come in (plain). -/
import Derived.Test.YtigjbehgfjjlkaaGreatDoorLaidB
set_option linter.unusedVariables false
namespace Go.Proofs.YtigjbehgfjjlkaaGreatDoor
open Go Go.Abs Go.RowKit Go.Xml
end Go.Proofs.YtigjbehgfjjlkaaGreatDoor
