/- Texts that come in (plain). -/
import Derived.Test.YtohgmkjhbacmpaaGreatDoorLaidB
set_option linter.unusedVariables false
namespace Go.Proofs.YtohgmkjhbacmpaaGreatDoor
open Go Go.Abs Go.RowKit Go.Xml
end Go.Proofs.YtohgmkjhbacmpaaGreatDoor
