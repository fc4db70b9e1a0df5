/- Does a tree hang together, as the reference says it (lanyardref12.Right)? No conditions. -/
import Derived.Test.YtigjbehgfjjlkaaGreatDoorTrGA
set_option linter.unusedVariables false
set_option linter.unusedSimpArgs false
namespace Go.Proofs.YtigjbehgfjjlkaaGreatDoor
open Go Go.Abs Go.RowKit Go.Xml
variable {base : Nat} {w0 : World} {G : Nat}
end Go.Proofs.YtigjbehgfjjlkaaGreatDoor
