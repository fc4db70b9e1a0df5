/-
  DERIVED. GIVEN WITH THE SEED: THE CARDS: each row of YtigjbehgfjjlkaaGreatDoorRows.lean that lists a variable, with what it lists TIED to the program's text (the seventh form; the later family's looks); each row that meets fmt, with fmt's text TOLD by the authors' own Lean function (tested against real Go, not proved from fmt's source: count such statements apart). THE CARD IS WHAT COUNTS. Prove the row's statement (the work); the ties are given (YtigjbehgfjjlkaaGreatDoorTie.lean); close each card by the builder's one call (the guide's Derived/Test/ToyasCard.lean, 'card_holds'). Laid BY PROGRAM, IN A SANDBOX (cutbox-door.mjs). By AI agents, Wed Nov 11 2026. No macro, syntax, notation, axiom, sorry.
-/
import Derived.Test.YtigjbehgfjjlkaaGreatDoorRows
import GoSem.ClaimSeven
namespace Go.Proofs.YtigjbehgfjjlkaaGreatDoor
namespace Rows

/-- THE TIED CARD OF 'lanyardlaw12.TreeWrites'. -/
def treeWritesCard : Claim7 := { stood := { row := treeWritesRow, standIns := [], harness := (true, "3e53b2ab7913cb8d010664f05436be1263aa0ee6a0c387f380bd34c347e5309f"), looks := true }, kinds := [], alts := [], laidByText := true, laidKinds := [.data, .pinned], laidTests := true, laidLooks := .later }
def TreeWritesCardSaid : Prop := Claim7.holds Tryz.pinned (.plain (OpenSpec.ofChange treeWritesSpec)) treeWritesCard

/-- THE TIED CARD OF 'lanyardlaw12.TreeBack'. -/
def treeBackCard : Claim7 := { stood := { row := treeBackRow, standIns := [], harness := (true, "3e53b2ab7913cb8d010664f05436be1263aa0ee6a0c387f380bd34c347e5309f"), looks := true }, kinds := [], alts := [], laidByText := true, laidKinds := [.data, .pinned], laidTests := true, laidLooks := .later }
def TreeBackCardSaid : Prop := Claim7.holds Tryz.pinned (.plain (OpenSpec.ofChange treeBackSpec)) treeBackCard

/-- THE TIED CARD OF 'lanyardlaw12.TreeFinds'. -/
def treeFindsCard : Claim7 := { stood := { row := treeFindsRow, standIns := [], harness := (true, "3e53b2ab7913cb8d010664f05436be1263aa0ee6a0c387f380bd34c347e5309f"), looks := true }, kinds := [], alts := [], laidByText := true, laidKinds := [.data, .pinned], laidTests := true, laidLooks := .later }
def TreeFindsCardSaid : Prop := Claim7.holds Tryz.pinned (.plain (OpenSpec.ofChange treeFindsSpec)) treeFindsCard

/-- THE TIED CARD OF 'lanyardlaw12.TreeLooks'. -/
def treeLooksCard : Claim7 := { stood := { row := treeLooksRow, standIns := [], harness := (true, "3e53b2ab7913cb8d010664f05436be1263aa0ee6a0c387f380bd34c347e5309f"), looks := true }, kinds := [], alts := [], laidByText := true, laidKinds := [.data, .pinned], laidTests := true, laidLooks := .later }
def TreeLooksCardSaid : Prop := Claim7.holds Tryz.pinned (.plain (OpenSpec.ofChange treeLooksSpec)) treeLooksCard

/-- THE SECOND FORM's CARD OF 'lanyardlaw12.TreeWrites'. -/
def treeWritesUptoCard : Claim7 := { stood := { row := treeWritesUptoRow, standIns := [], harness := (true, "3e53b2ab7913cb8d010664f05436be1263aa0ee6a0c387f380bd34c347e5309f"), looks := true }, kinds := [], alts := [], laidByText := true, laidKinds := [.data, .pinned], laidTests := true, laidLooks := .later }
def TreeWritesUptoCardSaid : Prop := Claim7.holds Tryz.pinned (.plain (OpenSpec.upto treeWritesSpec)) treeWritesUptoCard

/-- THE SECOND FORM's CARD OF 'lanyardlaw12.TreeBack'. -/
def treeBackUptoCard : Claim7 := { stood := { row := treeBackUptoRow, standIns := [], harness := (true, "3e53b2ab7913cb8d010664f05436be1263aa0ee6a0c387f380bd34c347e5309f"), looks := true }, kinds := [], alts := [], laidByText := true, laidKinds := [.data, .pinned], laidTests := true, laidLooks := .later }
def TreeBackUptoCardSaid : Prop := Claim7.holds Tryz.pinned (.plain (OpenSpec.upto treeBackSpec)) treeBackUptoCard

/-- THE SECOND FORM's CARD OF 'lanyardlaw12.TreeFinds'. -/
def treeFindsUptoCard : Claim7 := { stood := { row := treeFindsUptoRow, standIns := [], harness := (true, "3e53b2ab7913cb8d010664f05436be1263aa0ee6a0c387f380bd34c347e5309f"), looks := true }, kinds := [], alts := [], laidByText := true, laidKinds := [.data, .pinned], laidTests := true, laidLooks := .later }
def TreeFindsUptoCardSaid : Prop := Claim7.holds Tryz.pinned (.plain (OpenSpec.upto treeFindsSpec)) treeFindsUptoCard

/-- THE SECOND FORM's CARD OF 'lanyardlaw12.TreeLooks'. -/
def treeLooksUptoCard : Claim7 := { stood := { row := treeLooksUptoRow, standIns := [], harness := (true, "3e53b2ab7913cb8d010664f05436be1263aa0ee6a0c387f380bd34c347e5309f"), looks := true }, kinds := [], alts := [], laidByText := true, laidKinds := [.data, .pinned], laidTests := true, laidLooks := .later }
def TreeLooksUptoCardSaid : Prop := Claim7.holds Tryz.pinned (.plain (OpenSpec.upto treeLooksSpec)) treeLooksUptoCard
end Rows
end Go.Proofs.YtigjbehgfjjlkaaGreatDoor
