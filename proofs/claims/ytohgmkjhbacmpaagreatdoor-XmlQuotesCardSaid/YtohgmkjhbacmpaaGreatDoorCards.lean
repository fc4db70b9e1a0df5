/-
  DERIVED. GIVEN WITH THE SEED: THE CARDS: each row of YtohgmkjhbacmpaaGreatDoorRows.lean that lists a variable, with what it lists TIED to the program's text (the seventh form; the later family's looks); each row that meets fmt, with fmt's text TOLD by the authors' own Lean function (tested against real Go, not proved from fmt's source: count such statements apart). THE CARD IS WHAT COUNTS. Prove the row's statement (the work); the ties are given (YtohgmkjhbacmpaaGreatDoorTie.lean); close each card by the builder's one call (the guide's Derived/Test/ToyasCard.lean, 'card_holds'). Laid BY PROGRAM, IN A SANDBOX (cutbox-door.mjs). By AI agents, Wed Nov 11 2026. No macro, syntax, notation, axiom, sorry.
-/
import Derived.Test.YtohgmkjhbacmpaaGreatDoorRows
import GoSem.ClaimSeven
namespace Go.Proofs.YtohgmkjhbacmpaaGreatDoor
namespace Rows

/-- THE TIED CARD OF 'lanyardlaw11.XmlTrees'. -/
def xmlTreesCard : Claim7 := { stood := { row := xmlTreesRow, standIns := [], harness := (true, "d8d2abc968ad27b8f2996404a56e4e4be22abeb94f37492d39b526066ad52ddf"), looks := true }, kinds := [], alts := [], laidByText := true, laidKinds := [.data, .pinned], laidTests := true, laidLooks := .later }
def XmlTreesCardSaid : Prop := Claim7.holds Tryz.pinned (.plain (OpenSpec.ofChange xmlTreesSpec)) xmlTreesCard

/-- THE TIED CARD OF 'lanyardlaw11.XmlDressed'. -/
def xmlDressedCard : Claim7 := { stood := { row := xmlDressedRow, standIns := [], harness := (true, "d8d2abc968ad27b8f2996404a56e4e4be22abeb94f37492d39b526066ad52ddf"), looks := true }, kinds := [], alts := [], laidByText := true, laidKinds := [.data, .pinned], laidTests := true, laidLooks := .later }
def XmlDressedCardSaid : Prop := Claim7.holds Tryz.pinned (.plain (OpenSpec.ofChange xmlDressedSpec)) xmlDressedCard

/-- THE TIED CARD OF 'lanyardlaw11.XmlWraps'. -/
def xmlWrapsCard : Claim7 := { stood := { row := xmlWrapsRow, standIns := [], harness := (true, "d8d2abc968ad27b8f2996404a56e4e4be22abeb94f37492d39b526066ad52ddf"), looks := true }, kinds := [], alts := [], laidByText := true, laidKinds := [.data, .pinned], laidTests := true, laidLooks := .later }
def XmlWrapsCardSaid : Prop := Claim7.holds Tryz.pinned (.plain (OpenSpec.ofChange xmlWrapsSpec)) xmlWrapsCard

/-- THE TIED CARD OF 'lanyardlaw11.XmlBounds'. -/
def xmlBoundsCard : Claim7 := { stood := { row := xmlBoundsRow, standIns := [], harness := (true, "d8d2abc968ad27b8f2996404a56e4e4be22abeb94f37492d39b526066ad52ddf"), looks := true }, kinds := [], alts := [], laidByText := true, laidKinds := [.data, .pinned], laidTests := true, laidLooks := .later }
def XmlBoundsCardSaid : Prop := Claim7.holds Tryz.pinned (.plain (OpenSpec.ofChange xmlBoundsSpec)) xmlBoundsCard

/-- THE TIED CARD OF 'lanyardlaw11.XmlQuotes'. -/
def xmlQuotesCard : Claim7 := { stood := { row := xmlQuotesRow, standIns := [], harness := (true, "d8d2abc968ad27b8f2996404a56e4e4be22abeb94f37492d39b526066ad52ddf"), looks := true }, kinds := [], alts := [], laidByText := true, laidKinds := [.data, .pinned], laidTests := true, laidLooks := .later }
def XmlQuotesCardSaid : Prop := Claim7.holds Tryz.pinned (.plain (OpenSpec.ofChange xmlQuotesSpec)) xmlQuotesCard

/-- THE SECOND FORM's CARD OF 'lanyardlaw11.XmlTrees'. -/
def xmlTreesUptoCard : Claim7 := { stood := { row := xmlTreesUptoRow, standIns := [], harness := (true, "d8d2abc968ad27b8f2996404a56e4e4be22abeb94f37492d39b526066ad52ddf"), looks := true }, kinds := [], alts := [], laidByText := true, laidKinds := [.data, .pinned], laidTests := true, laidLooks := .later }
def XmlTreesUptoCardSaid : Prop := Claim7.holds Tryz.pinned (.plain (OpenSpec.upto xmlTreesSpec)) xmlTreesUptoCard

/-- THE SECOND FORM's CARD OF 'lanyardlaw11.XmlDressed'. -/
def xmlDressedUptoCard : Claim7 := { stood := { row := xmlDressedUptoRow, standIns := [], harness := (true, "d8d2abc968ad27b8f2996404a56e4e4be22abeb94f37492d39b526066ad52ddf"), looks := true }, kinds := [], alts := [], laidByText := true, laidKinds := [.data, .pinned], laidTests := true, laidLooks := .later }
def XmlDressedUptoCardSaid : Prop := Claim7.holds Tryz.pinned (.plain (OpenSpec.upto xmlDressedSpec)) xmlDressedUptoCard

/-- THE SECOND FORM's CARD OF 'lanyardlaw11.XmlWraps'. -/
def xmlWrapsUptoCard : Claim7 := { stood := { row := xmlWrapsUptoRow, standIns := [], harness := (true, "d8d2abc968ad27b8f2996404a56e4e4be22abeb94f37492d39b526066ad52ddf"), looks := true }, kinds := [], alts := [], laidByText := true, laidKinds := [.data, .pinned], laidTests := true, laidLooks := .later }
def XmlWrapsUptoCardSaid : Prop := Claim7.holds Tryz.pinned (.plain (OpenSpec.upto xmlWrapsSpec)) xmlWrapsUptoCard

/-- THE SECOND FORM's CARD OF 'lanyardlaw11.XmlBounds'. -/
def xmlBoundsUptoCard : Claim7 := { stood := { row := xmlBoundsUptoRow, standIns := [], harness := (true, "d8d2abc968ad27b8f2996404a56e4e4be22abeb94f37492d39b526066ad52ddf"), looks := true }, kinds := [], alts := [], laidByText := true, laidKinds := [.data, .pinned], laidTests := true, laidLooks := .later }
def XmlBoundsUptoCardSaid : Prop := Claim7.holds Tryz.pinned (.plain (OpenSpec.upto xmlBoundsSpec)) xmlBoundsUptoCard

/-- THE SECOND FORM's CARD OF 'lanyardlaw11.XmlQuotes'. -/
def xmlQuotesUptoCard : Claim7 := { stood := { row := xmlQuotesUptoRow, standIns := [], harness := (true, "d8d2abc968ad27b8f2996404a56e4e4be22abeb94f37492d39b526066ad52ddf"), looks := true }, kinds := [], alts := [], laidByText := true, laidKinds := [.data, .pinned], laidTests := true, laidLooks := .later }
def XmlQuotesUptoCardSaid : Prop := Claim7.holds Tryz.pinned (.plain (OpenSpec.upto xmlQuotesSpec)) xmlQuotesUptoCard
end Rows
end Go.Proofs.YtohgmkjhbacmpaaGreatDoor
