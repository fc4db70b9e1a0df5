/-
  DERIVED. GIVEN WITH THE SEED: THE CARDS: each row of YtjkmcnhofpnoeaaDoorRows.lean that lists a variable, with what it lists TIED to the program's text (the seventh form; the later family's looks); each row that meets fmt, with fmt's text TOLD by the authors' own Lean function (tested against real Go, not proved from fmt's source: count such statements apart). THE CARD IS WHAT COUNTS. Prove the row's statement (the work); the ties are given (YtjkmcnhofpnoeaaDoorTie.lean); close each card by the builder's one call (the guide's Derived/Test/ToyasCard.lean, 'card_holds'). Laid BY PROGRAM, IN A SANDBOX (cutbox-door.mjs). By AI agents, Wed Nov 11 2026. No macro, syntax, notation, axiom, sorry.
-/
import Derived.Test.YtjkmcnhofpnoeaaDoorRows
import GoSem.ClaimSeven
namespace Go.Proofs.YtjkmcnhofpnoeaaDoor
namespace Rows

/-- THE TIED CARD OF 'lanyardlaw05.HashSums'. -/
def hashSumsCard : Claim7 := { stood := { row := hashSumsRow, standIns := [], harness := (true, "ca2d1331903dfda42b821b7ff8d7e1d028d85c9a3d5ab409d25f7bde08abb9ac"), looks := false }, kinds := [], alts := [], laidByText := true, laidKinds := [.data], laidTests := true, laidLooks := .later }
def HashSumsCardSaid : Prop := Claim7.holds Tryd.pinned (.plain (OpenSpec.ofChange hashSumsSpec)) hashSumsCard

/-- THE TIED CARD OF 'lanyardlaw05.HashMacs'. -/
def hashMacsCard : Claim7 := { stood := { row := hashMacsRow, standIns := [], harness := (true, "ca2d1331903dfda42b821b7ff8d7e1d028d85c9a3d5ab409d25f7bde08abb9ac"), looks := false }, kinds := [], alts := [], laidByText := true, laidKinds := [.data], laidTests := true, laidLooks := .later }
def HashMacsCardSaid : Prop := Claim7.holds Tryd.pinned (.plain (OpenSpec.ofChange hashMacsSpec)) hashMacsCard

/-- THE TIED CARD OF 'lanyardlaw05.HashPieces'. -/
def hashPiecesCard : Claim7 := { stood := { row := hashPiecesRow, standIns := [], harness := (true, "ca2d1331903dfda42b821b7ff8d7e1d028d85c9a3d5ab409d25f7bde08abb9ac"), looks := false }, kinds := [], alts := [], laidByText := true, laidKinds := [.data], laidTests := true, laidLooks := .later }
def HashPiecesCardSaid : Prop := Claim7.holds Tryd.pinned (.plain (OpenSpec.ofChange hashPiecesSpec)) hashPiecesCard

/-- THE TIED CARD OF 'lanyardlaw05.HashStretch'. -/
def hashStretchCard : Claim7 := { stood := { row := hashStretchRow, standIns := [], harness := (true, "ca2d1331903dfda42b821b7ff8d7e1d028d85c9a3d5ab409d25f7bde08abb9ac"), looks := false }, kinds := [], alts := [], laidByText := true, laidKinds := [.data], laidTests := true, laidLooks := .later }
def HashStretchCardSaid : Prop := Claim7.holds Tryd.pinned (.plain (OpenSpec.ofChange hashStretchSpec)) hashStretchCard

/-- THE TIED CARD OF 'lanyardlaw05.HashEqual'. -/
def hashEqualCard : Claim7 := { stood := { row := hashEqualRow, standIns := [], harness := (true, "ca2d1331903dfda42b821b7ff8d7e1d028d85c9a3d5ab409d25f7bde08abb9ac"), looks := false }, kinds := [], alts := [], laidByText := true, laidKinds := [.data], laidTests := true, laidLooks := .later }
def HashEqualCardSaid : Prop := Claim7.holds Tryd.pinned (.plain (OpenSpec.ofChange hashEqualSpec)) hashEqualCard

/-- THE SECOND FORM's CARD OF 'lanyardlaw05.HashSums'. -/
def hashSumsUptoCard : Claim7 := { stood := { row := hashSumsUptoRow, standIns := [], harness := (true, "ca2d1331903dfda42b821b7ff8d7e1d028d85c9a3d5ab409d25f7bde08abb9ac"), looks := false }, kinds := [], alts := [], laidByText := true, laidKinds := [.data], laidTests := true, laidLooks := .later }
def HashSumsUptoCardSaid : Prop := Claim7.holds Tryd.pinned (.plain (OpenSpec.upto hashSumsSpec)) hashSumsUptoCard

/-- THE SECOND FORM's CARD OF 'lanyardlaw05.HashMacs'. -/
def hashMacsUptoCard : Claim7 := { stood := { row := hashMacsUptoRow, standIns := [], harness := (true, "ca2d1331903dfda42b821b7ff8d7e1d028d85c9a3d5ab409d25f7bde08abb9ac"), looks := false }, kinds := [], alts := [], laidByText := true, laidKinds := [.data], laidTests := true, laidLooks := .later }
def HashMacsUptoCardSaid : Prop := Claim7.holds Tryd.pinned (.plain (OpenSpec.upto hashMacsSpec)) hashMacsUptoCard

/-- THE SECOND FORM's CARD OF 'lanyardlaw05.HashPieces'. -/
def hashPiecesUptoCard : Claim7 := { stood := { row := hashPiecesUptoRow, standIns := [], harness := (true, "ca2d1331903dfda42b821b7ff8d7e1d028d85c9a3d5ab409d25f7bde08abb9ac"), looks := false }, kinds := [], alts := [], laidByText := true, laidKinds := [.data], laidTests := true, laidLooks := .later }
def HashPiecesUptoCardSaid : Prop := Claim7.holds Tryd.pinned (.plain (OpenSpec.upto hashPiecesSpec)) hashPiecesUptoCard

/-- THE SECOND FORM's CARD OF 'lanyardlaw05.HashStretch'. -/
def hashStretchUptoCard : Claim7 := { stood := { row := hashStretchUptoRow, standIns := [], harness := (true, "ca2d1331903dfda42b821b7ff8d7e1d028d85c9a3d5ab409d25f7bde08abb9ac"), looks := false }, kinds := [], alts := [], laidByText := true, laidKinds := [.data], laidTests := true, laidLooks := .later }
def HashStretchUptoCardSaid : Prop := Claim7.holds Tryd.pinned (.plain (OpenSpec.upto hashStretchSpec)) hashStretchUptoCard

/-- THE SECOND FORM's CARD OF 'lanyardlaw05.HashEqual'. -/
def hashEqualUptoCard : Claim7 := { stood := { row := hashEqualUptoRow, standIns := [], harness := (true, "ca2d1331903dfda42b821b7ff8d7e1d028d85c9a3d5ab409d25f7bde08abb9ac"), looks := false }, kinds := [], alts := [], laidByText := true, laidKinds := [.data], laidTests := true, laidLooks := .later }
def HashEqualUptoCardSaid : Prop := Claim7.holds Tryd.pinned (.plain (OpenSpec.upto hashEqualSpec)) hashEqualUptoCard
end Rows
end Go.Proofs.YtjkmcnhofpnoeaaDoor
