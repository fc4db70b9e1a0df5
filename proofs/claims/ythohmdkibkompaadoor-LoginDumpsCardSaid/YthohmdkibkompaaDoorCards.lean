/-
  DERIVED. GIVEN WITH THE SEED: THE CARDS: each row of YthohmdkibkompaaDoorRows.lean that lists a variable, with what it lists TIED to the program's text (the seventh form; the later family's looks); each row that meets fmt, with fmt's text TOLD by the authors' own Lean function (tested against real Go, not proved from fmt's source: count such statements apart). THE CARD IS WHAT COUNTS. Prove the row's statement (the work); the ties are given (YthohmdkibkompaaDoorTie.lean); close each card by the builder's one call (the guide's Derived/Test/ToyasCard.lean, 'card_holds'). Laid BY PROGRAM, IN A SANDBOX (cutbox-door.mjs). By AI agents, Wed Nov 11 2026. No macro, syntax, notation, axiom, sorry.
-/
import Derived.Test.YthohmdkibkompaaDoorRows
import GoSem.ClaimSeven
namespace Go.Proofs.YthohmdkibkompaaDoor
namespace Rows

/-- THE TIED CARD OF 'lanyardlaw21.LoginLocks'. -/
def loginLocksCard : Claim7 := { stood := { row := loginLocksRow, standIns := [], harness := (true, "b702a6455130421e64f208764259bf7f47d084bd74adb5cbd00fdf4a4ecdfebe"), looks := false }, kinds := [], alts := [], laidByText := true, laidKinds := [.data, .data, .data, .data], laidTests := true, laidLooks := .later }
def LoginLocksCardSaid : Prop := Claim7.holds Tryd.pinned (.plain (OpenSpec.ofChange loginLocksSpec)) loginLocksCard

/-- THE TIED CARD OF 'lanyardlaw21.LoginFull'. -/
def loginFullCard : Claim7 := { stood := { row := loginFullRow, standIns := [], harness := (true, "b702a6455130421e64f208764259bf7f47d084bd74adb5cbd00fdf4a4ecdfebe"), looks := false }, kinds := [], alts := [], laidByText := true, laidKinds := [.data, .data, .data, .data], laidTests := true, laidLooks := .later }
def LoginFullCardSaid : Prop := Claim7.holds Tryd.pinned (.plain (OpenSpec.ofChange loginFullSpec)) loginFullCard

/-- THE TIED CARD OF 'lanyardlaw21.LoginEnds'. -/
def loginEndsCard : Claim7 := { stood := { row := loginEndsRow, standIns := [], harness := (true, "b702a6455130421e64f208764259bf7f47d084bd74adb5cbd00fdf4a4ecdfebe"), looks := false }, kinds := [], alts := [], laidByText := true, laidKinds := [.data, .data, .data, .data], laidTests := true, laidLooks := .later }
def LoginEndsCardSaid : Prop := Claim7.holds Tryd.pinned (.plain (OpenSpec.ofChange loginEndsSpec)) loginEndsCard

/-- THE TIED CARD OF 'lanyardlaw21.LoginDumps'. -/
def loginDumpsCard : Claim7 := { stood := { row := loginDumpsRow, standIns := [], harness := (true, "b702a6455130421e64f208764259bf7f47d084bd74adb5cbd00fdf4a4ecdfebe"), looks := false }, kinds := [], alts := [], laidByText := true, laidKinds := [.data, .data, .data, .data], laidTests := true, laidLooks := .later }
def LoginDumpsCardSaid : Prop := Claim7.holds Tryd.pinned (.plain (OpenSpec.ofChange loginDumpsSpec)) loginDumpsCard

/-- THE SECOND FORM's CARD OF 'lanyardlaw21.LoginLocks'. -/
def loginLocksUptoCard : Claim7 := { stood := { row := loginLocksUptoRow, standIns := [], harness := (true, "b702a6455130421e64f208764259bf7f47d084bd74adb5cbd00fdf4a4ecdfebe"), looks := false }, kinds := [], alts := [], laidByText := true, laidKinds := [.data, .data, .data, .data], laidTests := true, laidLooks := .later }
def LoginLocksUptoCardSaid : Prop := Claim7.holds Tryd.pinned (.plain (OpenSpec.upto loginLocksSpec)) loginLocksUptoCard

/-- THE SECOND FORM's CARD OF 'lanyardlaw21.LoginFull'. -/
def loginFullUptoCard : Claim7 := { stood := { row := loginFullUptoRow, standIns := [], harness := (true, "b702a6455130421e64f208764259bf7f47d084bd74adb5cbd00fdf4a4ecdfebe"), looks := false }, kinds := [], alts := [], laidByText := true, laidKinds := [.data, .data, .data, .data], laidTests := true, laidLooks := .later }
def LoginFullUptoCardSaid : Prop := Claim7.holds Tryd.pinned (.plain (OpenSpec.upto loginFullSpec)) loginFullUptoCard

/-- THE SECOND FORM's CARD OF 'lanyardlaw21.LoginEnds'. -/
def loginEndsUptoCard : Claim7 := { stood := { row := loginEndsUptoRow, standIns := [], harness := (true, "b702a6455130421e64f208764259bf7f47d084bd74adb5cbd00fdf4a4ecdfebe"), looks := false }, kinds := [], alts := [], laidByText := true, laidKinds := [.data, .data, .data, .data], laidTests := true, laidLooks := .later }
def LoginEndsUptoCardSaid : Prop := Claim7.holds Tryd.pinned (.plain (OpenSpec.upto loginEndsSpec)) loginEndsUptoCard

/-- THE SECOND FORM's CARD OF 'lanyardlaw21.LoginDumps'. -/
def loginDumpsUptoCard : Claim7 := { stood := { row := loginDumpsUptoRow, standIns := [], harness := (true, "b702a6455130421e64f208764259bf7f47d084bd74adb5cbd00fdf4a4ecdfebe"), looks := false }, kinds := [], alts := [], laidByText := true, laidKinds := [.data, .data, .data, .data], laidTests := true, laidLooks := .later }
def LoginDumpsUptoCardSaid : Prop := Claim7.holds Tryd.pinned (.plain (OpenSpec.upto loginDumpsSpec)) loginDumpsUptoCard
end Rows
end Go.Proofs.YthohmdkibkompaaDoor
