/-
  NARROWER THAN 'FOR EVERY INPUT', by the rows' own cells (each row's printed sentence says how): XmlTrees: laid · XmlDressed: laid · XmlWraps: laid · XmlBounds: laid · XmlQuotes: laid.
  DERIVED. THE GIVEN ROWS OF THIS SEAT. 5 by the template 'for every input the law returns true; each argument reads behind the call as it read before'; 0 by the template 'total and deterministic' (their statements: YtohgmkjhbacmpaaGreatDoorTotals.lean).
  GIVEN WITH THE SEED: the statements are not yours to turn. If you find one false, say at which input.
  Laid BY PROGRAM, IN A SANDBOX (cutbox-rows.mjs): the forced cells as the released guide's own fill.sh prints them over the translation e6c1292b57554ff3… (all of the seat's roots in one cut). By AI agents, Wed Nov 11 2026. No macro, syntax, notation, axiom, sorry.
-/
import Derived.Test.YtohgmkjhbacmpaaGreatDoorChecked
import GoSem.PinnedTables
import GoSem.Claim
import GoSem.ClaimJoined
import GoSem.ClaimMapViews
import Derived.JoinedTies
import Derived.KernelRfl
namespace Go.Proofs.YtohgmkjhbacmpaaGreatDoor
/- THE CELL 'sum', in the pinned program and in every row, IS THE sha256 OF THE DUMP (.gsa) THAT YtohgmkjhbacmpaaGreatDoorProg.lean LOADS. Nothing in Lean hashes anything: it is a label: what it is worth is what the hold of that sum in a sandbox is worth. -/
noncomputable def Tryz.pinned : Pinned := { name := "ytohgmkjhbacmpaagreatdoor", sum := "e6c1292b57554ff3abaaf33003268e277b7a05dfbb0a9b31c07c5fd1751b459d", checked := Tryz.checked }
namespace Rows
def none {H : Type} : Left H := { results := [], args := [] }

/- WHAT THE LISTED PACKAGE-LEVEL VARIABLES READ AS WHEN THE CALL BEGINS. Each datum BY PROGRAM (the guide's laid-datum.mjs) off the statement by which the dump's own 'gosem.cut.vars' lays the variable. In a bare row this is a premise. The card (YtohgmkjhbacmpaaGreatDoorCards.lean) ties it to the program's text. -/
def laid_unicode_utf8_acceptRanges {H : Type} : DataW H := .agg [.agg [.lit (.int .u8 128), .lit (.int .u8 191)], .agg [.lit (.int .u8 160), .lit (.int .u8 191)], .agg [.lit (.int .u8 128), .lit (.int .u8 159)], .agg [.lit (.int .u8 144), .lit (.int .u8 191)], .agg [.lit (.int .u8 128), .lit (.int .u8 143)], .agg [.lit (.int .u8 0), .lit (.int .u8 0)], .agg [.lit (.int .u8 0), .lit (.int .u8 0)], .agg [.lit (.int .u8 0), .lit (.int .u8 0)], .agg [.lit (.int .u8 0), .lit (.int .u8 0)], .agg [.lit (.int .u8 0), .lit (.int .u8 0)], .agg [.lit (.int .u8 0), .lit (.int .u8 0)], .agg [.lit (.int .u8 0), .lit (.int .u8 0)], .agg [.lit (.int .u8 0), .lit (.int .u8 0)], .agg [.lit (.int .u8 0), .lit (.int .u8 0)], .agg [.lit (.int .u8 0), .lit (.int .u8 0)], .agg [.lit (.int .u8 0), .lit (.int .u8 0)]]
/-- One of Go's own tables, pinned by name: the form's constant. -/
def laid_unicode_utf8_first : DataW Unit := Go.Pinned.utf8First

/-- 'lanyardlaw11.XmlTrees': WHATEVER THE INPUT: true; the input reads as it did. -/
def xmlTreesSpec : ChangeSpec := { name := "xmlTrees", fn := fun _ => fun
  | [d] => { results := [.lit (.bool true)], args := [d] }
  | _ => none }
def xmlTreesRow : OpenClaim := { program := "ytohgmkjhbacmpaagreatdoor", sum := "e6c1292b57554ff3abaaf33003268e277b7a05dfbb0a9b31c07c5fd1751b459d", func := "lanyard/lanyardlaw11.XmlTrees", spec := "xmlTrees", inPlace := ["internal/bytealg.CountString", "internal/bytealg.IndexByteString", "internal/bytealg.IndexString", "internal/abi.NoEscape", "internal/bytealg.MakeNoZero"], unfollowed := true, recurses := true, named := ["unicode/utf8.first", "unicode/utf8.acceptRanges", "internal/bytealg.MaxLen"], apart := false, laid := [("unicode/utf8.acceptRanges", laid_unicode_utf8_acceptRanges), ("unicode/utf8.first", laid_unicode_utf8_first)] }
def XmlTreesSaid : Prop := xmlTreesRow.holds Tryz.pinned (OpenSpec.ofChange xmlTreesSpec)

/-- ITS FALSE NEIGHBOUR: 'it returns false'. Refute it at one input. -/
def xmlTreesWrong : ChangeSpec := { name := "xmlTrees", fn := fun _ => fun
  | [d] => { results := [.lit (.bool false)], args := [d] }
  | _ => none }
def XmlTreesWrongFalsely : Prop := xmlTreesRow.holds Tryz.pinned (OpenSpec.ofChange xmlTreesWrong)

/-- 'lanyardlaw11.XmlDressed': WHATEVER THE INPUT: true; the input reads as it did. -/
def xmlDressedSpec : ChangeSpec := { name := "xmlDressed", fn := fun _ => fun
  | [d1, d2] => { results := [.lit (.bool true)], args := [d1, d2] }
  | _ => none }
def xmlDressedRow : OpenClaim := { program := "ytohgmkjhbacmpaagreatdoor", sum := "e6c1292b57554ff3abaaf33003268e277b7a05dfbb0a9b31c07c5fd1751b459d", func := "lanyard/lanyardlaw11.XmlDressed", spec := "xmlDressed", inPlace := ["internal/bytealg.CountString", "internal/bytealg.IndexByteString", "internal/bytealg.IndexString", "internal/abi.NoEscape", "internal/bytealg.MakeNoZero"], unfollowed := true, recurses := true, named := ["unicode/utf8.first", "unicode/utf8.acceptRanges", "internal/bytealg.MaxLen"], apart := false, laid := [("unicode/utf8.acceptRanges", laid_unicode_utf8_acceptRanges), ("unicode/utf8.first", laid_unicode_utf8_first)] }
def XmlDressedSaid : Prop := xmlDressedRow.holds Tryz.pinned (OpenSpec.ofChange xmlDressedSpec)

/-- ITS FALSE NEIGHBOUR: 'it returns false'. Refute it at one input. -/
def xmlDressedWrong : ChangeSpec := { name := "xmlDressed", fn := fun _ => fun
  | [d1, d2] => { results := [.lit (.bool false)], args := [d1, d2] }
  | _ => none }
def XmlDressedWrongFalsely : Prop := xmlDressedRow.holds Tryz.pinned (OpenSpec.ofChange xmlDressedWrong)

/-- 'lanyardlaw11.XmlWraps': WHATEVER THE INPUT: true; the input reads as it did. -/
def xmlWrapsSpec : ChangeSpec := { name := "xmlWraps", fn := fun _ => fun
  | [d1, d2] => { results := [.lit (.bool true)], args := [d1, d2] }
  | _ => none }
def xmlWrapsRow : OpenClaim := { program := "ytohgmkjhbacmpaagreatdoor", sum := "e6c1292b57554ff3abaaf33003268e277b7a05dfbb0a9b31c07c5fd1751b459d", func := "lanyard/lanyardlaw11.XmlWraps", spec := "xmlWraps", inPlace := ["internal/bytealg.CountString", "internal/bytealg.IndexByteString", "internal/bytealg.IndexString", "internal/abi.NoEscape", "internal/bytealg.MakeNoZero"], unfollowed := true, recurses := true, named := ["unicode/utf8.first", "unicode/utf8.acceptRanges", "internal/bytealg.MaxLen"], apart := false, laid := [("unicode/utf8.acceptRanges", laid_unicode_utf8_acceptRanges), ("unicode/utf8.first", laid_unicode_utf8_first)] }
def XmlWrapsSaid : Prop := xmlWrapsRow.holds Tryz.pinned (OpenSpec.ofChange xmlWrapsSpec)

/-- ITS FALSE NEIGHBOUR: 'it returns false'. Refute it at one input. -/
def xmlWrapsWrong : ChangeSpec := { name := "xmlWraps", fn := fun _ => fun
  | [d1, d2] => { results := [.lit (.bool false)], args := [d1, d2] }
  | _ => none }
def XmlWrapsWrongFalsely : Prop := xmlWrapsRow.holds Tryz.pinned (OpenSpec.ofChange xmlWrapsWrong)

/-- 'lanyardlaw11.XmlBounds': WHATEVER THE INPUT: true; the input reads as it did. -/
def xmlBoundsSpec : ChangeSpec := { name := "xmlBounds", fn := fun _ => fun
  | [d1, d2, d3] => { results := [.lit (.bool true)], args := [d1, d2, d3] }
  | _ => none }
def xmlBoundsRow : OpenClaim := { program := "ytohgmkjhbacmpaagreatdoor", sum := "e6c1292b57554ff3abaaf33003268e277b7a05dfbb0a9b31c07c5fd1751b459d", func := "lanyard/lanyardlaw11.XmlBounds", spec := "xmlBounds", inPlace := ["internal/bytealg.CountString", "internal/bytealg.IndexByteString", "internal/bytealg.IndexString", "internal/abi.NoEscape", "internal/bytealg.MakeNoZero"], unfollowed := true, recurses := true, named := ["unicode/utf8.first", "unicode/utf8.acceptRanges", "internal/bytealg.MaxLen"], apart := false, laid := [("unicode/utf8.acceptRanges", laid_unicode_utf8_acceptRanges), ("unicode/utf8.first", laid_unicode_utf8_first)] }
def XmlBoundsSaid : Prop := xmlBoundsRow.holds Tryz.pinned (OpenSpec.ofChange xmlBoundsSpec)

/-- ITS FALSE NEIGHBOUR: 'it returns false'. Refute it at one input. -/
def xmlBoundsWrong : ChangeSpec := { name := "xmlBounds", fn := fun _ => fun
  | [d1, d2, d3] => { results := [.lit (.bool false)], args := [d1, d2, d3] }
  | _ => none }
def XmlBoundsWrongFalsely : Prop := xmlBoundsRow.holds Tryz.pinned (OpenSpec.ofChange xmlBoundsWrong)

/-- 'lanyardlaw11.XmlQuotes': WHATEVER THE INPUT: true; the input reads as it did. -/
def xmlQuotesSpec : ChangeSpec := { name := "xmlQuotes", fn := fun _ => fun
  | [d1, d2] => { results := [.lit (.bool true)], args := [d1, d2] }
  | _ => none }
def xmlQuotesRow : OpenClaim := { program := "ytohgmkjhbacmpaagreatdoor", sum := "e6c1292b57554ff3abaaf33003268e277b7a05dfbb0a9b31c07c5fd1751b459d", func := "lanyard/lanyardlaw11.XmlQuotes", spec := "xmlQuotes", inPlace := ["internal/bytealg.CountString", "internal/bytealg.IndexByteString", "internal/bytealg.IndexString", "internal/abi.NoEscape", "internal/bytealg.MakeNoZero"], unfollowed := true, recurses := true, named := ["unicode/utf8.first", "unicode/utf8.acceptRanges", "internal/bytealg.MaxLen"], apart := false, laid := [("unicode/utf8.acceptRanges", laid_unicode_utf8_acceptRanges), ("unicode/utf8.first", laid_unicode_utf8_first)] }
def XmlQuotesSaid : Prop := xmlQuotesRow.holds Tryz.pinned (OpenSpec.ofChange xmlQuotesSpec)

/-- ITS FALSE NEIGHBOUR: 'it returns false'. Refute it at one input. -/
def xmlQuotesWrong : ChangeSpec := { name := "xmlQuotes", fn := fun _ => fun
  | [d1, d2] => { results := [.lit (.bool false)], args := [d1, d2] }
  | _ => none }
def XmlQuotesWrongFalsely : Prop := xmlQuotesRow.holds Tryz.pinned (OpenSpec.ofChange xmlQuotesWrong)

/- THE SECOND FORM. 'bulk': how many values and letters a reading holds, each counted each time it is reached (what is shared counts as often as it is met; a slice's spare places count too). A statement '..UptoSaid' is the law's where the arguments, and the package variables that the reading takes, are together of bulk at most 1048576: NARROWER than '..Said'. Prove '..Said' where nothing that the law and all that it calls make is longer than what came in: it says more and counts as full. Else prove '..UptoSaid'. A law counts once. -/
mutual
def uptoBulk {H : Type} : DataW H → Nat
  | .lit (.string bytes) => bytes.length + 1
  | .lit _ => 1
  | .nil => 1
  | .ptr d => uptoBulk d + 1
  | .slice elems spare => uptoBulkAll elems + uptoBulkAll spare + 1
  | .agg parts => uptoBulkAll parts + 1
  | .iface _ d => uptoBulk d + 1
  | .map entries => uptoBulkEntries entries + 1
  | .held _ => 1
def uptoBulkAll {H : Type} : List (DataW H) → Nat
  | [] => 0
  | d :: r => uptoBulk d + uptoBulkAll r
def uptoBulkEntries {H : Type} : List (Lit × DataW H) → Nat
  | [] => 0
  | x :: r => uptoBulkEntry x + uptoBulkEntries r
def uptoBulkEntry {H : Type} : Lit × DataW H → Nat
  | (.string bytes, d) => bytes.length + uptoBulk d + 1
  | (_, d) => uptoBulk d + 1
 end
def uptoSmall : (H : Type) → List (DataW H) → Bool := fun _ ds => decide (uptoBulkAll ds ≤ 1048576)
def OpenSpec.upto (s : _root_.Go.ChangeSpec) : _root_.Go.OpenSpec := { _root_.Go.OpenSpec.ofChange s with cond := some uptoSmall }

/-- 'lanyardlaw11.XmlTrees', WHERE WHAT IT READS IS OF BULK AT MOST 1048576: true; the input reads as it did. -/
def xmlTreesUptoRow : OpenClaim := { program := "ytohgmkjhbacmpaagreatdoor", sum := "e6c1292b57554ff3abaaf33003268e277b7a05dfbb0a9b31c07c5fd1751b459d", func := "lanyard/lanyardlaw11.XmlTrees", spec := "xmlTrees", inPlace := ["internal/bytealg.CountString", "internal/bytealg.IndexByteString", "internal/bytealg.IndexString", "internal/abi.NoEscape", "internal/bytealg.MakeNoZero"], unfollowed := true, recurses := true, named := ["unicode/utf8.first", "unicode/utf8.acceptRanges", "internal/bytealg.MaxLen"], apart := false, laid := [("unicode/utf8.acceptRanges", laid_unicode_utf8_acceptRanges), ("unicode/utf8.first", laid_unicode_utf8_first)], narrowed := true }
def XmlTreesUptoSaid : Prop := xmlTreesUptoRow.holds Tryz.pinned (OpenSpec.upto xmlTreesSpec)

/-- 'lanyardlaw11.XmlDressed', WHERE WHAT IT READS IS OF BULK AT MOST 1048576: true; the input reads as it did. -/
def xmlDressedUptoRow : OpenClaim := { program := "ytohgmkjhbacmpaagreatdoor", sum := "e6c1292b57554ff3abaaf33003268e277b7a05dfbb0a9b31c07c5fd1751b459d", func := "lanyard/lanyardlaw11.XmlDressed", spec := "xmlDressed", inPlace := ["internal/bytealg.CountString", "internal/bytealg.IndexByteString", "internal/bytealg.IndexString", "internal/abi.NoEscape", "internal/bytealg.MakeNoZero"], unfollowed := true, recurses := true, named := ["unicode/utf8.first", "unicode/utf8.acceptRanges", "internal/bytealg.MaxLen"], apart := false, laid := [("unicode/utf8.acceptRanges", laid_unicode_utf8_acceptRanges), ("unicode/utf8.first", laid_unicode_utf8_first)], narrowed := true }
def XmlDressedUptoSaid : Prop := xmlDressedUptoRow.holds Tryz.pinned (OpenSpec.upto xmlDressedSpec)

/-- 'lanyardlaw11.XmlWraps', WHERE WHAT IT READS IS OF BULK AT MOST 1048576: true; the input reads as it did. -/
def xmlWrapsUptoRow : OpenClaim := { program := "ytohgmkjhbacmpaagreatdoor", sum := "e6c1292b57554ff3abaaf33003268e277b7a05dfbb0a9b31c07c5fd1751b459d", func := "lanyard/lanyardlaw11.XmlWraps", spec := "xmlWraps", inPlace := ["internal/bytealg.CountString", "internal/bytealg.IndexByteString", "internal/bytealg.IndexString", "internal/abi.NoEscape", "internal/bytealg.MakeNoZero"], unfollowed := true, recurses := true, named := ["unicode/utf8.first", "unicode/utf8.acceptRanges", "internal/bytealg.MaxLen"], apart := false, laid := [("unicode/utf8.acceptRanges", laid_unicode_utf8_acceptRanges), ("unicode/utf8.first", laid_unicode_utf8_first)], narrowed := true }
def XmlWrapsUptoSaid : Prop := xmlWrapsUptoRow.holds Tryz.pinned (OpenSpec.upto xmlWrapsSpec)

/-- 'lanyardlaw11.XmlBounds', WHERE WHAT IT READS IS OF BULK AT MOST 1048576: true; the input reads as it did. -/
def xmlBoundsUptoRow : OpenClaim := { program := "ytohgmkjhbacmpaagreatdoor", sum := "e6c1292b57554ff3abaaf33003268e277b7a05dfbb0a9b31c07c5fd1751b459d", func := "lanyard/lanyardlaw11.XmlBounds", spec := "xmlBounds", inPlace := ["internal/bytealg.CountString", "internal/bytealg.IndexByteString", "internal/bytealg.IndexString", "internal/abi.NoEscape", "internal/bytealg.MakeNoZero"], unfollowed := true, recurses := true, named := ["unicode/utf8.first", "unicode/utf8.acceptRanges", "internal/bytealg.MaxLen"], apart := false, laid := [("unicode/utf8.acceptRanges", laid_unicode_utf8_acceptRanges), ("unicode/utf8.first", laid_unicode_utf8_first)], narrowed := true }
def XmlBoundsUptoSaid : Prop := xmlBoundsUptoRow.holds Tryz.pinned (OpenSpec.upto xmlBoundsSpec)

/-- 'lanyardlaw11.XmlQuotes', WHERE WHAT IT READS IS OF BULK AT MOST 1048576: true; the input reads as it did. -/
def xmlQuotesUptoRow : OpenClaim := { program := "ytohgmkjhbacmpaagreatdoor", sum := "e6c1292b57554ff3abaaf33003268e277b7a05dfbb0a9b31c07c5fd1751b459d", func := "lanyard/lanyardlaw11.XmlQuotes", spec := "xmlQuotes", inPlace := ["internal/bytealg.CountString", "internal/bytealg.IndexByteString", "internal/bytealg.IndexString", "internal/abi.NoEscape", "internal/bytealg.MakeNoZero"], unfollowed := true, recurses := true, named := ["unicode/utf8.first", "unicode/utf8.acceptRanges", "internal/bytealg.MaxLen"], apart := false, laid := [("unicode/utf8.acceptRanges", laid_unicode_utf8_acceptRanges), ("unicode/utf8.first", laid_unicode_utf8_first)], narrowed := true }
def XmlQuotesUptoSaid : Prop := xmlQuotesUptoRow.holds Tryz.pinned (OpenSpec.upto xmlQuotesSpec)

end Rows
end Go.Proofs.YtohgmkjhbacmpaaGreatDoor
