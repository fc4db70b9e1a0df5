/-
  No cell of these rows narrows 'for every input' (looked for: loops, veiled, ifaces, maps, wideKeys, modest, calm, conditions, laid).
  DERIVED. THE GIVEN ROWS OF THIS SEAT. 5 by the template 'for every input the law returns true; each argument reads behind the call as it read before'; 0 by the template 'total and deterministic' (their statements: YtiooigkcliomlaaTotals.lean).
  GIVEN WITH THE SEED: the statements are not yours to turn. If you find one false, say at which input.
  Laid BY PROGRAM, IN A SANDBOX (cutbox-rows.mjs): the forced cells as the released guide's own fill.sh prints them over the translation 738b6ae0fb17f6ef… (all of the seat's roots in one cut). By AI agents, Wed Nov 11 2026. No macro, syntax, notation, axiom, sorry.
-/
import Derived.Test.YtiooigkcliomlaaChecked
import GoSem.Claim
import GoSem.ClaimJoined
import GoSem.ClaimMapViews
import Derived.JoinedTies
import Derived.KernelRfl
namespace Go.Proofs.Ytiooigkcliomlaa
/- THE CELL 'sum', in the pinned program and in every row, IS THE sha256 OF THE DUMP (.gsa) THAT YtiooigkcliomlaaProg.lean LOADS. Nothing in Lean hashes anything: it is a label: what it is worth is what the hold of that sum in a sandbox is worth. -/
noncomputable def Try.pinned : Pinned := { name := "ytiooigkcliomlaa", sum := "738b6ae0fb17f6ef27a595351f3467929f58864a51591b6732a2a4d269a6a962", checked := Try.checked }
namespace Rows
def none {H : Type} : Left H := { results := [], args := [] }

/-- 'lanyardlaw16.JournalTorn': WHATEVER THE INPUT: true; the input reads as it did. -/
def journalTornSpec : ChangeSpec := { name := "journalTorn", fn := fun _ => fun
  | [d1, d2, d3] => { results := [.lit (.bool true)], args := [d1, d2, d3] }
  | _ => none }
def journalTornRow : OpenClaim := { program := "ytiooigkcliomlaa", sum := "738b6ae0fb17f6ef27a595351f3467929f58864a51591b6732a2a4d269a6a962", func := "lanyard/lanyardlaw16.JournalTorn", spec := "journalTorn", unfollowed := true, recurses := true, apart := false }
def JournalTornSaid : Prop := journalTornRow.holds Try.pinned (OpenSpec.ofChange journalTornSpec)

/-- ITS FALSE NEIGHBOUR: 'it returns false'. Refute it at one input. -/
def journalTornWrong : ChangeSpec := { name := "journalTorn", fn := fun _ => fun
  | [d1, d2, d3] => { results := [.lit (.bool false)], args := [d1, d2, d3] }
  | _ => none }
def JournalTornWrongFalsely : Prop := journalTornRow.holds Try.pinned (OpenSpec.ofChange journalTornWrong)

/-- 'lanyardlaw16.JournalScans': WHATEVER THE INPUT: true; the input reads as it did. -/
def journalScansSpec : ChangeSpec := { name := "journalScans", fn := fun _ => fun
  | [d] => { results := [.lit (.bool true)], args := [d] }
  | _ => none }
def journalScansRow : OpenClaim := { program := "ytiooigkcliomlaa", sum := "738b6ae0fb17f6ef27a595351f3467929f58864a51591b6732a2a4d269a6a962", func := "lanyard/lanyardlaw16.JournalScans", spec := "journalScans", unfollowed := true, recurses := true, apart := false }
def JournalScansSaid : Prop := journalScansRow.holds Try.pinned (OpenSpec.ofChange journalScansSpec)

/-- ITS FALSE NEIGHBOUR: 'it returns false'. Refute it at one input. -/
def journalScansWrong : ChangeSpec := { name := "journalScans", fn := fun _ => fun
  | [d] => { results := [.lit (.bool false)], args := [d] }
  | _ => none }
def JournalScansWrongFalsely : Prop := journalScansRow.holds Try.pinned (OpenSpec.ofChange journalScansWrong)

/-- 'lanyardlaw16.JournalBounds': WHATEVER THE INPUT: true; the input reads as it did. -/
def journalBoundsSpec : ChangeSpec := { name := "journalBounds", fn := fun _ => fun
  | [d1, d2] => { results := [.lit (.bool true)], args := [d1, d2] }
  | _ => none }
def journalBoundsRow : OpenClaim := { program := "ytiooigkcliomlaa", sum := "738b6ae0fb17f6ef27a595351f3467929f58864a51591b6732a2a4d269a6a962", func := "lanyard/lanyardlaw16.JournalBounds", spec := "journalBounds", unfollowed := true, recurses := true, apart := false }
def JournalBoundsSaid : Prop := journalBoundsRow.holds Try.pinned (OpenSpec.ofChange journalBoundsSpec)

/-- ITS FALSE NEIGHBOUR: 'it returns false'. Refute it at one input. -/
def journalBoundsWrong : ChangeSpec := { name := "journalBounds", fn := fun _ => fun
  | [d1, d2] => { results := [.lit (.bool false)], args := [d1, d2] }
  | _ => none }
def JournalBoundsWrongFalsely : Prop := journalBoundsRow.holds Try.pinned (OpenSpec.ofChange journalBoundsWrong)

/-- 'lanyardlaw16.JournalTwice': WHATEVER THE INPUT: true; the input reads as it did. -/
def journalTwiceSpec : ChangeSpec := { name := "journalTwice", fn := fun _ => fun
  | [d1, d2] => { results := [.lit (.bool true)], args := [d1, d2] }
  | _ => none }
def journalTwiceRow : OpenClaim := { program := "ytiooigkcliomlaa", sum := "738b6ae0fb17f6ef27a595351f3467929f58864a51591b6732a2a4d269a6a962", func := "lanyard/lanyardlaw16.JournalTwice", spec := "journalTwice", unfollowed := true, recurses := true, apart := false }
def JournalTwiceSaid : Prop := journalTwiceRow.holds Try.pinned (OpenSpec.ofChange journalTwiceSpec)

/-- ITS FALSE NEIGHBOUR: 'it returns false'. Refute it at one input. -/
def journalTwiceWrong : ChangeSpec := { name := "journalTwice", fn := fun _ => fun
  | [d1, d2] => { results := [.lit (.bool false)], args := [d1, d2] }
  | _ => none }
def JournalTwiceWrongFalsely : Prop := journalTwiceRow.holds Try.pinned (OpenSpec.ofChange journalTwiceWrong)

/-- 'lanyardlaw16.JournalActs': WHATEVER THE INPUT: true; the input reads as it did. -/
def journalActsSpec : ChangeSpec := { name := "journalActs", fn := fun _ => fun
  | [d1, d2] => { results := [.lit (.bool true)], args := [d1, d2] }
  | _ => none }
def journalActsRow : OpenClaim := { program := "ytiooigkcliomlaa", sum := "738b6ae0fb17f6ef27a595351f3467929f58864a51591b6732a2a4d269a6a962", func := "lanyard/lanyardlaw16.JournalActs", spec := "journalActs", unfollowed := true, recurses := true, apart := false }
def JournalActsSaid : Prop := journalActsRow.holds Try.pinned (OpenSpec.ofChange journalActsSpec)

/-- ITS FALSE NEIGHBOUR: 'it returns false'. Refute it at one input. -/
def journalActsWrong : ChangeSpec := { name := "journalActs", fn := fun _ => fun
  | [d1, d2] => { results := [.lit (.bool false)], args := [d1, d2] }
  | _ => none }
def JournalActsWrongFalsely : Prop := journalActsRow.holds Try.pinned (OpenSpec.ofChange journalActsWrong)

/- THE SECOND FORM. 'bulk': how many values and letters a reading holds, each counted each time it is reached (what is shared counts as often as it is met; a slice's spare places count too). A statement '..UptoSaid' is the law's where the arguments, and the package variables that the reading takes, are together of bulk at most 1048576: NARROWER than '..Said'. Prove '..Said' where nothing that the law and all that it calls make is longer than what came in: it says more and counts as full. Else prove '..UptoSaid'. A law counts once. -/
mutual
def uptoBulk {H : Type} : DataW H → Nat
  | .lit (.string bytes) => bytes.length + 1
  | .lit _ => 1
  | .nil => 1
  | .ptr d => uptoBulk d + 1
  | .slice elems spare => uptoBulkAll elems + uptoBulkAll spare + 1
  | .agg parts => uptoBulkAll parts + 1
  | .iface _ d => uptoBulk d + 1
  | .map entries => uptoBulkEntries entries + 1
  | .held _ => 1
def uptoBulkAll {H : Type} : List (DataW H) → Nat
  | [] => 0
  | d :: r => uptoBulk d + uptoBulkAll r
def uptoBulkEntries {H : Type} : List (Lit × DataW H) → Nat
  | [] => 0
  | x :: r => uptoBulkEntry x + uptoBulkEntries r
def uptoBulkEntry {H : Type} : Lit × DataW H → Nat
  | (.string bytes, d) => bytes.length + uptoBulk d + 1
  | (_, d) => uptoBulk d + 1
 end
def uptoSmall : (H : Type) → List (DataW H) → Bool := fun _ ds => decide (uptoBulkAll ds ≤ 1048576)
def OpenSpec.upto (s : _root_.Go.ChangeSpec) : _root_.Go.OpenSpec := { _root_.Go.OpenSpec.ofChange s with cond := some uptoSmall }

/-- 'lanyardlaw16.JournalTorn', WHERE WHAT IT READS IS OF BULK AT MOST 1048576: true; the input reads as it did. -/
def journalTornUptoRow : OpenClaim := { program := "ytiooigkcliomlaa", sum := "738b6ae0fb17f6ef27a595351f3467929f58864a51591b6732a2a4d269a6a962", func := "lanyard/lanyardlaw16.JournalTorn", spec := "journalTorn", unfollowed := true, recurses := true, apart := false, narrowed := true }
def JournalTornUptoSaid : Prop := journalTornUptoRow.holds Try.pinned (OpenSpec.upto journalTornSpec)

/-- 'lanyardlaw16.JournalScans', WHERE WHAT IT READS IS OF BULK AT MOST 1048576: true; the input reads as it did. -/
def journalScansUptoRow : OpenClaim := { program := "ytiooigkcliomlaa", sum := "738b6ae0fb17f6ef27a595351f3467929f58864a51591b6732a2a4d269a6a962", func := "lanyard/lanyardlaw16.JournalScans", spec := "journalScans", unfollowed := true, recurses := true, apart := false, narrowed := true }
def JournalScansUptoSaid : Prop := journalScansUptoRow.holds Try.pinned (OpenSpec.upto journalScansSpec)

/-- 'lanyardlaw16.JournalBounds', WHERE WHAT IT READS IS OF BULK AT MOST 1048576: true; the input reads as it did. -/
def journalBoundsUptoRow : OpenClaim := { program := "ytiooigkcliomlaa", sum := "738b6ae0fb17f6ef27a595351f3467929f58864a51591b6732a2a4d269a6a962", func := "lanyard/lanyardlaw16.JournalBounds", spec := "journalBounds", unfollowed := true, recurses := true, apart := false, narrowed := true }
def JournalBoundsUptoSaid : Prop := journalBoundsUptoRow.holds Try.pinned (OpenSpec.upto journalBoundsSpec)

/-- 'lanyardlaw16.JournalTwice', WHERE WHAT IT READS IS OF BULK AT MOST 1048576: true; the input reads as it did. -/
def journalTwiceUptoRow : OpenClaim := { program := "ytiooigkcliomlaa", sum := "738b6ae0fb17f6ef27a595351f3467929f58864a51591b6732a2a4d269a6a962", func := "lanyard/lanyardlaw16.JournalTwice", spec := "journalTwice", unfollowed := true, recurses := true, apart := false, narrowed := true }
def JournalTwiceUptoSaid : Prop := journalTwiceUptoRow.holds Try.pinned (OpenSpec.upto journalTwiceSpec)

/-- 'lanyardlaw16.JournalActs', WHERE WHAT IT READS IS OF BULK AT MOST 1048576: true; the input reads as it did. -/
def journalActsUptoRow : OpenClaim := { program := "ytiooigkcliomlaa", sum := "738b6ae0fb17f6ef27a595351f3467929f58864a51591b6732a2a4d269a6a962", func := "lanyard/lanyardlaw16.JournalActs", spec := "journalActs", unfollowed := true, recurses := true, apart := false, narrowed := true }
def JournalActsUptoSaid : Prop := journalActsUptoRow.holds Try.pinned (OpenSpec.upto journalActsSpec)

end Rows
end Go.Proofs.Ytiooigkcliomlaa
