/-
  DERIVED: THE SHELF's CONTRACTS AT THIS DUMP, IN PLAIN WORDS (tools/lay-plain.mjs out of 'TryzJ.lean', which tools/lay-shelf.mjs wrote): THE SAME DECLARATIONS UNDER THE SAME NAMES: 'import', 'namespace', 'open', 'def', 'theorem' AND NOTHING ELSE: no command of the shelf's: FOR A HAND-IN. Each laying: the table of numbers ('.._ren') and one theorem, a field a fact of the dump's own or the kernel's comparison; each contract: ONE APPLICATION.
-/
import Derived.Shelf.Lays7
import Derived.Shelf.Spec.DecodeRune
import Derived.Test.YtohgmkjhbacmpaaGreatDoorProg
namespace Go.Proofs
open Go.Shelf
def Tryz.AA : Go.Shelf.Ren := ⟨fun | 32 => 25 | 49 => 36 | n => n, fun | 30 => 22 | 21 => 21 | 3 => 3 | 0 => 0 | 5 => 5 | 4 => 4 | 33 => 66 | 66 => 89 | 25 => 90 | 69 => 93 | 68 => 92 | n => n, fun | 2 => 0 | 3 => 1 | n => n⟩
theorem Tryz.IY : Go.Proofs.Lays7.n32 Tryz.prog Tryz.AA := {
  mixed := by kernel_rfl
  f32 := Tryz.func25.trans (congrArg some (by kernel_rfl))
  f49 := Tryz.func36.trans (congrArg some (by kernel_rfl))
  t0 := Tryz.underlying0
  a0 := Tryz.isAgg0
  z0 := Tryz.sizeOf0
  v0 := Tryz.zeroValue0
  i0 := by kernel_rfl
  t3 := Tryz.underlying3
  a3 := Tryz.isAgg3
  z3 := Tryz.sizeOf3
  v3 := Tryz.zeroValue3
  i3 := by kernel_rfl
  t4 := Tryz.underlying4
  a4 := Tryz.isAgg4
  z4 := Tryz.sizeOf4
  v4 := Tryz.zeroValue4
  i4 := by kernel_rfl
  t5 := Tryz.underlying5
  a5 := Tryz.isAgg5
  z5 := Tryz.sizeOf5
  v5 := Tryz.zeroValue5
  i5 := by kernel_rfl
  t21 := Tryz.underlying21
  a21 := Tryz.isAgg21
  z21 := Tryz.sizeOf21
  v21 := Tryz.zeroValue21
  i21 := by kernel_rfl
  t25 := Tryz.underlying90
  a25 := Tryz.isAgg90
  z25 := Tryz.sizeOf90
  v25 := Tryz.zeroValue90
  i25 := by kernel_rfl
  t30 := Tryz.underlying22
  a30 := Tryz.isAgg22
  z30 := Tryz.sizeOf22
  v30 := Tryz.zeroValue22
  i30 := by kernel_rfl
  t33 := Tryz.underlying66
  a33 := Tryz.isAgg66
  z33 := Tryz.sizeOf66
  v33 := Tryz.zeroValue66
  i33 := by kernel_rfl
  t66 := Tryz.underlying89
  a66 := Tryz.isAgg89
  z66 := Tryz.sizeOf89
  t68 := Tryz.underlying92
  a68 := Tryz.isAgg92
  z68 := Tryz.sizeOf92
  v68 := Tryz.zeroValue92
  i68 := by kernel_rfl
  t69 := Tryz.underlying93
  a69 := Tryz.isAgg93
  z69 := Tryz.sizeOf93
  v69 := Tryz.zeroValue93
  i69 := by kernel_rfl
  g2 := by kernel_rfl
  g3 := by kernel_rfl }
end Go.Proofs
