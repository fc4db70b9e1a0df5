/-
  DERIVED: THE SHELF's CONTRACTS AT THIS DUMP, IN PLAIN WORDS (tools/lay-plain.mjs out of 'TryzJ.lean', which tools/lay-shelf.mjs wrote): THE SAME DECLARATIONS UNDER THE SAME NAMES: 'import', 'namespace', 'open', 'def', 'theorem' AND NOTHING ELSE: no command of the shelf's: FOR A HAND-IN. Each laying: the table of numbers ('.._ren') and one theorem, a field a fact of the dump's own or the kernel's comparison; each contract: ONE APPLICATION.
-/
import Derived.Test.YtigjbehgfjjlkaaGreatDoorProg
import Derived.Shelf.Lays7
import Derived.Shelf.Spec.DecodeRune
namespace Go.Proofs
open Go.Shelf
def Tryz.Dc : Go.Shelf.Ren := ⟨fun | 32 => 52 | 49 => 68 | n => n, fun | 30 => 31 | 21 => 21 | 3 => 3 | 0 => 0 | 5 => 5 | 4 => 4 | 33 => 89 | 66 => 117 | 25 => 118 | 69 => 121 | 68 => 120 | n => n, fun | 2 => 0 | 3 => 1 | n => n⟩
theorem Tryz.Lc : Go.Proofs.Lays7.n32 Tryz.prog Tryz.Dc := {
  mixed := by kernel_rfl
  f32 := Tryz.func52.trans (congrArg some (by kernel_rfl))
  f49 := Tryz.func68.trans (congrArg some (by kernel_rfl))
  t0 := Tryz.underlying0
  a0 := Tryz.isAgg0
  z0 := Tryz.sizeOf0
  v0 := Tryz.zeroValue0
  i0 := by kernel_rfl
  t3 := Tryz.underlying3
  a3 := Tryz.isAgg3
  z3 := Tryz.sizeOf3
  v3 := Tryz.zeroValue3
  i3 := by kernel_rfl
  t4 := Tryz.underlying4
  a4 := Tryz.isAgg4
  z4 := Tryz.sizeOf4
  v4 := Tryz.zeroValue4
  i4 := by kernel_rfl
  t5 := Tryz.underlying5
  a5 := Tryz.isAgg5
  z5 := Tryz.sizeOf5
  v5 := Tryz.zeroValue5
  i5 := by kernel_rfl
  t21 := Tryz.underlying21
  a21 := Tryz.isAgg21
  z21 := Tryz.sizeOf21
  v21 := Tryz.zeroValue21
  i21 := by kernel_rfl
  t25 := Tryz.underlying118
  a25 := Tryz.isAgg118
  z25 := Tryz.sizeOf118
  v25 := Tryz.zeroValue118
  i25 := by kernel_rfl
  t30 := Tryz.underlying31
  a30 := Tryz.isAgg31
  z30 := Tryz.sizeOf31
  v30 := Tryz.zeroValue31
  i30 := by kernel_rfl
  t33 := Tryz.underlying89
  a33 := Tryz.isAgg89
  z33 := Tryz.sizeOf89
  v33 := Tryz.zeroValue89
  i33 := by kernel_rfl
  t66 := Tryz.underlying117
  a66 := Tryz.isAgg117
  z66 := Tryz.sizeOf117
  t68 := Tryz.underlying120
  a68 := Tryz.isAgg120
  z68 := Tryz.sizeOf120
  v68 := Tryz.zeroValue120
  i68 := by kernel_rfl
  t69 := Tryz.underlying121
  a69 := Tryz.isAgg121
  z69 := Tryz.sizeOf121
  v69 := Tryz.zeroValue121
  i69 := by kernel_rfl
  g2 := by kernel_rfl
  g3 := by kernel_rfl }
end Go.Proofs
