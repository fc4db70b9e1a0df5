/- What the types are: closed facts, by a program. -/
import Derived.Test.YthohmdkibkompaaDoorAbsU
import Derived.Test.YthohmdkibkompaaDoorRows
import Derived.KernelRfl
namespace Go.Proofs.YthohmdkibkompaaDoor
open Go.Abs
theorem asz1 : asz Tryd.prog 1 = some 1 := by kernel_rfl
theorem aby1 : abytes Tryd.prog 1 = some 8 := by kernel_rfl
theorem azc1 : azc Tryd.prog 1 = some ([.nilFunc]) := by kernel_rfl
theorem cof1 : Tryd.prog.cellsOf 1 = 1 := by kernel_rfl
theorem asz2 : asz Tryd.prog 2 = some 1 := by kernel_rfl
theorem aby2 : abytes Tryd.prog 2 = some 8 := by kernel_rfl
theorem azc2 : azc Tryd.prog 2 = some ([.int .i64 0]) := by kernel_rfl
theorem cof2 : Tryd.prog.cellsOf 2 = 1 := by kernel_rfl
theorem asz3 : asz Tryd.prog 3 = some 1 := by kernel_rfl
theorem aby3 : abytes Tryd.prog 3 = some 8 := by kernel_rfl
theorem azc3 : azc Tryd.prog 3 = some ([.int .i64 0]) := by kernel_rfl
theorem cof3 : Tryd.prog.cellsOf 3 = 1 := by kernel_rfl
theorem asz4 : asz Tryd.prog 4 = some 1 := by kernel_rfl
theorem aby4 : abytes Tryd.prog 4 = some 1 := by kernel_rfl
theorem azc4 : azc Tryd.prog 4 = some ([.bool false]) := by kernel_rfl
theorem cof4 : Tryd.prog.cellsOf 4 = 1 := by kernel_rfl
theorem asz5 : asz Tryd.prog 5 = some 1 := by kernel_rfl
theorem aby5 : abytes Tryd.prog 5 = some 1 := by kernel_rfl
theorem azc5 : azc Tryd.prog 5 = some ([.int .u8 0]) := by kernel_rfl
theorem cof5 : Tryd.prog.cellsOf 5 = 1 := by kernel_rfl
theorem asz6 : asz Tryd.prog 6 = some 1 := by kernel_rfl
theorem aby6 : abytes Tryd.prog 6 = some 1 := by kernel_rfl
theorem azc6 : azc Tryd.prog 6 = some ([.int .u8 0]) := by kernel_rfl
theorem cof6 : Tryd.prog.cellsOf 6 = 1 := by kernel_rfl
theorem asz7 : asz Tryd.prog 7 = some 4 := by kernel_rfl
theorem aby7 : abytes Tryd.prog 7 = some 24 := by kernel_rfl
theorem azc7 : azc Tryd.prog 7 = some ([.int .i64 0, .int .i64 0, .bool false, .int .u8 0]) := by kernel_rfl
theorem cof7 : Tryd.prog.cellsOf 7 = 4 := by kernel_rfl
theorem afo7_0 : afo Tryd.prog 7 0 = some 0 := by kernel_rfl
theorem afo7_1 : afo Tryd.prog 7 1 = some 1 := by kernel_rfl
theorem afo7_2 : afo Tryd.prog 7 2 = some 2 := by kernel_rfl
theorem afo7_3 : afo Tryd.prog 7 3 = some 3 := by kernel_rfl
theorem apl7 : aplaces Tryd.prog 7 = some [(0, 1), (1, 1), (2, 1), (3, 1)] := by kernel_rfl
theorem asz8 : asz Tryd.prog 8 = some 4 := by kernel_rfl
theorem aby8 : abytes Tryd.prog 8 = some 24 := by kernel_rfl
theorem azc8 : azc Tryd.prog 8 = some ([.int .i64 0, .int .i64 0, .bool false, .int .u8 0]) := by kernel_rfl
theorem cof8 : Tryd.prog.cellsOf 8 = 4 := by kernel_rfl
theorem afo8_0 : afo Tryd.prog 8 0 = some 0 := by kernel_rfl
theorem afo8_1 : afo Tryd.prog 8 1 = some 1 := by kernel_rfl
theorem afo8_2 : afo Tryd.prog 8 2 = some 2 := by kernel_rfl
theorem afo8_3 : afo Tryd.prog 8 3 = some 3 := by kernel_rfl
theorem apl8 : aplaces Tryd.prog 8 = some [(0, 1), (1, 1), (2, 1), (3, 1)] := by kernel_rfl
theorem asz9 : asz Tryd.prog 9 = some 1 := by kernel_rfl
theorem aby9 : abytes Tryd.prog 9 = some 16 := by kernel_rfl
theorem azc9 : azc Tryd.prog 9 = some ([.string ⟨#[]⟩]) := by kernel_rfl
theorem cof9 : Tryd.prog.cellsOf 9 = 1 := by kernel_rfl
theorem asz10 : asz Tryd.prog 10 = some 1 := by kernel_rfl
theorem aby10 : abytes Tryd.prog 10 = some 16 := by kernel_rfl
theorem azc10 : azc Tryd.prog 10 = some ([.string ⟨#[]⟩]) := by kernel_rfl
theorem cof10 : Tryd.prog.cellsOf 10 = 1 := by kernel_rfl
theorem asz11 : asz Tryd.prog 11 = some 1 := by kernel_rfl
theorem aby11 : abytes Tryd.prog 11 = some 16 := by kernel_rfl
theorem azc11 : azc Tryd.prog 11 = some ([.string ⟨#[]⟩]) := by kernel_rfl
theorem cof11 : Tryd.prog.cellsOf 11 = 1 := by kernel_rfl
theorem asz12 : asz Tryd.prog 12 = some 1 := by kernel_rfl
theorem aby12 : abytes Tryd.prog 12 = some 8 := by kernel_rfl
theorem azc12 : azc Tryd.prog 12 = some ([.int .u64 0]) := by kernel_rfl
theorem cof12 : Tryd.prog.cellsOf 12 = 1 := by kernel_rfl
theorem asz13 : asz Tryd.prog 13 = some 2 := by kernel_rfl
theorem aby13 : abytes Tryd.prog 13 = some 24 := by kernel_rfl
theorem azc13 : azc Tryd.prog 13 = some ([.string ⟨#[]⟩, .int .u64 0]) := by kernel_rfl
theorem cof13 : Tryd.prog.cellsOf 13 = 2 := by kernel_rfl
theorem afo13_0 : afo Tryd.prog 13 0 = some 0 := by kernel_rfl
theorem afo13_1 : afo Tryd.prog 13 1 = some 1 := by kernel_rfl
theorem apl13 : aplaces Tryd.prog 13 = some [(0, 1), (1, 1)] := by kernel_rfl
theorem asz14 : asz Tryd.prog 14 = some 2 := by kernel_rfl
theorem aby14 : abytes Tryd.prog 14 = some 24 := by kernel_rfl
theorem azc14 : azc Tryd.prog 14 = some ([.string ⟨#[]⟩, .int .u64 0]) := by kernel_rfl
theorem cof14 : Tryd.prog.cellsOf 14 = 2 := by kernel_rfl
theorem afo14_0 : afo Tryd.prog 14 0 = some 0 := by kernel_rfl
theorem afo14_1 : afo Tryd.prog 14 1 = some 1 := by kernel_rfl
theorem apl14 : aplaces Tryd.prog 14 = some [(0, 1), (1, 1)] := by kernel_rfl
theorem asz15 : asz Tryd.prog 15 = some 1 := by kernel_rfl
theorem aby15 : abytes Tryd.prog 15 = some 8 := by kernel_rfl
theorem azc15 : azc Tryd.prog 15 = some ([.pointer none]) := by kernel_rfl
theorem cof15 : Tryd.prog.cellsOf 15 = 1 := by kernel_rfl
theorem asz16 : asz Tryd.prog 16 = some 1 := by kernel_rfl
theorem aby16 : abytes Tryd.prog 16 = some 8 := by kernel_rfl
theorem azc16 : azc Tryd.prog 16 = some ([.pointer none]) := by kernel_rfl
theorem cof16 : Tryd.prog.cellsOf 16 = 1 := by kernel_rfl
theorem asz17 : asz Tryd.prog 17 = some 1 := by kernel_rfl
theorem aby17 : abytes Tryd.prog 17 = some 8 := by kernel_rfl
theorem azc17 : azc Tryd.prog 17 = some ([.pointer none]) := by kernel_rfl
theorem cof17 : Tryd.prog.cellsOf 17 = 1 := by kernel_rfl
theorem asz18 : asz Tryd.prog 18 = some 1 := by kernel_rfl
theorem aby18 : abytes Tryd.prog 18 = some 8 := by kernel_rfl
theorem azc18 : azc Tryd.prog 18 = some ([.pointer none]) := by kernel_rfl
theorem cof18 : Tryd.prog.cellsOf 18 = 1 := by kernel_rfl
theorem afo18_0 : afo Tryd.prog 18 0 = some 0 := by kernel_rfl
theorem apl18 : aplaces Tryd.prog 18 = some [(0, 1)] := by kernel_rfl
theorem asz19 : asz Tryd.prog 19 = some 1 := by kernel_rfl
theorem aby19 : abytes Tryd.prog 19 = some 8 := by kernel_rfl
theorem azc19 : azc Tryd.prog 19 = some ([.pointer none]) := by kernel_rfl
theorem cof19 : Tryd.prog.cellsOf 19 = 1 := by kernel_rfl
theorem afo19_0 : afo Tryd.prog 19 0 = some 0 := by kernel_rfl
theorem apl19 : aplaces Tryd.prog 19 = some [(0, 1)] := by kernel_rfl
theorem asz20 : asz Tryd.prog 20 = some 1 := by kernel_rfl
theorem aby20 : abytes Tryd.prog 20 = some 16 := by kernel_rfl
theorem azc20 : azc Tryd.prog 20 = some ([.nilIface]) := by kernel_rfl
theorem cof20 : Tryd.prog.cellsOf 20 = 1 := by kernel_rfl
theorem asz21 : asz Tryd.prog 21 = some 1 := by kernel_rfl
theorem aby21 : abytes Tryd.prog 21 = some 4 := by kernel_rfl
theorem azc21 : azc Tryd.prog 21 = some ([.int .i32 0]) := by kernel_rfl
theorem cof21 : Tryd.prog.cellsOf 21 = 1 := by kernel_rfl
theorem asz22 : asz Tryd.prog 22 = some 4 := by kernel_rfl
theorem aby22 : abytes Tryd.prog 22 = some 32 := by kernel_rfl
theorem azc22 : azc Tryd.prog 22 = some ([.int .i64 0, .int .i64 0, .int .i64 0, .int .i64 0]) := by kernel_rfl
theorem cof22 : Tryd.prog.cellsOf 22 = 4 := by kernel_rfl
theorem afo22_0 : afo Tryd.prog 22 0 = some 0 := by kernel_rfl
theorem afo22_1 : afo Tryd.prog 22 1 = some 1 := by kernel_rfl
theorem afo22_2 : afo Tryd.prog 22 2 = some 2 := by kernel_rfl
theorem afo22_3 : afo Tryd.prog 22 3 = some 3 := by kernel_rfl
theorem apl22 : aplaces Tryd.prog 22 = some [(0, 1), (1, 1), (2, 1), (3, 1)] := by kernel_rfl
theorem asz23 : asz Tryd.prog 23 = some 4 := by kernel_rfl
theorem aby23 : abytes Tryd.prog 23 = some 32 := by kernel_rfl
theorem azc23 : azc Tryd.prog 23 = some ([.int .i64 0, .int .i64 0, .int .i64 0, .int .i64 0]) := by kernel_rfl
theorem cof23 : Tryd.prog.cellsOf 23 = 4 := by kernel_rfl
theorem afo23_0 : afo Tryd.prog 23 0 = some 0 := by kernel_rfl
theorem afo23_1 : afo Tryd.prog 23 1 = some 1 := by kernel_rfl
theorem afo23_2 : afo Tryd.prog 23 2 = some 2 := by kernel_rfl
theorem afo23_3 : afo Tryd.prog 23 3 = some 3 := by kernel_rfl
theorem apl23 : aplaces Tryd.prog 23 = some [(0, 1), (1, 1), (2, 1), (3, 1)] := by kernel_rfl
theorem asz24 : asz Tryd.prog 24 = some 1 := by kernel_rfl
theorem aby24 : abytes Tryd.prog 24 = some 24 := by kernel_rfl
theorem azc24 : azc Tryd.prog 24 = some ([.slice none 0 0]) := by kernel_rfl
theorem cof24 : Tryd.prog.cellsOf 24 = 1 := by kernel_rfl
theorem asz25 : asz Tryd.prog 25 = some 1 := by kernel_rfl
theorem aby25 : abytes Tryd.prog 25 = some 8 := by kernel_rfl
theorem azc25 : azc Tryd.prog 25 = some ([.nilFunc]) := by kernel_rfl
theorem cof25 : Tryd.prog.cellsOf 25 = 1 := by kernel_rfl
theorem asz26 : asz Tryd.prog 26 = some 1 := by kernel_rfl
theorem aby26 : abytes Tryd.prog 26 = some 8 := by kernel_rfl
theorem azc26 : azc Tryd.prog 26 = some ([.nilFunc]) := by kernel_rfl
theorem cof26 : Tryd.prog.cellsOf 26 = 1 := by kernel_rfl
theorem asz27 : asz Tryd.prog 27 = some 1 := by kernel_rfl
theorem aby27 : abytes Tryd.prog 27 = some 8 := by kernel_rfl
theorem azc27 : azc Tryd.prog 27 = some ([.pointer none]) := by kernel_rfl
theorem cof27 : Tryd.prog.cellsOf 27 = 1 := by kernel_rfl
theorem asz28 : asz Tryd.prog 28 = some 1 := by kernel_rfl
theorem aby28 : abytes Tryd.prog 28 = some 8 := by kernel_rfl
theorem azc28 : azc Tryd.prog 28 = some ([.int .i64 0]) := by kernel_rfl
theorem cof28 : Tryd.prog.cellsOf 28 = 1 := by kernel_rfl
theorem asz30 : asz Tryd.prog 30 = some 1 := by kernel_rfl
theorem aby30 : abytes Tryd.prog 30 = some 8 := by kernel_rfl
theorem azc30 : azc Tryd.prog 30 = some ([.nilFunc]) := by kernel_rfl
theorem cof30 : Tryd.prog.cellsOf 30 = 1 := by kernel_rfl
theorem asz31 : asz Tryd.prog 31 = some 1 := by kernel_rfl
theorem aby31 : abytes Tryd.prog 31 = some 24 := by kernel_rfl
theorem azc31 : azc Tryd.prog 31 = some ([.slice none 0 0]) := by kernel_rfl
theorem cof31 : Tryd.prog.cellsOf 31 = 1 := by kernel_rfl
theorem asz33 : asz Tryd.prog 33 = some 1 := by kernel_rfl
theorem aby33 : abytes Tryd.prog 33 = some 8 := by kernel_rfl
theorem azc33 : azc Tryd.prog 33 = some ([.nilFunc]) := by kernel_rfl
theorem cof33 : Tryd.prog.cellsOf 33 = 1 := by kernel_rfl
theorem asz34 : asz Tryd.prog 34 = some 1 := by kernel_rfl
theorem aby34 : abytes Tryd.prog 34 = some 8 := by kernel_rfl
theorem azc34 : azc Tryd.prog 34 = some ([.nilFunc]) := by kernel_rfl
theorem cof34 : Tryd.prog.cellsOf 34 = 1 := by kernel_rfl
theorem asz35 : asz Tryd.prog 35 = some 7 := by kernel_rfl
theorem aby35 : abytes Tryd.prog 35 = some 88 := by kernel_rfl
theorem azc35 : azc Tryd.prog 35 = some ([.int .i64 0, .string ⟨#[]⟩, .string ⟨#[]⟩, .string ⟨#[]⟩, .string ⟨#[]⟩, .int .i64 0, .int .i64 0]) := by kernel_rfl
theorem cof35 : Tryd.prog.cellsOf 35 = 7 := by kernel_rfl
theorem afo35_0 : afo Tryd.prog 35 0 = some 0 := by kernel_rfl
theorem afo35_1 : afo Tryd.prog 35 1 = some 1 := by kernel_rfl
theorem afo35_2 : afo Tryd.prog 35 2 = some 2 := by kernel_rfl
theorem afo35_3 : afo Tryd.prog 35 3 = some 3 := by kernel_rfl
theorem afo35_4 : afo Tryd.prog 35 4 = some 4 := by kernel_rfl
theorem afo35_5 : afo Tryd.prog 35 5 = some 5 := by kernel_rfl
theorem afo35_6 : afo Tryd.prog 35 6 = some 6 := by kernel_rfl
theorem apl35 : aplaces Tryd.prog 35 = some [(0, 1), (1, 1), (2, 1), (3, 1), (4, 1), (5, 1), (6, 1)] := by kernel_rfl
theorem asz36 : asz Tryd.prog 36 = some 7 := by kernel_rfl
theorem aby36 : abytes Tryd.prog 36 = some 88 := by kernel_rfl
theorem azc36 : azc Tryd.prog 36 = some ([.int .i64 0, .string ⟨#[]⟩, .string ⟨#[]⟩, .string ⟨#[]⟩, .string ⟨#[]⟩, .int .i64 0, .int .i64 0]) := by kernel_rfl
theorem cof36 : Tryd.prog.cellsOf 36 = 7 := by kernel_rfl
theorem afo36_0 : afo Tryd.prog 36 0 = some 0 := by kernel_rfl
theorem afo36_1 : afo Tryd.prog 36 1 = some 1 := by kernel_rfl
theorem afo36_2 : afo Tryd.prog 36 2 = some 2 := by kernel_rfl
theorem afo36_3 : afo Tryd.prog 36 3 = some 3 := by kernel_rfl
theorem afo36_4 : afo Tryd.prog 36 4 = some 4 := by kernel_rfl
theorem afo36_5 : afo Tryd.prog 36 5 = some 5 := by kernel_rfl
theorem afo36_6 : afo Tryd.prog 36 6 = some 6 := by kernel_rfl
theorem apl36 : aplaces Tryd.prog 36 = some [(0, 1), (1, 1), (2, 1), (3, 1), (4, 1), (5, 1), (6, 1)] := by kernel_rfl
theorem asz37 : asz Tryd.prog 37 = some 1 := by kernel_rfl
theorem aby37 : abytes Tryd.prog 37 = some 8 := by kernel_rfl
theorem azc37 : azc Tryd.prog 37 = some ([.nilFunc]) := by kernel_rfl
theorem cof37 : Tryd.prog.cellsOf 37 = 1 := by kernel_rfl
theorem asz38 : asz Tryd.prog 38 = some 1 := by kernel_rfl
theorem aby38 : abytes Tryd.prog 38 = some 24 := by kernel_rfl
theorem azc38 : azc Tryd.prog 38 = some ([.slice none 0 0]) := by kernel_rfl
theorem cof38 : Tryd.prog.cellsOf 38 = 1 := by kernel_rfl
theorem asz39 : asz Tryd.prog 39 = some 1 := by kernel_rfl
theorem aby39 : abytes Tryd.prog 39 = some 24 := by kernel_rfl
theorem azc39 : azc Tryd.prog 39 = some ([.slice none 0 0]) := by kernel_rfl
theorem cof39 : Tryd.prog.cellsOf 39 = 1 := by kernel_rfl
theorem asz41 : asz Tryd.prog 41 = some 1 := by kernel_rfl
theorem aby41 : abytes Tryd.prog 41 = some 8 := by kernel_rfl
theorem azc41 : azc Tryd.prog 41 = some ([.nilFunc]) := by kernel_rfl
theorem cof41 : Tryd.prog.cellsOf 41 = 1 := by kernel_rfl
theorem asz42 : asz Tryd.prog 42 = some 1 := by kernel_rfl
theorem aby42 : abytes Tryd.prog 42 = some 8 := by kernel_rfl
theorem azc42 : azc Tryd.prog 42 = some ([.nilFunc]) := by kernel_rfl
theorem cof42 : Tryd.prog.cellsOf 42 = 1 := by kernel_rfl
theorem asz43 : asz Tryd.prog 43 = some 1 := by kernel_rfl
theorem aby43 : abytes Tryd.prog 43 = some 8 := by kernel_rfl
theorem azc43 : azc Tryd.prog 43 = some ([.nilFunc]) := by kernel_rfl
theorem cof43 : Tryd.prog.cellsOf 43 = 1 := by kernel_rfl
theorem asz44 : asz Tryd.prog 44 = some 1 := by kernel_rfl
theorem aby44 : abytes Tryd.prog 44 = some 8 := by kernel_rfl
theorem azc44 : azc Tryd.prog 44 = some ([.nilFunc]) := by kernel_rfl
theorem cof44 : Tryd.prog.cellsOf 44 = 1 := by kernel_rfl
theorem asz45 : asz Tryd.prog 45 = some 1 := by kernel_rfl
theorem aby45 : abytes Tryd.prog 45 = some 8 := by kernel_rfl
theorem azc45 : azc Tryd.prog 45 = some ([.nilFunc]) := by kernel_rfl
theorem cof45 : Tryd.prog.cellsOf 45 = 1 := by kernel_rfl
theorem asz46 : asz Tryd.prog 46 = some 11 := by kernel_rfl
theorem aby46 : abytes Tryd.prog 46 = some 128 := by kernel_rfl
theorem azc46 : azc Tryd.prog 46 = some ([.int .i64 0, .int .i64 0, .string ⟨#[]⟩, .bool false, .int .i64 0, .string ⟨#[]⟩, .string ⟨#[]⟩, .string ⟨#[]⟩, .string ⟨#[]⟩, .int .i64 0, .int .i64 0]) := by kernel_rfl
theorem cof46 : Tryd.prog.cellsOf 46 = 11 := by kernel_rfl
theorem afo46_0 : afo Tryd.prog 46 0 = some 0 := by kernel_rfl
theorem afo46_1 : afo Tryd.prog 46 1 = some 1 := by kernel_rfl
theorem afo46_2 : afo Tryd.prog 46 2 = some 2 := by kernel_rfl
theorem afo46_3 : afo Tryd.prog 46 3 = some 3 := by kernel_rfl
theorem afo46_4 : afo Tryd.prog 46 4 = some 4 := by kernel_rfl
theorem apl46 : aplaces Tryd.prog 46 = some [(0, 1), (1, 1), (2, 1), (3, 1), (4, 7)] := by kernel_rfl
theorem asz47 : asz Tryd.prog 47 = some 11 := by kernel_rfl
theorem aby47 : abytes Tryd.prog 47 = some 128 := by kernel_rfl
theorem azc47 : azc Tryd.prog 47 = some ([.int .i64 0, .int .i64 0, .string ⟨#[]⟩, .bool false, .int .i64 0, .string ⟨#[]⟩, .string ⟨#[]⟩, .string ⟨#[]⟩, .string ⟨#[]⟩, .int .i64 0, .int .i64 0]) := by kernel_rfl
theorem cof47 : Tryd.prog.cellsOf 47 = 11 := by kernel_rfl
theorem afo47_0 : afo Tryd.prog 47 0 = some 0 := by kernel_rfl
theorem afo47_1 : afo Tryd.prog 47 1 = some 1 := by kernel_rfl
theorem afo47_2 : afo Tryd.prog 47 2 = some 2 := by kernel_rfl
theorem afo47_3 : afo Tryd.prog 47 3 = some 3 := by kernel_rfl
theorem afo47_4 : afo Tryd.prog 47 4 = some 4 := by kernel_rfl
theorem apl47 : aplaces Tryd.prog 47 = some [(0, 1), (1, 1), (2, 1), (3, 1), (4, 7)] := by kernel_rfl
theorem asz48 : asz Tryd.prog 48 = some 1 := by kernel_rfl
theorem aby48 : abytes Tryd.prog 48 = some 8 := by kernel_rfl
theorem azc48 : azc Tryd.prog 48 = some ([.nilFunc]) := by kernel_rfl
theorem cof48 : Tryd.prog.cellsOf 48 = 1 := by kernel_rfl
theorem asz49 : asz Tryd.prog 49 = some 1 := by kernel_rfl
theorem aby49 : abytes Tryd.prog 49 = some 8 := by kernel_rfl
theorem azc49 : azc Tryd.prog 49 = some ([.nilFunc]) := by kernel_rfl
theorem cof49 : Tryd.prog.cellsOf 49 = 1 := by kernel_rfl
theorem asz50 : asz Tryd.prog 50 = some 1 := by kernel_rfl
theorem aby50 : abytes Tryd.prog 50 = some 8 := by kernel_rfl
theorem azc50 : azc Tryd.prog 50 = some ([.nilFunc]) := by kernel_rfl
theorem cof50 : Tryd.prog.cellsOf 50 = 1 := by kernel_rfl
theorem asz51 : asz Tryd.prog 51 = some 1 := by kernel_rfl
theorem aby51 : abytes Tryd.prog 51 = some 8 := by kernel_rfl
theorem azc51 : azc Tryd.prog 51 = some ([.nilFunc]) := by kernel_rfl
theorem cof51 : Tryd.prog.cellsOf 51 = 1 := by kernel_rfl
theorem asz52 : asz Tryd.prog 52 = some 1 := by kernel_rfl
theorem aby52 : abytes Tryd.prog 52 = some 8 := by kernel_rfl
theorem azc52 : azc Tryd.prog 52 = some ([.nilFunc]) := by kernel_rfl
theorem cof52 : Tryd.prog.cellsOf 52 = 1 := by kernel_rfl
theorem asz53 : asz Tryd.prog 53 = some 1 := by kernel_rfl
theorem aby53 : abytes Tryd.prog 53 = some 8 := by kernel_rfl
theorem azc53 : azc Tryd.prog 53 = some ([.map none]) := by kernel_rfl
theorem cof53 : Tryd.prog.cellsOf 53 = 1 := by kernel_rfl
theorem asz54 : asz Tryd.prog 54 = some 1 := by kernel_rfl
theorem aby54 : abytes Tryd.prog 54 = some 24 := by kernel_rfl
theorem azc54 : azc Tryd.prog 54 = some ([.slice none 0 0]) := by kernel_rfl
theorem cof54 : Tryd.prog.cellsOf 54 = 1 := by kernel_rfl
theorem asz55 : asz Tryd.prog 55 = some 8 := by kernel_rfl
theorem aby55 : abytes Tryd.prog 55 = some 96 := by kernel_rfl
theorem azc55 : azc Tryd.prog 55 = some ([.int .i64 0, .int .i64 0, .int .i64 0, .int .i64 0, .slice none 0 0, .int .i64 0, .map none, .slice none 0 0]) := by kernel_rfl
theorem cof55 : Tryd.prog.cellsOf 55 = 8 := by kernel_rfl
theorem afo55_0 : afo Tryd.prog 55 0 = some 0 := by kernel_rfl
theorem afo55_1 : afo Tryd.prog 55 1 = some 4 := by kernel_rfl
theorem afo55_2 : afo Tryd.prog 55 2 = some 5 := by kernel_rfl
theorem afo55_3 : afo Tryd.prog 55 3 = some 6 := by kernel_rfl
theorem afo55_4 : afo Tryd.prog 55 4 = some 7 := by kernel_rfl
theorem apl55 : aplaces Tryd.prog 55 = some [(0, 4), (4, 1), (5, 1), (6, 1), (7, 1)] := by kernel_rfl
theorem asz56 : asz Tryd.prog 56 = some 8 := by kernel_rfl
theorem aby56 : abytes Tryd.prog 56 = some 96 := by kernel_rfl
theorem azc56 : azc Tryd.prog 56 = some ([.int .i64 0, .int .i64 0, .int .i64 0, .int .i64 0, .slice none 0 0, .int .i64 0, .map none, .slice none 0 0]) := by kernel_rfl
theorem cof56 : Tryd.prog.cellsOf 56 = 8 := by kernel_rfl
theorem afo56_0 : afo Tryd.prog 56 0 = some 0 := by kernel_rfl
theorem afo56_1 : afo Tryd.prog 56 1 = some 4 := by kernel_rfl
theorem afo56_2 : afo Tryd.prog 56 2 = some 5 := by kernel_rfl
theorem afo56_3 : afo Tryd.prog 56 3 = some 6 := by kernel_rfl
theorem afo56_4 : afo Tryd.prog 56 4 = some 7 := by kernel_rfl
theorem apl56 : aplaces Tryd.prog 56 = some [(0, 4), (4, 1), (5, 1), (6, 1), (7, 1)] := by kernel_rfl
theorem asz57 : asz Tryd.prog 57 = some 2 := by kernel_rfl
theorem aby57 : abytes Tryd.prog 57 = some 16 := by kernel_rfl
theorem azc57 : azc Tryd.prog 57 = some ([.int .i64 0, .int .i64 0]) := by kernel_rfl
theorem cof57 : Tryd.prog.cellsOf 57 = 2 := by kernel_rfl
theorem afo57_0 : afo Tryd.prog 57 0 = some 0 := by kernel_rfl
theorem afo57_1 : afo Tryd.prog 57 1 = some 1 := by kernel_rfl
theorem apl57 : aplaces Tryd.prog 57 = some [(0, 1), (1, 1)] := by kernel_rfl
theorem asz58 : asz Tryd.prog 58 = some 2 := by kernel_rfl
theorem aby58 : abytes Tryd.prog 58 = some 16 := by kernel_rfl
theorem azc58 : azc Tryd.prog 58 = some ([.int .i64 0, .int .i64 0]) := by kernel_rfl
theorem cof58 : Tryd.prog.cellsOf 58 = 2 := by kernel_rfl
theorem afo58_0 : afo Tryd.prog 58 0 = some 0 := by kernel_rfl
theorem afo58_1 : afo Tryd.prog 58 1 = some 1 := by kernel_rfl
theorem apl58 : aplaces Tryd.prog 58 = some [(0, 1), (1, 1)] := by kernel_rfl
theorem asz59 : asz Tryd.prog 59 = some 1 := by kernel_rfl
theorem aby59 : abytes Tryd.prog 59 = some 8 := by kernel_rfl
theorem azc59 : azc Tryd.prog 59 = some ([.nilFunc]) := by kernel_rfl
theorem cof59 : Tryd.prog.cellsOf 59 = 1 := by kernel_rfl
theorem asz61 : asz Tryd.prog 61 = some 1 := by kernel_rfl
theorem aby61 : abytes Tryd.prog 61 = some 8 := by kernel_rfl
theorem azc61 : azc Tryd.prog 61 = some ([.nilFunc]) := by kernel_rfl
theorem cof61 : Tryd.prog.cellsOf 61 = 1 := by kernel_rfl
theorem asz62 : asz Tryd.prog 62 = some 1 := by kernel_rfl
theorem aby62 : abytes Tryd.prog 62 = some 8 := by kernel_rfl
theorem azc62 : azc Tryd.prog 62 = some ([.nilFunc]) := by kernel_rfl
theorem cof62 : Tryd.prog.cellsOf 62 = 1 := by kernel_rfl
theorem asz63 : asz Tryd.prog 63 = some 3 := by kernel_rfl
theorem aby63 : abytes Tryd.prog 63 = some 40 := by kernel_rfl
theorem azc63 : azc Tryd.prog 63 = some ([.string ⟨#[]⟩, .string ⟨#[]⟩, .int .i64 0]) := by kernel_rfl
theorem cof63 : Tryd.prog.cellsOf 63 = 3 := by kernel_rfl
theorem afo63_0 : afo Tryd.prog 63 0 = some 0 := by kernel_rfl
theorem afo63_1 : afo Tryd.prog 63 1 = some 1 := by kernel_rfl
theorem afo63_2 : afo Tryd.prog 63 2 = some 2 := by kernel_rfl
theorem apl63 : aplaces Tryd.prog 63 = some [(0, 1), (1, 1), (2, 1)] := by kernel_rfl
theorem asz64 : asz Tryd.prog 64 = some 3 := by kernel_rfl
theorem aby64 : abytes Tryd.prog 64 = some 40 := by kernel_rfl
theorem azc64 : azc Tryd.prog 64 = some ([.string ⟨#[]⟩, .string ⟨#[]⟩, .int .i64 0]) := by kernel_rfl
theorem cof64 : Tryd.prog.cellsOf 64 = 3 := by kernel_rfl
theorem afo64_0 : afo Tryd.prog 64 0 = some 0 := by kernel_rfl
theorem afo64_1 : afo Tryd.prog 64 1 = some 1 := by kernel_rfl
theorem afo64_2 : afo Tryd.prog 64 2 = some 2 := by kernel_rfl
theorem apl64 : aplaces Tryd.prog 64 = some [(0, 1), (1, 1), (2, 1)] := by kernel_rfl
theorem asz65 : asz Tryd.prog 65 = some 1 := by kernel_rfl
theorem aby65 : abytes Tryd.prog 65 = some 8 := by kernel_rfl
theorem azc65 : azc Tryd.prog 65 = some ([.nilFunc]) := by kernel_rfl
theorem cof65 : Tryd.prog.cellsOf 65 = 1 := by kernel_rfl
theorem asz66 : asz Tryd.prog 66 = some 1 := by kernel_rfl
theorem aby66 : abytes Tryd.prog 66 = some 8 := by kernel_rfl
theorem azc66 : azc Tryd.prog 66 = some ([.nilFunc]) := by kernel_rfl
theorem cof66 : Tryd.prog.cellsOf 66 = 1 := by kernel_rfl
theorem asz67 : asz Tryd.prog 67 = some 1 := by kernel_rfl
theorem aby67 : abytes Tryd.prog 67 = some 8 := by kernel_rfl
theorem azc67 : azc Tryd.prog 67 = some ([.nilFunc]) := by kernel_rfl
theorem cof67 : Tryd.prog.cellsOf 67 = 1 := by kernel_rfl
theorem asz68 : asz Tryd.prog 68 = some 1 := by kernel_rfl
theorem aby68 : abytes Tryd.prog 68 = some 8 := by kernel_rfl
theorem azc68 : azc Tryd.prog 68 = some ([.nilFunc]) := by kernel_rfl
theorem cof68 : Tryd.prog.cellsOf 68 = 1 := by kernel_rfl
theorem asz69 : asz Tryd.prog 69 = some 1 := by kernel_rfl
theorem aby69 : abytes Tryd.prog 69 = some 8 := by kernel_rfl
theorem azc69 : azc Tryd.prog 69 = some ([.nilFunc]) := by kernel_rfl
theorem cof69 : Tryd.prog.cellsOf 69 = 1 := by kernel_rfl
theorem asz70 : asz Tryd.prog 70 = some 1 := by kernel_rfl
theorem aby70 : abytes Tryd.prog 70 = some 8 := by kernel_rfl
theorem azc70 : azc Tryd.prog 70 = some ([.nilFunc]) := by kernel_rfl
theorem cof70 : Tryd.prog.cellsOf 70 = 1 := by kernel_rfl
theorem asz71 : asz Tryd.prog 71 = some 1 := by kernel_rfl
theorem aby71 : abytes Tryd.prog 71 = some 8 := by kernel_rfl
theorem azc71 : azc Tryd.prog 71 = some ([.nilFunc]) := by kernel_rfl
theorem cof71 : Tryd.prog.cellsOf 71 = 1 := by kernel_rfl
theorem asz72 : asz Tryd.prog 72 = some 1 := by kernel_rfl
theorem aby72 : abytes Tryd.prog 72 = some 8 := by kernel_rfl
theorem azc72 : azc Tryd.prog 72 = some ([.nilFunc]) := by kernel_rfl
theorem cof72 : Tryd.prog.cellsOf 72 = 1 := by kernel_rfl
theorem asz73 : asz Tryd.prog 73 = some 1 := by kernel_rfl
theorem aby73 : abytes Tryd.prog 73 = some 8 := by kernel_rfl
theorem azc73 : azc Tryd.prog 73 = some ([.nilFunc]) := by kernel_rfl
theorem cof73 : Tryd.prog.cellsOf 73 = 1 := by kernel_rfl
theorem asz74 : asz Tryd.prog 74 = some 3 := by kernel_rfl
theorem aby74 : abytes Tryd.prog 74 = some 24 := by kernel_rfl
theorem azc74 : azc Tryd.prog 74 = some ([.int .i64 0, .int .i64 0, .int .i64 0]) := by kernel_rfl
theorem cof74 : Tryd.prog.cellsOf 74 = 3 := by kernel_rfl
theorem asz76 : asz Tryd.prog 76 = some 1 := by kernel_rfl
theorem aby76 : abytes Tryd.prog 76 = some 8 := by kernel_rfl
theorem azc76 : azc Tryd.prog 76 = some ([.nilFunc]) := by kernel_rfl
theorem cof76 : Tryd.prog.cellsOf 76 = 1 := by kernel_rfl
theorem asz77 : asz Tryd.prog 77 = some 1 := by kernel_rfl
theorem aby77 : abytes Tryd.prog 77 = some 8 := by kernel_rfl
theorem azc77 : azc Tryd.prog 77 = some ([.nilFunc]) := by kernel_rfl
theorem cof77 : Tryd.prog.cellsOf 77 = 1 := by kernel_rfl
theorem asz78 : asz Tryd.prog 78 = some 1 := by kernel_rfl
theorem aby78 : abytes Tryd.prog 78 = some 8 := by kernel_rfl
theorem azc78 : azc Tryd.prog 78 = some ([.nilFunc]) := by kernel_rfl
theorem cof78 : Tryd.prog.cellsOf 78 = 1 := by kernel_rfl
theorem asz79 : asz Tryd.prog 79 = some 1 := by kernel_rfl
theorem aby79 : abytes Tryd.prog 79 = some 8 := by kernel_rfl
theorem azc79 : azc Tryd.prog 79 = some ([.nilFunc]) := by kernel_rfl
theorem cof79 : Tryd.prog.cellsOf 79 = 1 := by kernel_rfl
theorem asz80 : asz Tryd.prog 80 = some 1 := by kernel_rfl
theorem aby80 : abytes Tryd.prog 80 = some 8 := by kernel_rfl
theorem azc80 : azc Tryd.prog 80 = some ([.pointer none]) := by kernel_rfl
theorem cof80 : Tryd.prog.cellsOf 80 = 1 := by kernel_rfl
theorem asz81 : asz Tryd.prog 81 = some 2 := by kernel_rfl
theorem aby81 : abytes Tryd.prog 81 = some 32 := by kernel_rfl
theorem azc81 : azc Tryd.prog 81 = some ([.pointer none, .slice none 0 0]) := by kernel_rfl
theorem cof81 : Tryd.prog.cellsOf 81 = 2 := by kernel_rfl
theorem afo81_0 : afo Tryd.prog 81 0 = some 0 := by kernel_rfl
theorem afo81_1 : afo Tryd.prog 81 1 = some 1 := by kernel_rfl
theorem apl81 : aplaces Tryd.prog 81 = some [(0, 1), (1, 1)] := by kernel_rfl
theorem asz82 : asz Tryd.prog 82 = some 2 := by kernel_rfl
theorem aby82 : abytes Tryd.prog 82 = some 32 := by kernel_rfl
theorem azc82 : azc Tryd.prog 82 = some ([.pointer none, .slice none 0 0]) := by kernel_rfl
theorem cof82 : Tryd.prog.cellsOf 82 = 2 := by kernel_rfl
theorem afo82_0 : afo Tryd.prog 82 0 = some 0 := by kernel_rfl
theorem afo82_1 : afo Tryd.prog 82 1 = some 1 := by kernel_rfl
theorem apl82 : aplaces Tryd.prog 82 = some [(0, 1), (1, 1)] := by kernel_rfl
theorem asz83 : asz Tryd.prog 83 = some 1 := by kernel_rfl
theorem aby83 : abytes Tryd.prog 83 = some 16 := by kernel_rfl
theorem azc83 : azc Tryd.prog 83 = some ([.nilIface]) := by kernel_rfl
theorem cof83 : Tryd.prog.cellsOf 83 = 1 := by kernel_rfl
theorem asz85 : asz Tryd.prog 85 = some 1 := by kernel_rfl
theorem aby85 : abytes Tryd.prog 85 = some 8 := by kernel_rfl
theorem azc85 : azc Tryd.prog 85 = some ([.nilFunc]) := by kernel_rfl
theorem cof85 : Tryd.prog.cellsOf 85 = 1 := by kernel_rfl
theorem asz86 : asz Tryd.prog 86 = some 1 := by kernel_rfl
theorem aby86 : abytes Tryd.prog 86 = some 8 := by kernel_rfl
theorem azc86 : azc Tryd.prog 86 = some ([.int .u64 0]) := by kernel_rfl
theorem cof86 : Tryd.prog.cellsOf 86 = 1 := by kernel_rfl
theorem asz87 : asz Tryd.prog 87 = some 1 := by kernel_rfl
theorem aby87 : abytes Tryd.prog 87 = some 8 := by kernel_rfl
theorem azc87 : azc Tryd.prog 87 = some ([.nilFunc]) := by kernel_rfl
theorem cof87 : Tryd.prog.cellsOf 87 = 1 := by kernel_rfl
theorem asz88 : asz Tryd.prog 88 = some 1 := by kernel_rfl
theorem aby88 : abytes Tryd.prog 88 = some 24 := by kernel_rfl
theorem azc88 : azc Tryd.prog 88 = some ([.slice none 0 0]) := by kernel_rfl
theorem cof88 : Tryd.prog.cellsOf 88 = 1 := by kernel_rfl
theorem asz89 : asz Tryd.prog 89 = some 1 := by kernel_rfl
theorem aby89 : abytes Tryd.prog 89 = some 8 := by kernel_rfl
theorem azc89 : azc Tryd.prog 89 = some ([.nilFunc]) := by kernel_rfl
theorem cof89 : Tryd.prog.cellsOf 89 = 1 := by kernel_rfl
theorem asz90 : asz Tryd.prog 90 = some 1 := by kernel_rfl
theorem aby90 : abytes Tryd.prog 90 = some 8 := by kernel_rfl
theorem azc90 : azc Tryd.prog 90 = some ([.nilFunc]) := by kernel_rfl
theorem cof90 : Tryd.prog.cellsOf 90 = 1 := by kernel_rfl
theorem asz91 : asz Tryd.prog 91 = some 1 := by kernel_rfl
theorem aby91 : abytes Tryd.prog 91 = some 8 := by kernel_rfl
theorem azc91 : azc Tryd.prog 91 = some ([.nilFunc]) := by kernel_rfl
theorem cof91 : Tryd.prog.cellsOf 91 = 1 := by kernel_rfl
theorem asz92 : asz Tryd.prog 92 = some 1 := by kernel_rfl
theorem aby92 : abytes Tryd.prog 92 = some 8 := by kernel_rfl
theorem azc92 : azc Tryd.prog 92 = some ([.nilFunc]) := by kernel_rfl
theorem cof92 : Tryd.prog.cellsOf 92 = 1 := by kernel_rfl
theorem asz93 : asz Tryd.prog 93 = some 1 := by kernel_rfl
theorem aby93 : abytes Tryd.prog 93 = some 8 := by kernel_rfl
theorem azc93 : azc Tryd.prog 93 = some ([.nilFunc]) := by kernel_rfl
theorem cof93 : Tryd.prog.cellsOf 93 = 1 := by kernel_rfl
theorem asz94 : asz Tryd.prog 94 = some 1 := by kernel_rfl
theorem aby94 : abytes Tryd.prog 94 = some 8 := by kernel_rfl
theorem azc94 : azc Tryd.prog 94 = some ([.nilFunc]) := by kernel_rfl
theorem cof94 : Tryd.prog.cellsOf 94 = 1 := by kernel_rfl
theorem asz96 : asz Tryd.prog 96 = some 1 := by kernel_rfl
theorem aby96 : abytes Tryd.prog 96 = some 8 := by kernel_rfl
theorem azc96 : azc Tryd.prog 96 = some ([.nilFunc]) := by kernel_rfl
theorem cof96 : Tryd.prog.cellsOf 96 = 1 := by kernel_rfl
theorem asz97 : asz Tryd.prog 97 = some 1 := by kernel_rfl
theorem aby97 : abytes Tryd.prog 97 = some 8 := by kernel_rfl
theorem azc97 : azc Tryd.prog 97 = some ([.nilFunc]) := by kernel_rfl
theorem cof97 : Tryd.prog.cellsOf 97 = 1 := by kernel_rfl
theorem asz98 : asz Tryd.prog 98 = some 1 := by kernel_rfl
theorem aby98 : abytes Tryd.prog 98 = some 8 := by kernel_rfl
theorem azc98 : azc Tryd.prog 98 = some ([.nilFunc]) := by kernel_rfl
theorem cof98 : Tryd.prog.cellsOf 98 = 1 := by kernel_rfl
theorem asz99 : asz Tryd.prog 99 = some 1 := by kernel_rfl
theorem aby99 : abytes Tryd.prog 99 = some 8 := by kernel_rfl
theorem azc99 : azc Tryd.prog 99 = some ([.pointer none]) := by kernel_rfl
theorem cof99 : Tryd.prog.cellsOf 99 = 1 := by kernel_rfl
theorem asz100 : asz Tryd.prog 100 = some 1 := by kernel_rfl
theorem aby100 : abytes Tryd.prog 100 = some 8 := by kernel_rfl
theorem azc100 : azc Tryd.prog 100 = some ([.int .u64 0]) := by kernel_rfl
theorem cof100 : Tryd.prog.cellsOf 100 = 1 := by kernel_rfl
theorem asz101 : asz Tryd.prog 101 = some 1 := by kernel_rfl
theorem aby101 : abytes Tryd.prog 101 = some 4 := by kernel_rfl
theorem azc101 : azc Tryd.prog 101 = some ([.int .u32 0]) := by kernel_rfl
theorem cof101 : Tryd.prog.cellsOf 101 = 1 := by kernel_rfl
theorem asz102 : asz Tryd.prog 102 = some 8 := by kernel_rfl
theorem aby102 : abytes Tryd.prog 102 = some 32 := by kernel_rfl
theorem azc102 : azc Tryd.prog 102 = some ([.int .u32 0, .int .u32 0, .int .u32 0, .int .u32 0, .int .u32 0, .int .u32 0, .int .u32 0, .int .u32 0]) := by kernel_rfl
theorem cof102 : Tryd.prog.cellsOf 102 = 8 := by kernel_rfl
theorem asz103 : asz Tryd.prog 103 = some 8 := by kernel_rfl
theorem aby103 : abytes Tryd.prog 103 = some 32 := by kernel_rfl
theorem azc103 : azc Tryd.prog 103 = some ([.int .u32 0, .int .u32 0, .int .u32 0, .int .u32 0, .int .u32 0, .int .u32 0, .int .u32 0, .int .u32 0]) := by kernel_rfl
theorem cof103 : Tryd.prog.cellsOf 103 = 8 := by kernel_rfl
theorem asz104 : asz Tryd.prog 104 = some 1 := by kernel_rfl
theorem aby104 : abytes Tryd.prog 104 = some 8 := by kernel_rfl
theorem azc104 : azc Tryd.prog 104 = some ([.nilFunc]) := by kernel_rfl
theorem cof104 : Tryd.prog.cellsOf 104 = 1 := by kernel_rfl
theorem asz105 : asz Tryd.prog 105 = some 1 := by kernel_rfl
theorem aby105 : abytes Tryd.prog 105 = some 8 := by kernel_rfl
theorem azc105 : azc Tryd.prog 105 = some ([.nilFunc]) := by kernel_rfl
theorem cof105 : Tryd.prog.cellsOf 105 = 1 := by kernel_rfl
theorem asz106 : asz Tryd.prog 106 = some 1 := by kernel_rfl
theorem aby106 : abytes Tryd.prog 106 = some 8 := by kernel_rfl
theorem azc106 : azc Tryd.prog 106 = some ([.nilFunc]) := by kernel_rfl
theorem cof106 : Tryd.prog.cellsOf 106 = 1 := by kernel_rfl
theorem asz107 : asz Tryd.prog 107 = some 1 := by kernel_rfl
theorem aby107 : abytes Tryd.prog 107 = some 8 := by kernel_rfl
theorem azc107 : azc Tryd.prog 107 = some ([.nilFunc]) := by kernel_rfl
theorem cof107 : Tryd.prog.cellsOf 107 = 1 := by kernel_rfl
theorem asz108 : asz Tryd.prog 108 = some 1 := by kernel_rfl
theorem aby108 : abytes Tryd.prog 108 = some 8 := by kernel_rfl
theorem azc108 : azc Tryd.prog 108 = some ([.nilFunc]) := by kernel_rfl
theorem cof108 : Tryd.prog.cellsOf 108 = 1 := by kernel_rfl
theorem asz109 : asz Tryd.prog 109 = some 1 := by kernel_rfl
theorem aby109 : abytes Tryd.prog 109 = some 8 := by kernel_rfl
theorem azc109 : azc Tryd.prog 109 = some ([.nilFunc]) := by kernel_rfl
theorem cof109 : Tryd.prog.cellsOf 109 = 1 := by kernel_rfl
theorem asz110 : asz Tryd.prog 110 = some 1 := by kernel_rfl
theorem aby110 : abytes Tryd.prog 110 = some 8 := by kernel_rfl
theorem azc110 : azc Tryd.prog 110 = some ([.nilFunc]) := by kernel_rfl
theorem cof110 : Tryd.prog.cellsOf 110 = 1 := by kernel_rfl
theorem asz111 : asz Tryd.prog 111 = some 24 := by kernel_rfl
theorem aby111 : abytes Tryd.prog 111 = some 24 := by kernel_rfl
theorem azc111 : azc Tryd.prog 111 = some (List.replicate 24 (.int .u8 0)) := by kernel_rfl
theorem cof111 : Tryd.prog.cellsOf 111 = 24 := by kernel_rfl
theorem asz112 : asz Tryd.prog 112 = some 1 := by kernel_rfl
theorem aby112 : abytes Tryd.prog 112 = some 8 := by kernel_rfl
theorem azc112 : azc Tryd.prog 112 = some ([.nilFunc]) := by kernel_rfl
theorem cof112 : Tryd.prog.cellsOf 112 = 1 := by kernel_rfl
theorem asz113 : asz Tryd.prog 113 = some 1 := by kernel_rfl
theorem aby113 : abytes Tryd.prog 113 = some 8 := by kernel_rfl
theorem azc113 : azc Tryd.prog 113 = some ([.nilFunc]) := by kernel_rfl
theorem cof113 : Tryd.prog.cellsOf 113 = 1 := by kernel_rfl
theorem asz115 : asz Tryd.prog 115 = some 1 := by kernel_rfl
theorem aby115 : abytes Tryd.prog 115 = some 8 := by kernel_rfl
theorem azc115 : azc Tryd.prog 115 = some ([.nilFunc]) := by kernel_rfl
theorem cof115 : Tryd.prog.cellsOf 115 = 1 := by kernel_rfl
theorem asz117 : asz Tryd.prog 117 = some 1 := by kernel_rfl
theorem aby117 : abytes Tryd.prog 117 = some 8 := by kernel_rfl
theorem azc117 : azc Tryd.prog 117 = some ([.nilFunc]) := by kernel_rfl
theorem cof117 : Tryd.prog.cellsOf 117 = 1 := by kernel_rfl
theorem asz118 : asz Tryd.prog 118 = some 1 := by kernel_rfl
theorem aby118 : abytes Tryd.prog 118 = some 8 := by kernel_rfl
theorem azc118 : azc Tryd.prog 118 = some ([.pointer none]) := by kernel_rfl
theorem cof118 : Tryd.prog.cellsOf 118 = 1 := by kernel_rfl
theorem asz119 : asz Tryd.prog 119 = some 64 := by kernel_rfl
theorem aby119 : abytes Tryd.prog 119 = some 256 := by kernel_rfl
theorem azc119 : azc Tryd.prog 119 = some (List.replicate 64 (.int .u32 0)) := by kernel_rfl
theorem cof119 : Tryd.prog.cellsOf 119 = 64 := by kernel_rfl
theorem asz120 : asz Tryd.prog 120 = some 1 := by kernel_rfl
theorem aby120 : abytes Tryd.prog 120 = some 8 := by kernel_rfl
theorem azc120 : azc Tryd.prog 120 = some ([.nilFunc]) := by kernel_rfl
theorem cof120 : Tryd.prog.cellsOf 120 = 1 := by kernel_rfl
theorem asz121 : asz Tryd.prog 121 = some 1 := by kernel_rfl
theorem aby121 : abytes Tryd.prog 121 = some 8 := by kernel_rfl
theorem azc121 : azc Tryd.prog 121 = some ([.nilFunc]) := by kernel_rfl
theorem cof121 : Tryd.prog.cellsOf 121 = 1 := by kernel_rfl
theorem asz123 : asz Tryd.prog 123 = some 1 := by kernel_rfl
theorem aby123 : abytes Tryd.prog 123 = some 8 := by kernel_rfl
theorem azc123 : azc Tryd.prog 123 = some ([.nilFunc]) := by kernel_rfl
theorem cof123 : Tryd.prog.cellsOf 123 = 1 := by kernel_rfl
theorem asz124 : asz Tryd.prog 124 = some 1 := by kernel_rfl
theorem aby124 : abytes Tryd.prog 124 = some 8 := by kernel_rfl
theorem azc124 : azc Tryd.prog 124 = some ([.nilFunc]) := by kernel_rfl
theorem cof124 : Tryd.prog.cellsOf 124 = 1 := by kernel_rfl
theorem asz125 : asz Tryd.prog 125 = some 1 := by kernel_rfl
theorem aby125 : abytes Tryd.prog 125 = some 8 := by kernel_rfl
theorem azc125 : azc Tryd.prog 125 = some ([.int .i64 0]) := by kernel_rfl
theorem cof125 : Tryd.prog.cellsOf 125 = 1 := by kernel_rfl
theorem asz127 : asz Tryd.prog 127 = some 1 := by kernel_rfl
theorem aby127 : abytes Tryd.prog 127 = some 8 := by kernel_rfl
theorem azc127 : azc Tryd.prog 127 = some ([.nilFunc]) := by kernel_rfl
theorem cof127 : Tryd.prog.cellsOf 127 = 1 := by kernel_rfl
theorem asz128 : asz Tryd.prog 128 = some 1 := by kernel_rfl
theorem aby128 : abytes Tryd.prog 128 = some 8 := by kernel_rfl
theorem azc128 : azc Tryd.prog 128 = some ([.nilFunc]) := by kernel_rfl
theorem cof128 : Tryd.prog.cellsOf 128 = 1 := by kernel_rfl
theorem asz129 : asz Tryd.prog 129 = some 1 := by kernel_rfl
theorem aby129 : abytes Tryd.prog 129 = some 8 := by kernel_rfl
theorem azc129 : azc Tryd.prog 129 = some ([.nilFunc]) := by kernel_rfl
theorem cof129 : Tryd.prog.cellsOf 129 = 1 := by kernel_rfl
theorem asz130 : asz Tryd.prog 130 = some 1 := by kernel_rfl
theorem aby130 : abytes Tryd.prog 130 = some 8 := by kernel_rfl
theorem azc130 : azc Tryd.prog 130 = some ([.nilFunc]) := by kernel_rfl
theorem cof130 : Tryd.prog.cellsOf 130 = 1 := by kernel_rfl
theorem asz132 : asz Tryd.prog 132 = some 1 := by kernel_rfl
theorem aby132 : abytes Tryd.prog 132 = some 8 := by kernel_rfl
theorem azc132 : azc Tryd.prog 132 = some ([.nilFunc]) := by kernel_rfl
theorem cof132 : Tryd.prog.cellsOf 132 = 1 := by kernel_rfl
theorem asz133 : asz Tryd.prog 133 = some 1 := by kernel_rfl
theorem aby133 : abytes Tryd.prog 133 = some 8 := by kernel_rfl
theorem azc133 : azc Tryd.prog 133 = some ([.nilFunc]) := by kernel_rfl
theorem cof133 : Tryd.prog.cellsOf 133 = 1 := by kernel_rfl
theorem asz134 : asz Tryd.prog 134 = some 1 := by kernel_rfl
theorem aby134 : abytes Tryd.prog 134 = some 8 := by kernel_rfl
theorem azc134 : azc Tryd.prog 134 = some ([.nilFunc]) := by kernel_rfl
theorem cof134 : Tryd.prog.cellsOf 134 = 1 := by kernel_rfl
theorem asz135 : asz Tryd.prog 135 = some 1 := by kernel_rfl
theorem aby135 : abytes Tryd.prog 135 = some 8 := by kernel_rfl
theorem azc135 : azc Tryd.prog 135 = some ([.nilFunc]) := by kernel_rfl
theorem cof135 : Tryd.prog.cellsOf 135 = 1 := by kernel_rfl
theorem asz136 : asz Tryd.prog 136 = some 20 := by kernel_rfl
theorem aby136 : abytes Tryd.prog 136 = some 160 := by kernel_rfl
theorem azc136 : azc Tryd.prog 136 = some (List.replicate 20 (.int .u64 0)) := by kernel_rfl
theorem cof136 : Tryd.prog.cellsOf 136 = 20 := by kernel_rfl
theorem asz137 : asz Tryd.prog 137 = some 65 := by kernel_rfl
theorem aby137 : abytes Tryd.prog 137 = some 65 := by kernel_rfl
theorem azc137 : azc Tryd.prog 137 = some (List.replicate 65 (.int .u8 0)) := by kernel_rfl
theorem cof137 : Tryd.prog.cellsOf 137 = 65 := by kernel_rfl
theorem asz139 : asz Tryd.prog 139 = some 1 := by kernel_rfl
theorem aby139 : abytes Tryd.prog 139 = some 8 := by kernel_rfl
theorem azc139 : azc Tryd.prog 139 = some ([.nilFunc]) := by kernel_rfl
theorem cof139 : Tryd.prog.cellsOf 139 = 1 := by kernel_rfl
theorem asz141 : asz Tryd.prog 141 = some 1 := by kernel_rfl
theorem aby141 : abytes Tryd.prog 141 = some 8 := by kernel_rfl
theorem azc141 : azc Tryd.prog 141 = some ([.nilFunc]) := by kernel_rfl
theorem cof141 : Tryd.prog.cellsOf 141 = 1 := by kernel_rfl
theorem asz142 : asz Tryd.prog 142 = some 1 := by kernel_rfl
theorem aby142 : abytes Tryd.prog 142 = some 8 := by kernel_rfl
theorem azc142 : azc Tryd.prog 142 = some ([.nilFunc]) := by kernel_rfl
theorem cof142 : Tryd.prog.cellsOf 142 = 1 := by kernel_rfl
theorem asz143 : asz Tryd.prog 143 = some 1 := by kernel_rfl
theorem aby143 : abytes Tryd.prog 143 = some 8 := by kernel_rfl
theorem azc143 : azc Tryd.prog 143 = some ([.int .u64 0]) := by kernel_rfl
theorem cof143 : Tryd.prog.cellsOf 143 = 1 := by kernel_rfl
theorem asz144 : asz Tryd.prog 144 = some 1 := by kernel_rfl
theorem aby144 : abytes Tryd.prog 144 = some 8 := by kernel_rfl
theorem azc144 : azc Tryd.prog 144 = some ([.nilFunc]) := by kernel_rfl
theorem cof144 : Tryd.prog.cellsOf 144 = 1 := by kernel_rfl
theorem asz145 : asz Tryd.prog 145 = some 1 := by kernel_rfl
theorem aby145 : abytes Tryd.prog 145 = some 8 := by kernel_rfl
theorem azc145 : azc Tryd.prog 145 = some ([.nilFunc]) := by kernel_rfl
theorem cof145 : Tryd.prog.cellsOf 145 = 1 := by kernel_rfl
theorem asz146 : asz Tryd.prog 146 = some 1 := by kernel_rfl
theorem aby146 : abytes Tryd.prog 146 = some 8 := by kernel_rfl
theorem azc146 : azc Tryd.prog 146 = some ([.nilFunc]) := by kernel_rfl
theorem cof146 : Tryd.prog.cellsOf 146 = 1 := by kernel_rfl
theorem asz147 : asz Tryd.prog 147 = some 1 := by kernel_rfl
theorem aby147 : abytes Tryd.prog 147 = some 8 := by kernel_rfl
theorem azc147 : azc Tryd.prog 147 = some ([.pointer none]) := by kernel_rfl
theorem cof147 : Tryd.prog.cellsOf 147 = 1 := by kernel_rfl
theorem asz148 : asz Tryd.prog 148 = some 1 := by kernel_rfl
theorem aby148 : abytes Tryd.prog 148 = some 8 := by kernel_rfl
theorem azc148 : azc Tryd.prog 148 = some ([.nilFunc]) := by kernel_rfl
theorem cof148 : Tryd.prog.cellsOf 148 = 1 := by kernel_rfl
theorem asz149 : asz Tryd.prog 149 = some 1 := by kernel_rfl
theorem aby149 : abytes Tryd.prog 149 = some 8 := by kernel_rfl
theorem azc149 : azc Tryd.prog 149 = some ([.pointer none]) := by kernel_rfl
theorem cof149 : Tryd.prog.cellsOf 149 = 1 := by kernel_rfl
theorem asz150 : asz Tryd.prog 150 = some 1 := by kernel_rfl
theorem aby150 : abytes Tryd.prog 150 = some 8 := by kernel_rfl
theorem azc150 : azc Tryd.prog 150 = some ([.nilFunc]) := by kernel_rfl
theorem cof150 : Tryd.prog.cellsOf 150 = 1 := by kernel_rfl
theorem asz151 : asz Tryd.prog 151 = some 32 := by kernel_rfl
theorem aby151 : abytes Tryd.prog 151 = some 32 := by kernel_rfl
theorem azc151 : azc Tryd.prog 151 = some (List.replicate 32 (.int .u8 0)) := by kernel_rfl
theorem cof151 : Tryd.prog.cellsOf 151 = 32 := by kernel_rfl
theorem asz152 : asz Tryd.prog 152 = some 64 := by kernel_rfl
theorem aby152 : abytes Tryd.prog 152 = some 64 := by kernel_rfl
theorem azc152 : azc Tryd.prog 152 = some (List.replicate 64 (.int .u8 0)) := by kernel_rfl
theorem cof152 : Tryd.prog.cellsOf 152 = 64 := by kernel_rfl
theorem asz153 : asz Tryd.prog 153 = some 4 := by kernel_rfl
theorem aby153 : abytes Tryd.prog 153 = some 40 := by kernel_rfl
theorem azc153 : azc Tryd.prog 153 = some ([.pointer none, .pointer none, .pointer none, .string ⟨#[]⟩]) := by kernel_rfl
theorem cof153 : Tryd.prog.cellsOf 153 = 4 := by kernel_rfl
theorem afo153_0 : afo Tryd.prog 153 0 = some 0 := by kernel_rfl
theorem afo153_1 : afo Tryd.prog 153 1 = some 1 := by kernel_rfl
theorem afo153_2 : afo Tryd.prog 153 2 = some 2 := by kernel_rfl
theorem afo153_3 : afo Tryd.prog 153 3 = some 3 := by kernel_rfl
theorem apl153 : aplaces Tryd.prog 153 = some [(0, 1), (1, 1), (2, 1), (3, 1)] := by kernel_rfl
theorem asz154 : asz Tryd.prog 154 = some 4 := by kernel_rfl
theorem aby154 : abytes Tryd.prog 154 = some 40 := by kernel_rfl
theorem azc154 : azc Tryd.prog 154 = some ([.pointer none, .pointer none, .pointer none, .string ⟨#[]⟩]) := by kernel_rfl
theorem cof154 : Tryd.prog.cellsOf 154 = 4 := by kernel_rfl
theorem afo154_0 : afo Tryd.prog 154 0 = some 0 := by kernel_rfl
theorem afo154_1 : afo Tryd.prog 154 1 = some 1 := by kernel_rfl
theorem afo154_2 : afo Tryd.prog 154 2 = some 2 := by kernel_rfl
theorem afo154_3 : afo Tryd.prog 154 3 = some 3 := by kernel_rfl
theorem apl154 : aplaces Tryd.prog 154 = some [(0, 1), (1, 1), (2, 1), (3, 1)] := by kernel_rfl
theorem asz155 : asz Tryd.prog 155 = some 0 := by kernel_rfl
theorem aby155 : abytes Tryd.prog 155 = some 0 := by kernel_rfl
theorem azc155 : azc Tryd.prog 155 = some ([]) := by kernel_rfl
theorem cof155 : Tryd.prog.cellsOf 155 = 0 := by kernel_rfl
theorem asz156 : asz Tryd.prog 156 = some 0 := by kernel_rfl
theorem aby156 : abytes Tryd.prog 156 = some 0 := by kernel_rfl
theorem azc156 : azc Tryd.prog 156 = some ([]) := by kernel_rfl
theorem cof156 : Tryd.prog.cellsOf 156 = 0 := by kernel_rfl
theorem apl156 : aplaces Tryd.prog 156 = some [(0, 0)] := by kernel_rfl
theorem asz157 : asz Tryd.prog 157 = some 0 := by kernel_rfl
theorem aby157 : abytes Tryd.prog 157 = some 0 := by kernel_rfl
theorem azc157 : azc Tryd.prog 157 = some ([]) := by kernel_rfl
theorem cof157 : Tryd.prog.cellsOf 157 = 0 := by kernel_rfl
theorem apl157 : aplaces Tryd.prog 157 = some [(0, 0)] := by kernel_rfl
theorem asz158 : asz Tryd.prog 158 = some 1 := by kernel_rfl
theorem aby158 : abytes Tryd.prog 158 = some 8 := by kernel_rfl
theorem azc158 : azc Tryd.prog 158 = some ([.nilFunc]) := by kernel_rfl
theorem cof158 : Tryd.prog.cellsOf 158 = 1 := by kernel_rfl
theorem asz159 : asz Tryd.prog 159 = some 1 := by kernel_rfl
theorem aby159 : abytes Tryd.prog 159 = some 1 := by kernel_rfl
theorem azc159 : azc Tryd.prog 159 = some ([.int .u8 0]) := by kernel_rfl
theorem cof159 : Tryd.prog.cellsOf 159 = 1 := by kernel_rfl
theorem asz160 : asz Tryd.prog 160 = some 1 := by kernel_rfl
theorem aby160 : abytes Tryd.prog 160 = some 1 := by kernel_rfl
theorem azc160 : azc Tryd.prog 160 = some ([.int .u8 0]) := by kernel_rfl
theorem cof160 : Tryd.prog.cellsOf 160 = 1 := by kernel_rfl
theorem asz161 : asz Tryd.prog 161 = some 1 := by kernel_rfl
theorem aby161 : abytes Tryd.prog 161 = some 8 := by kernel_rfl
theorem azc161 : azc Tryd.prog 161 = some ([.nilFunc]) := by kernel_rfl
theorem cof161 : Tryd.prog.cellsOf 161 = 1 := by kernel_rfl
theorem asz162 : asz Tryd.prog 162 = some 1 := by kernel_rfl
theorem aby162 : abytes Tryd.prog 162 = some 4 := by kernel_rfl
theorem azc162 : azc Tryd.prog 162 = some ([.int .i32 0]) := by kernel_rfl
theorem cof162 : Tryd.prog.cellsOf 162 = 1 := by kernel_rfl
theorem asz163 : asz Tryd.prog 163 = some 1 := by kernel_rfl
theorem aby163 : abytes Tryd.prog 163 = some 4 := by kernel_rfl
theorem azc163 : azc Tryd.prog 163 = some ([.int .i32 0]) := by kernel_rfl
theorem cof163 : Tryd.prog.cellsOf 163 = 1 := by kernel_rfl
theorem asz164 : asz Tryd.prog 164 = some 11 := by kernel_rfl
theorem aby164 : abytes Tryd.prog 164 = some 48 := by kernel_rfl
theorem azc164 : azc Tryd.prog 164 = some ([.int .u64 0, .int .u64 0, .int .u32 0, .int .u8 0, .int .u8 0, .int .u8 0, .int .u8 0, .nilFunc, .pointer none, .int .i32 0, .int .i32 0]) := by kernel_rfl
theorem cof164 : Tryd.prog.cellsOf 164 = 11 := by kernel_rfl
theorem afo164_0 : afo Tryd.prog 164 0 = some 0 := by kernel_rfl
theorem afo164_1 : afo Tryd.prog 164 1 = some 1 := by kernel_rfl
theorem afo164_2 : afo Tryd.prog 164 2 = some 2 := by kernel_rfl
theorem afo164_3 : afo Tryd.prog 164 3 = some 3 := by kernel_rfl
theorem afo164_4 : afo Tryd.prog 164 4 = some 4 := by kernel_rfl
theorem afo164_5 : afo Tryd.prog 164 5 = some 5 := by kernel_rfl
theorem afo164_6 : afo Tryd.prog 164 6 = some 6 := by kernel_rfl
theorem afo164_7 : afo Tryd.prog 164 7 = some 7 := by kernel_rfl
theorem afo164_8 : afo Tryd.prog 164 8 = some 8 := by kernel_rfl
theorem afo164_9 : afo Tryd.prog 164 9 = some 9 := by kernel_rfl
theorem afo164_10 : afo Tryd.prog 164 10 = some 10 := by kernel_rfl
theorem apl164 : aplaces Tryd.prog 164 = some [(0, 1), (1, 1), (2, 1), (3, 1), (4, 1), (5, 1), (6, 1), (7, 1), (8, 1), (9, 1), (10, 1)] := by kernel_rfl
theorem asz165 : asz Tryd.prog 165 = some 11 := by kernel_rfl
theorem aby165 : abytes Tryd.prog 165 = some 48 := by kernel_rfl
theorem azc165 : azc Tryd.prog 165 = some ([.int .u64 0, .int .u64 0, .int .u32 0, .int .u8 0, .int .u8 0, .int .u8 0, .int .u8 0, .nilFunc, .pointer none, .int .i32 0, .int .i32 0]) := by kernel_rfl
theorem cof165 : Tryd.prog.cellsOf 165 = 11 := by kernel_rfl
theorem afo165_0 : afo Tryd.prog 165 0 = some 0 := by kernel_rfl
theorem afo165_1 : afo Tryd.prog 165 1 = some 1 := by kernel_rfl
theorem afo165_2 : afo Tryd.prog 165 2 = some 2 := by kernel_rfl
theorem afo165_3 : afo Tryd.prog 165 3 = some 3 := by kernel_rfl
theorem afo165_4 : afo Tryd.prog 165 4 = some 4 := by kernel_rfl
theorem afo165_5 : afo Tryd.prog 165 5 = some 5 := by kernel_rfl
theorem afo165_6 : afo Tryd.prog 165 6 = some 6 := by kernel_rfl
theorem afo165_7 : afo Tryd.prog 165 7 = some 7 := by kernel_rfl
theorem afo165_8 : afo Tryd.prog 165 8 = some 8 := by kernel_rfl
theorem afo165_9 : afo Tryd.prog 165 9 = some 9 := by kernel_rfl
theorem afo165_10 : afo Tryd.prog 165 10 = some 10 := by kernel_rfl
theorem apl165 : aplaces Tryd.prog 165 = some [(0, 1), (1, 1), (2, 1), (3, 1), (4, 1), (5, 1), (6, 1), (7, 1), (8, 1), (9, 1), (10, 1)] := by kernel_rfl
noncomputable def C (base : Nat) (w0 : World) (G : Nat) : Cx := ⟨Tryd.prog, base, w0, G, fun t => t == 88, fun _ => false⟩
theorem C_ex (base : Nat) (w0 : World) (G : Nat) (t : TypeId) : (C base w0 G).ex t = (t == 88) := (rfl)
theorem C_P (base : Nat) (w0 : World) (G : Nat) : (C base w0 G).P = Tryd.prog := (rfl)
theorem C_G (base : Nat) (w0 : World) (G : Nat) : (C base w0 G).G = G := (rfl)
theorem mixed : Tryd.prog.follows .mixedOrders = true := by kernel_rfl
end Go.Proofs.YthohmdkibkompaaDoor
