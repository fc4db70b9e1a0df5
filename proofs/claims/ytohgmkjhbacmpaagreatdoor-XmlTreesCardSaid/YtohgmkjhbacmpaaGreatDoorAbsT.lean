/- What the types are: closed facts, by a program. -/
import Derived.Test.YtohgmkjhbacmpaaGreatDoorAbsU
import Derived.Test.YtohgmkjhbacmpaaGreatDoorRows
import Derived.KernelRfl
namespace Go.Proofs.YtohgmkjhbacmpaaGreatDoor
open Go.Abs
theorem asz1 : asz Tryz.prog 1 = some 1 := by kernel_rfl
theorem aby1 : abytes Tryz.prog 1 = some 8 := by kernel_rfl
theorem azc1 : azc Tryz.prog 1 = some ([.nilFunc]) := by kernel_rfl
theorem cof1 : Tryz.prog.cellsOf 1 = 1 := by kernel_rfl
theorem asz2 : asz Tryz.prog 2 = some 1 := by kernel_rfl
theorem aby2 : abytes Tryz.prog 2 = some 8 := by kernel_rfl
theorem azc2 : azc Tryz.prog 2 = some ([.int .i64 0]) := by kernel_rfl
theorem cof2 : Tryz.prog.cellsOf 2 = 1 := by kernel_rfl
theorem asz3 : asz Tryz.prog 3 = some 1 := by kernel_rfl
theorem aby3 : abytes Tryz.prog 3 = some 8 := by kernel_rfl
theorem azc3 : azc Tryz.prog 3 = some ([.int .i64 0]) := by kernel_rfl
theorem cof3 : Tryz.prog.cellsOf 3 = 1 := by kernel_rfl
theorem asz4 : asz Tryz.prog 4 = some 1 := by kernel_rfl
theorem aby4 : abytes Tryz.prog 4 = some 1 := by kernel_rfl
theorem azc4 : azc Tryz.prog 4 = some ([.bool false]) := by kernel_rfl
theorem cof4 : Tryz.prog.cellsOf 4 = 1 := by kernel_rfl
theorem asz5 : asz Tryz.prog 5 = some 1 := by kernel_rfl
theorem aby5 : abytes Tryz.prog 5 = some 1 := by kernel_rfl
theorem azc5 : azc Tryz.prog 5 = some ([.int .u8 0]) := by kernel_rfl
theorem cof5 : Tryz.prog.cellsOf 5 = 1 := by kernel_rfl
theorem asz6 : asz Tryz.prog 6 = some 1 := by kernel_rfl
theorem aby6 : abytes Tryz.prog 6 = some 1 := by kernel_rfl
theorem azc6 : azc Tryz.prog 6 = some ([.int .u8 0]) := by kernel_rfl
theorem cof6 : Tryz.prog.cellsOf 6 = 1 := by kernel_rfl
theorem asz7 : asz Tryz.prog 7 = some 4 := by kernel_rfl
theorem aby7 : abytes Tryz.prog 7 = some 24 := by kernel_rfl
theorem azc7 : azc Tryz.prog 7 = some ([.int .i64 0, .int .i64 0, .bool false, .int .u8 0]) := by kernel_rfl
theorem cof7 : Tryz.prog.cellsOf 7 = 4 := by kernel_rfl
theorem afo7_0 : afo Tryz.prog 7 0 = some 0 := by kernel_rfl
theorem afo7_1 : afo Tryz.prog 7 1 = some 1 := by kernel_rfl
theorem afo7_2 : afo Tryz.prog 7 2 = some 2 := by kernel_rfl
theorem afo7_3 : afo Tryz.prog 7 3 = some 3 := by kernel_rfl
theorem apl7 : aplaces Tryz.prog 7 = some [(0, 1), (1, 1), (2, 1), (3, 1)] := by kernel_rfl
theorem asz8 : asz Tryz.prog 8 = some 4 := by kernel_rfl
theorem aby8 : abytes Tryz.prog 8 = some 24 := by kernel_rfl
theorem azc8 : azc Tryz.prog 8 = some ([.int .i64 0, .int .i64 0, .bool false, .int .u8 0]) := by kernel_rfl
theorem cof8 : Tryz.prog.cellsOf 8 = 4 := by kernel_rfl
theorem afo8_0 : afo Tryz.prog 8 0 = some 0 := by kernel_rfl
theorem afo8_1 : afo Tryz.prog 8 1 = some 1 := by kernel_rfl
theorem afo8_2 : afo Tryz.prog 8 2 = some 2 := by kernel_rfl
theorem afo8_3 : afo Tryz.prog 8 3 = some 3 := by kernel_rfl
theorem apl8 : aplaces Tryz.prog 8 = some [(0, 1), (1, 1), (2, 1), (3, 1)] := by kernel_rfl
theorem asz9 : asz Tryz.prog 9 = some 1 := by kernel_rfl
theorem aby9 : abytes Tryz.prog 9 = some 16 := by kernel_rfl
theorem azc9 : azc Tryz.prog 9 = some ([.string ⟨#[]⟩]) := by kernel_rfl
theorem cof9 : Tryz.prog.cellsOf 9 = 1 := by kernel_rfl
theorem asz10 : asz Tryz.prog 10 = some 1 := by kernel_rfl
theorem aby10 : abytes Tryz.prog 10 = some 16 := by kernel_rfl
theorem azc10 : azc Tryz.prog 10 = some ([.string ⟨#[]⟩]) := by kernel_rfl
theorem cof10 : Tryz.prog.cellsOf 10 = 1 := by kernel_rfl
theorem asz11 : asz Tryz.prog 11 = some 1 := by kernel_rfl
theorem aby11 : abytes Tryz.prog 11 = some 16 := by kernel_rfl
theorem azc11 : azc Tryz.prog 11 = some ([.string ⟨#[]⟩]) := by kernel_rfl
theorem cof11 : Tryz.prog.cellsOf 11 = 1 := by kernel_rfl
theorem asz12 : asz Tryz.prog 12 = some 1 := by kernel_rfl
theorem aby12 : abytes Tryz.prog 12 = some 8 := by kernel_rfl
theorem azc12 : azc Tryz.prog 12 = some ([.int .u64 0]) := by kernel_rfl
theorem cof12 : Tryz.prog.cellsOf 12 = 1 := by kernel_rfl
theorem asz13 : asz Tryz.prog 13 = some 2 := by kernel_rfl
theorem aby13 : abytes Tryz.prog 13 = some 24 := by kernel_rfl
theorem azc13 : azc Tryz.prog 13 = some ([.string ⟨#[]⟩, .int .u64 0]) := by kernel_rfl
theorem cof13 : Tryz.prog.cellsOf 13 = 2 := by kernel_rfl
theorem afo13_0 : afo Tryz.prog 13 0 = some 0 := by kernel_rfl
theorem afo13_1 : afo Tryz.prog 13 1 = some 1 := by kernel_rfl
theorem apl13 : aplaces Tryz.prog 13 = some [(0, 1), (1, 1)] := by kernel_rfl
theorem asz14 : asz Tryz.prog 14 = some 2 := by kernel_rfl
theorem aby14 : abytes Tryz.prog 14 = some 24 := by kernel_rfl
theorem azc14 : azc Tryz.prog 14 = some ([.string ⟨#[]⟩, .int .u64 0]) := by kernel_rfl
theorem cof14 : Tryz.prog.cellsOf 14 = 2 := by kernel_rfl
theorem afo14_0 : afo Tryz.prog 14 0 = some 0 := by kernel_rfl
theorem afo14_1 : afo Tryz.prog 14 1 = some 1 := by kernel_rfl
theorem apl14 : aplaces Tryz.prog 14 = some [(0, 1), (1, 1)] := by kernel_rfl
theorem asz15 : asz Tryz.prog 15 = some 1 := by kernel_rfl
theorem aby15 : abytes Tryz.prog 15 = some 8 := by kernel_rfl
theorem azc15 : azc Tryz.prog 15 = some ([.pointer none]) := by kernel_rfl
theorem cof15 : Tryz.prog.cellsOf 15 = 1 := by kernel_rfl
theorem asz16 : asz Tryz.prog 16 = some 1 := by kernel_rfl
theorem aby16 : abytes Tryz.prog 16 = some 8 := by kernel_rfl
theorem azc16 : azc Tryz.prog 16 = some ([.pointer none]) := by kernel_rfl
theorem cof16 : Tryz.prog.cellsOf 16 = 1 := by kernel_rfl
theorem asz17 : asz Tryz.prog 17 = some 1 := by kernel_rfl
theorem aby17 : abytes Tryz.prog 17 = some 8 := by kernel_rfl
theorem azc17 : azc Tryz.prog 17 = some ([.pointer none]) := by kernel_rfl
theorem cof17 : Tryz.prog.cellsOf 17 = 1 := by kernel_rfl
theorem asz18 : asz Tryz.prog 18 = some 1 := by kernel_rfl
theorem aby18 : abytes Tryz.prog 18 = some 8 := by kernel_rfl
theorem azc18 : azc Tryz.prog 18 = some ([.pointer none]) := by kernel_rfl
theorem cof18 : Tryz.prog.cellsOf 18 = 1 := by kernel_rfl
theorem afo18_0 : afo Tryz.prog 18 0 = some 0 := by kernel_rfl
theorem apl18 : aplaces Tryz.prog 18 = some [(0, 1)] := by kernel_rfl
theorem asz19 : asz Tryz.prog 19 = some 1 := by kernel_rfl
theorem aby19 : abytes Tryz.prog 19 = some 8 := by kernel_rfl
theorem azc19 : azc Tryz.prog 19 = some ([.pointer none]) := by kernel_rfl
theorem cof19 : Tryz.prog.cellsOf 19 = 1 := by kernel_rfl
theorem afo19_0 : afo Tryz.prog 19 0 = some 0 := by kernel_rfl
theorem apl19 : aplaces Tryz.prog 19 = some [(0, 1)] := by kernel_rfl
theorem asz20 : asz Tryz.prog 20 = some 1 := by kernel_rfl
theorem aby20 : abytes Tryz.prog 20 = some 16 := by kernel_rfl
theorem azc20 : azc Tryz.prog 20 = some ([.nilIface]) := by kernel_rfl
theorem cof20 : Tryz.prog.cellsOf 20 = 1 := by kernel_rfl
theorem asz21 : asz Tryz.prog 21 = some 1 := by kernel_rfl
theorem aby21 : abytes Tryz.prog 21 = some 4 := by kernel_rfl
theorem azc21 : azc Tryz.prog 21 = some ([.int .i32 0]) := by kernel_rfl
theorem cof21 : Tryz.prog.cellsOf 21 = 1 := by kernel_rfl
theorem asz22 : asz Tryz.prog 22 = some 1 := by kernel_rfl
theorem aby22 : abytes Tryz.prog 22 = some 24 := by kernel_rfl
theorem azc22 : azc Tryz.prog 22 = some ([.slice none 0 0]) := by kernel_rfl
theorem cof22 : Tryz.prog.cellsOf 22 = 1 := by kernel_rfl
theorem asz23 : asz Tryz.prog 23 = some 1 := by kernel_rfl
theorem aby23 : abytes Tryz.prog 23 = some 8 := by kernel_rfl
theorem azc23 : azc Tryz.prog 23 = some ([.nilFunc]) := by kernel_rfl
theorem cof23 : Tryz.prog.cellsOf 23 = 1 := by kernel_rfl
theorem asz24 : asz Tryz.prog 24 = some 1 := by kernel_rfl
theorem aby24 : abytes Tryz.prog 24 = some 24 := by kernel_rfl
theorem azc24 : azc Tryz.prog 24 = some ([.slice none 0 0]) := by kernel_rfl
theorem cof24 : Tryz.prog.cellsOf 24 = 1 := by kernel_rfl
theorem asz25 : asz Tryz.prog 25 = some 1 := by kernel_rfl
theorem aby25 : abytes Tryz.prog 25 = some 24 := by kernel_rfl
theorem azc25 : azc Tryz.prog 25 = some ([.slice none 0 0]) := by kernel_rfl
theorem cof25 : Tryz.prog.cellsOf 25 = 1 := by kernel_rfl
theorem afo25_0 : afo Tryz.prog 25 0 = some 0 := by kernel_rfl
theorem apl25 : aplaces Tryz.prog 25 = some [(0, 1)] := by kernel_rfl
theorem asz26 : asz Tryz.prog 26 = some 1 := by kernel_rfl
theorem aby26 : abytes Tryz.prog 26 = some 24 := by kernel_rfl
theorem azc26 : azc Tryz.prog 26 = some ([.slice none 0 0]) := by kernel_rfl
theorem cof26 : Tryz.prog.cellsOf 26 = 1 := by kernel_rfl
theorem afo26_0 : afo Tryz.prog 26 0 = some 0 := by kernel_rfl
theorem apl26 : aplaces Tryz.prog 26 = some [(0, 1)] := by kernel_rfl
theorem asz27 : asz Tryz.prog 27 = some 1 := by kernel_rfl
theorem aby27 : abytes Tryz.prog 27 = some 8 := by kernel_rfl
theorem azc27 : azc Tryz.prog 27 = some ([.int .i64 0]) := by kernel_rfl
theorem cof27 : Tryz.prog.cellsOf 27 = 1 := by kernel_rfl
theorem asz29 : asz Tryz.prog 29 = some 1 := by kernel_rfl
theorem aby29 : abytes Tryz.prog 29 = some 8 := by kernel_rfl
theorem azc29 : azc Tryz.prog 29 = some ([.nilFunc]) := by kernel_rfl
theorem cof29 : Tryz.prog.cellsOf 29 = 1 := by kernel_rfl
theorem asz30 : asz Tryz.prog 30 = some 1 := by kernel_rfl
theorem aby30 : abytes Tryz.prog 30 = some 24 := by kernel_rfl
theorem azc30 : azc Tryz.prog 30 = some ([.slice none 0 0]) := by kernel_rfl
theorem cof30 : Tryz.prog.cellsOf 30 = 1 := by kernel_rfl
theorem asz31 : asz Tryz.prog 31 = some 1 := by kernel_rfl
theorem aby31 : abytes Tryz.prog 31 = some 24 := by kernel_rfl
theorem azc31 : azc Tryz.prog 31 = some ([.slice none 0 0]) := by kernel_rfl
theorem cof31 : Tryz.prog.cellsOf 31 = 1 := by kernel_rfl
theorem asz32 : asz Tryz.prog 32 = some 1 := by kernel_rfl
theorem aby32 : abytes Tryz.prog 32 = some 24 := by kernel_rfl
theorem azc32 : azc Tryz.prog 32 = some ([.slice none 0 0]) := by kernel_rfl
theorem cof32 : Tryz.prog.cellsOf 32 = 1 := by kernel_rfl
theorem asz33 : asz Tryz.prog 33 = some 9 := by kernel_rfl
theorem aby33 : abytes Tryz.prog 33 = some 152 := by kernel_rfl
theorem azc33 : azc Tryz.prog 33 = some ([.int .i64 0, .int .i64 0, .slice none 0 0, .string ⟨#[]⟩, .string ⟨#[]⟩, .string ⟨#[]⟩, .slice none 0 0, .slice none 0 0, .string ⟨#[]⟩]) := by kernel_rfl
theorem cof33 : Tryz.prog.cellsOf 33 = 9 := by kernel_rfl
theorem afo33_0 : afo Tryz.prog 33 0 = some 0 := by kernel_rfl
theorem afo33_1 : afo Tryz.prog 33 1 = some 1 := by kernel_rfl
theorem afo33_2 : afo Tryz.prog 33 2 = some 2 := by kernel_rfl
theorem afo33_3 : afo Tryz.prog 33 3 = some 3 := by kernel_rfl
theorem afo33_4 : afo Tryz.prog 33 4 = some 4 := by kernel_rfl
theorem afo33_5 : afo Tryz.prog 33 5 = some 5 := by kernel_rfl
theorem afo33_6 : afo Tryz.prog 33 6 = some 6 := by kernel_rfl
theorem afo33_7 : afo Tryz.prog 33 7 = some 7 := by kernel_rfl
theorem afo33_8 : afo Tryz.prog 33 8 = some 8 := by kernel_rfl
theorem apl33 : aplaces Tryz.prog 33 = some [(0, 1), (1, 1), (2, 1), (3, 1), (4, 1), (5, 1), (6, 1), (7, 1), (8, 1)] := by kernel_rfl
theorem asz34 : asz Tryz.prog 34 = some 9 := by kernel_rfl
theorem aby34 : abytes Tryz.prog 34 = some 152 := by kernel_rfl
theorem azc34 : azc Tryz.prog 34 = some ([.int .i64 0, .int .i64 0, .slice none 0 0, .string ⟨#[]⟩, .string ⟨#[]⟩, .string ⟨#[]⟩, .slice none 0 0, .slice none 0 0, .string ⟨#[]⟩]) := by kernel_rfl
theorem cof34 : Tryz.prog.cellsOf 34 = 9 := by kernel_rfl
theorem afo34_0 : afo Tryz.prog 34 0 = some 0 := by kernel_rfl
theorem afo34_1 : afo Tryz.prog 34 1 = some 1 := by kernel_rfl
theorem afo34_2 : afo Tryz.prog 34 2 = some 2 := by kernel_rfl
theorem afo34_3 : afo Tryz.prog 34 3 = some 3 := by kernel_rfl
theorem afo34_4 : afo Tryz.prog 34 4 = some 4 := by kernel_rfl
theorem afo34_5 : afo Tryz.prog 34 5 = some 5 := by kernel_rfl
theorem afo34_6 : afo Tryz.prog 34 6 = some 6 := by kernel_rfl
theorem afo34_7 : afo Tryz.prog 34 7 = some 7 := by kernel_rfl
theorem afo34_8 : afo Tryz.prog 34 8 = some 8 := by kernel_rfl
theorem apl34 : aplaces Tryz.prog 34 = some [(0, 1), (1, 1), (2, 1), (3, 1), (4, 1), (5, 1), (6, 1), (7, 1), (8, 1)] := by kernel_rfl
theorem asz36 : asz Tryz.prog 36 = some 1 := by kernel_rfl
theorem aby36 : abytes Tryz.prog 36 = some 8 := by kernel_rfl
theorem azc36 : azc Tryz.prog 36 = some ([.nilFunc]) := by kernel_rfl
theorem cof36 : Tryz.prog.cellsOf 36 = 1 := by kernel_rfl
theorem asz37 : asz Tryz.prog 37 = some 1 := by kernel_rfl
theorem aby37 : abytes Tryz.prog 37 = some 8 := by kernel_rfl
theorem azc37 : azc Tryz.prog 37 = some ([.nilFunc]) := by kernel_rfl
theorem cof37 : Tryz.prog.cellsOf 37 = 1 := by kernel_rfl
theorem asz38 : asz Tryz.prog 38 = some 1 := by kernel_rfl
theorem aby38 : abytes Tryz.prog 38 = some 8 := by kernel_rfl
theorem azc38 : azc Tryz.prog 38 = some ([.nilFunc]) := by kernel_rfl
theorem cof38 : Tryz.prog.cellsOf 38 = 1 := by kernel_rfl
theorem asz39 : asz Tryz.prog 39 = some 4 := by kernel_rfl
theorem aby39 : abytes Tryz.prog 39 = some 24 := by kernel_rfl
theorem azc39 : azc Tryz.prog 39 = some ([.bool false, .bool false, .int .i64 0, .int .i64 0]) := by kernel_rfl
theorem cof39 : Tryz.prog.cellsOf 39 = 4 := by kernel_rfl
theorem afo39_0 : afo Tryz.prog 39 0 = some 0 := by kernel_rfl
theorem afo39_1 : afo Tryz.prog 39 1 = some 1 := by kernel_rfl
theorem afo39_2 : afo Tryz.prog 39 2 = some 2 := by kernel_rfl
theorem afo39_3 : afo Tryz.prog 39 3 = some 3 := by kernel_rfl
theorem apl39 : aplaces Tryz.prog 39 = some [(0, 1), (1, 1), (2, 1), (3, 1)] := by kernel_rfl
theorem asz40 : asz Tryz.prog 40 = some 4 := by kernel_rfl
theorem aby40 : abytes Tryz.prog 40 = some 24 := by kernel_rfl
theorem azc40 : azc Tryz.prog 40 = some ([.bool false, .bool false, .int .i64 0, .int .i64 0]) := by kernel_rfl
theorem cof40 : Tryz.prog.cellsOf 40 = 4 := by kernel_rfl
theorem afo40_0 : afo Tryz.prog 40 0 = some 0 := by kernel_rfl
theorem afo40_1 : afo Tryz.prog 40 1 = some 1 := by kernel_rfl
theorem afo40_2 : afo Tryz.prog 40 2 = some 2 := by kernel_rfl
theorem afo40_3 : afo Tryz.prog 40 3 = some 3 := by kernel_rfl
theorem apl40 : aplaces Tryz.prog 40 = some [(0, 1), (1, 1), (2, 1), (3, 1)] := by kernel_rfl
theorem asz41 : asz Tryz.prog 41 = some 1 := by kernel_rfl
theorem aby41 : abytes Tryz.prog 41 = some 8 := by kernel_rfl
theorem azc41 : azc Tryz.prog 41 = some ([.nilFunc]) := by kernel_rfl
theorem cof41 : Tryz.prog.cellsOf 41 = 1 := by kernel_rfl
theorem asz42 : asz Tryz.prog 42 = some 1 := by kernel_rfl
theorem aby42 : abytes Tryz.prog 42 = some 24 := by kernel_rfl
theorem azc42 : azc Tryz.prog 42 = some ([.slice none 0 0]) := by kernel_rfl
theorem cof42 : Tryz.prog.cellsOf 42 = 1 := by kernel_rfl
theorem asz43 : asz Tryz.prog 43 = some 1 := by kernel_rfl
theorem aby43 : abytes Tryz.prog 43 = some 8 := by kernel_rfl
theorem azc43 : azc Tryz.prog 43 = some ([.nilFunc]) := by kernel_rfl
theorem cof43 : Tryz.prog.cellsOf 43 = 1 := by kernel_rfl
theorem asz44 : asz Tryz.prog 44 = some 1 := by kernel_rfl
theorem aby44 : abytes Tryz.prog 44 = some 8 := by kernel_rfl
theorem azc44 : azc Tryz.prog 44 = some ([.nilFunc]) := by kernel_rfl
theorem cof44 : Tryz.prog.cellsOf 44 = 1 := by kernel_rfl
theorem asz45 : asz Tryz.prog 45 = some 1 := by kernel_rfl
theorem aby45 : abytes Tryz.prog 45 = some 8 := by kernel_rfl
theorem azc45 : azc Tryz.prog 45 = some ([.nilFunc]) := by kernel_rfl
theorem cof45 : Tryz.prog.cellsOf 45 = 1 := by kernel_rfl
theorem asz46 : asz Tryz.prog 46 = some 1 := by kernel_rfl
theorem aby46 : abytes Tryz.prog 46 = some 8 := by kernel_rfl
theorem azc46 : azc Tryz.prog 46 = some ([.nilFunc]) := by kernel_rfl
theorem cof46 : Tryz.prog.cellsOf 46 = 1 := by kernel_rfl
theorem asz47 : asz Tryz.prog 47 = some 1 := by kernel_rfl
theorem aby47 : abytes Tryz.prog 47 = some 8 := by kernel_rfl
theorem azc47 : azc Tryz.prog 47 = some ([.nilFunc]) := by kernel_rfl
theorem cof47 : Tryz.prog.cellsOf 47 = 1 := by kernel_rfl
theorem asz48 : asz Tryz.prog 48 = some 1 := by kernel_rfl
theorem aby48 : abytes Tryz.prog 48 = some 24 := by kernel_rfl
theorem azc48 : azc Tryz.prog 48 = some ([.slice none 0 0]) := by kernel_rfl
theorem cof48 : Tryz.prog.cellsOf 48 = 1 := by kernel_rfl
theorem asz49 : asz Tryz.prog 49 = some 1 := by kernel_rfl
theorem aby49 : abytes Tryz.prog 49 = some 8 := by kernel_rfl
theorem azc49 : azc Tryz.prog 49 = some ([.nilFunc]) := by kernel_rfl
theorem cof49 : Tryz.prog.cellsOf 49 = 1 := by kernel_rfl
theorem asz50 : asz Tryz.prog 50 = some 1 := by kernel_rfl
theorem aby50 : abytes Tryz.prog 50 = some 8 := by kernel_rfl
theorem azc50 : azc Tryz.prog 50 = some ([.nilFunc]) := by kernel_rfl
theorem cof50 : Tryz.prog.cellsOf 50 = 1 := by kernel_rfl
theorem asz51 : asz Tryz.prog 51 = some 4 := by kernel_rfl
theorem aby51 : abytes Tryz.prog 51 = some 64 := by kernel_rfl
theorem azc51 : azc Tryz.prog 51 = some ([.string ⟨#[]⟩, .string ⟨#[]⟩, .string ⟨#[]⟩, .string ⟨#[]⟩]) := by kernel_rfl
theorem cof51 : Tryz.prog.cellsOf 51 = 4 := by kernel_rfl
theorem afo51_0 : afo Tryz.prog 51 0 = some 0 := by kernel_rfl
theorem afo51_1 : afo Tryz.prog 51 1 = some 1 := by kernel_rfl
theorem afo51_2 : afo Tryz.prog 51 2 = some 2 := by kernel_rfl
theorem afo51_3 : afo Tryz.prog 51 3 = some 3 := by kernel_rfl
theorem apl51 : aplaces Tryz.prog 51 = some [(0, 1), (1, 1), (2, 1), (3, 1)] := by kernel_rfl
theorem asz52 : asz Tryz.prog 52 = some 4 := by kernel_rfl
theorem aby52 : abytes Tryz.prog 52 = some 64 := by kernel_rfl
theorem azc52 : azc Tryz.prog 52 = some ([.string ⟨#[]⟩, .string ⟨#[]⟩, .string ⟨#[]⟩, .string ⟨#[]⟩]) := by kernel_rfl
theorem cof52 : Tryz.prog.cellsOf 52 = 4 := by kernel_rfl
theorem afo52_0 : afo Tryz.prog 52 0 = some 0 := by kernel_rfl
theorem afo52_1 : afo Tryz.prog 52 1 = some 1 := by kernel_rfl
theorem afo52_2 : afo Tryz.prog 52 2 = some 2 := by kernel_rfl
theorem afo52_3 : afo Tryz.prog 52 3 = some 3 := by kernel_rfl
theorem apl52 : aplaces Tryz.prog 52 = some [(0, 1), (1, 1), (2, 1), (3, 1)] := by kernel_rfl
theorem asz53 : asz Tryz.prog 53 = some 1 := by kernel_rfl
theorem aby53 : abytes Tryz.prog 53 = some 8 := by kernel_rfl
theorem azc53 : azc Tryz.prog 53 = some ([.nilFunc]) := by kernel_rfl
theorem cof53 : Tryz.prog.cellsOf 53 = 1 := by kernel_rfl
theorem asz54 : asz Tryz.prog 54 = some 1 := by kernel_rfl
theorem aby54 : abytes Tryz.prog 54 = some 8 := by kernel_rfl
theorem azc54 : azc Tryz.prog 54 = some ([.int .i64 0]) := by kernel_rfl
theorem cof54 : Tryz.prog.cellsOf 54 = 1 := by kernel_rfl
theorem asz55 : asz Tryz.prog 55 = some 1 := by kernel_rfl
theorem aby55 : abytes Tryz.prog 55 = some 8 := by kernel_rfl
theorem azc55 : azc Tryz.prog 55 = some ([.pointer none]) := by kernel_rfl
theorem cof55 : Tryz.prog.cellsOf 55 = 1 := by kernel_rfl
theorem asz56 : asz Tryz.prog 56 = some 1 := by kernel_rfl
theorem aby56 : abytes Tryz.prog 56 = some 8 := by kernel_rfl
theorem azc56 : azc Tryz.prog 56 = some ([.nilFunc]) := by kernel_rfl
theorem cof56 : Tryz.prog.cellsOf 56 = 1 := by kernel_rfl
theorem asz57 : asz Tryz.prog 57 = some 1 := by kernel_rfl
theorem aby57 : abytes Tryz.prog 57 = some 24 := by kernel_rfl
theorem azc57 : azc Tryz.prog 57 = some ([.slice none 0 0]) := by kernel_rfl
theorem cof57 : Tryz.prog.cellsOf 57 = 1 := by kernel_rfl
theorem asz58 : asz Tryz.prog 58 = some 4 := by kernel_rfl
theorem aby58 : abytes Tryz.prog 58 = some 72 := by kernel_rfl
theorem azc58 : azc Tryz.prog 58 = some ([.string ⟨#[]⟩, .slice none 0 0, .slice none 0 0, .bool false]) := by kernel_rfl
theorem cof58 : Tryz.prog.cellsOf 58 = 4 := by kernel_rfl
theorem afo58_0 : afo Tryz.prog 58 0 = some 0 := by kernel_rfl
theorem afo58_1 : afo Tryz.prog 58 1 = some 1 := by kernel_rfl
theorem afo58_2 : afo Tryz.prog 58 2 = some 2 := by kernel_rfl
theorem afo58_3 : afo Tryz.prog 58 3 = some 3 := by kernel_rfl
theorem apl58 : aplaces Tryz.prog 58 = some [(0, 1), (1, 1), (2, 1), (3, 1)] := by kernel_rfl
theorem asz59 : asz Tryz.prog 59 = some 4 := by kernel_rfl
theorem aby59 : abytes Tryz.prog 59 = some 72 := by kernel_rfl
theorem azc59 : azc Tryz.prog 59 = some ([.string ⟨#[]⟩, .slice none 0 0, .slice none 0 0, .bool false]) := by kernel_rfl
theorem cof59 : Tryz.prog.cellsOf 59 = 4 := by kernel_rfl
theorem afo59_0 : afo Tryz.prog 59 0 = some 0 := by kernel_rfl
theorem afo59_1 : afo Tryz.prog 59 1 = some 1 := by kernel_rfl
theorem afo59_2 : afo Tryz.prog 59 2 = some 2 := by kernel_rfl
theorem afo59_3 : afo Tryz.prog 59 3 = some 3 := by kernel_rfl
theorem apl59 : aplaces Tryz.prog 59 = some [(0, 1), (1, 1), (2, 1), (3, 1)] := by kernel_rfl
theorem asz60 : asz Tryz.prog 60 = some 1 := by kernel_rfl
theorem aby60 : abytes Tryz.prog 60 = some 8 := by kernel_rfl
theorem azc60 : azc Tryz.prog 60 = some ([.nilFunc]) := by kernel_rfl
theorem cof60 : Tryz.prog.cellsOf 60 = 1 := by kernel_rfl
theorem asz61 : asz Tryz.prog 61 = some 2 := by kernel_rfl
theorem aby61 : abytes Tryz.prog 61 = some 32 := by kernel_rfl
theorem azc61 : azc Tryz.prog 61 = some ([.string ⟨#[]⟩, .string ⟨#[]⟩]) := by kernel_rfl
theorem cof61 : Tryz.prog.cellsOf 61 = 2 := by kernel_rfl
theorem afo61_0 : afo Tryz.prog 61 0 = some 0 := by kernel_rfl
theorem afo61_1 : afo Tryz.prog 61 1 = some 1 := by kernel_rfl
theorem apl61 : aplaces Tryz.prog 61 = some [(0, 1), (1, 1)] := by kernel_rfl
theorem asz62 : asz Tryz.prog 62 = some 2 := by kernel_rfl
theorem aby62 : abytes Tryz.prog 62 = some 32 := by kernel_rfl
theorem azc62 : azc Tryz.prog 62 = some ([.string ⟨#[]⟩, .string ⟨#[]⟩]) := by kernel_rfl
theorem cof62 : Tryz.prog.cellsOf 62 = 2 := by kernel_rfl
theorem afo62_0 : afo Tryz.prog 62 0 = some 0 := by kernel_rfl
theorem afo62_1 : afo Tryz.prog 62 1 = some 1 := by kernel_rfl
theorem apl62 : aplaces Tryz.prog 62 = some [(0, 1), (1, 1)] := by kernel_rfl
theorem asz64 : asz Tryz.prog 64 = some 1 := by kernel_rfl
theorem aby64 : abytes Tryz.prog 64 = some 8 := by kernel_rfl
theorem azc64 : azc Tryz.prog 64 = some ([.nilFunc]) := by kernel_rfl
theorem cof64 : Tryz.prog.cellsOf 64 = 1 := by kernel_rfl
theorem asz65 : asz Tryz.prog 65 = some 1 := by kernel_rfl
theorem aby65 : abytes Tryz.prog 65 = some 8 := by kernel_rfl
theorem azc65 : azc Tryz.prog 65 = some ([.nilFunc]) := by kernel_rfl
theorem cof65 : Tryz.prog.cellsOf 65 = 1 := by kernel_rfl
theorem asz67 : asz Tryz.prog 67 = some 1 := by kernel_rfl
theorem aby67 : abytes Tryz.prog 67 = some 8 := by kernel_rfl
theorem azc67 : azc Tryz.prog 67 = some ([.nilFunc]) := by kernel_rfl
theorem cof67 : Tryz.prog.cellsOf 67 = 1 := by kernel_rfl
theorem asz68 : asz Tryz.prog 68 = some 1 := by kernel_rfl
theorem aby68 : abytes Tryz.prog 68 = some 8 := by kernel_rfl
theorem azc68 : azc Tryz.prog 68 = some ([.nilFunc]) := by kernel_rfl
theorem cof68 : Tryz.prog.cellsOf 68 = 1 := by kernel_rfl
theorem asz69 : asz Tryz.prog 69 = some 1 := by kernel_rfl
theorem aby69 : abytes Tryz.prog 69 = some 8 := by kernel_rfl
theorem azc69 : azc Tryz.prog 69 = some ([.nilFunc]) := by kernel_rfl
theorem cof69 : Tryz.prog.cellsOf 69 = 1 := by kernel_rfl
theorem asz70 : asz Tryz.prog 70 = some 1 := by kernel_rfl
theorem aby70 : abytes Tryz.prog 70 = some 8 := by kernel_rfl
theorem azc70 : azc Tryz.prog 70 = some ([.nilFunc]) := by kernel_rfl
theorem cof70 : Tryz.prog.cellsOf 70 = 1 := by kernel_rfl
theorem asz71 : asz Tryz.prog 71 = some 1 := by kernel_rfl
theorem aby71 : abytes Tryz.prog 71 = some 8 := by kernel_rfl
theorem azc71 : azc Tryz.prog 71 = some ([.nilFunc]) := by kernel_rfl
theorem cof71 : Tryz.prog.cellsOf 71 = 1 := by kernel_rfl
theorem asz72 : asz Tryz.prog 72 = some 1 := by kernel_rfl
theorem aby72 : abytes Tryz.prog 72 = some 8 := by kernel_rfl
theorem azc72 : azc Tryz.prog 72 = some ([.nilFunc]) := by kernel_rfl
theorem cof72 : Tryz.prog.cellsOf 72 = 1 := by kernel_rfl
theorem asz73 : asz Tryz.prog 73 = some 1 := by kernel_rfl
theorem aby73 : abytes Tryz.prog 73 = some 8 := by kernel_rfl
theorem azc73 : azc Tryz.prog 73 = some ([.nilFunc]) := by kernel_rfl
theorem cof73 : Tryz.prog.cellsOf 73 = 1 := by kernel_rfl
theorem asz74 : asz Tryz.prog 74 = some 2 := by kernel_rfl
theorem aby74 : abytes Tryz.prog 74 = some 8 := by kernel_rfl
theorem azc74 : azc Tryz.prog 74 = some ([.int .i32 0, .int .i32 0]) := by kernel_rfl
theorem cof74 : Tryz.prog.cellsOf 74 = 2 := by kernel_rfl
theorem afo74_0 : afo Tryz.prog 74 0 = some 0 := by kernel_rfl
theorem afo74_1 : afo Tryz.prog 74 1 = some 1 := by kernel_rfl
theorem apl74 : aplaces Tryz.prog 74 = some [(0, 1), (1, 1)] := by kernel_rfl
theorem asz75 : asz Tryz.prog 75 = some 2 := by kernel_rfl
theorem aby75 : abytes Tryz.prog 75 = some 8 := by kernel_rfl
theorem azc75 : azc Tryz.prog 75 = some ([.int .i32 0, .int .i32 0]) := by kernel_rfl
theorem cof75 : Tryz.prog.cellsOf 75 = 2 := by kernel_rfl
theorem afo75_0 : afo Tryz.prog 75 0 = some 0 := by kernel_rfl
theorem afo75_1 : afo Tryz.prog 75 1 = some 1 := by kernel_rfl
theorem apl75 : aplaces Tryz.prog 75 = some [(0, 1), (1, 1)] := by kernel_rfl
theorem asz76 : asz Tryz.prog 76 = some 1 := by kernel_rfl
theorem aby76 : abytes Tryz.prog 76 = some 24 := by kernel_rfl
theorem azc76 : azc Tryz.prog 76 = some ([.slice none 0 0]) := by kernel_rfl
theorem cof76 : Tryz.prog.cellsOf 76 = 1 := by kernel_rfl
theorem asz77 : asz Tryz.prog 77 = some 1 := by kernel_rfl
theorem aby77 : abytes Tryz.prog 77 = some 8 := by kernel_rfl
theorem azc77 : azc Tryz.prog 77 = some ([.nilFunc]) := by kernel_rfl
theorem cof77 : Tryz.prog.cellsOf 77 = 1 := by kernel_rfl
theorem asz78 : asz Tryz.prog 78 = some 1 := by kernel_rfl
theorem aby78 : abytes Tryz.prog 78 = some 8 := by kernel_rfl
theorem azc78 : azc Tryz.prog 78 = some ([.nilFunc]) := by kernel_rfl
theorem cof78 : Tryz.prog.cellsOf 78 = 1 := by kernel_rfl
theorem asz79 : asz Tryz.prog 79 = some 1 := by kernel_rfl
theorem aby79 : abytes Tryz.prog 79 = some 8 := by kernel_rfl
theorem azc79 : azc Tryz.prog 79 = some ([.nilFunc]) := by kernel_rfl
theorem cof79 : Tryz.prog.cellsOf 79 = 1 := by kernel_rfl
theorem asz80 : asz Tryz.prog 80 = some 1 := by kernel_rfl
theorem aby80 : abytes Tryz.prog 80 = some 8 := by kernel_rfl
theorem azc80 : azc Tryz.prog 80 = some ([.nilFunc]) := by kernel_rfl
theorem cof80 : Tryz.prog.cellsOf 80 = 1 := by kernel_rfl
theorem asz81 : asz Tryz.prog 81 = some 1 := by kernel_rfl
theorem aby81 : abytes Tryz.prog 81 = some 8 := by kernel_rfl
theorem azc81 : azc Tryz.prog 81 = some ([.nilFunc]) := by kernel_rfl
theorem cof81 : Tryz.prog.cellsOf 81 = 1 := by kernel_rfl
theorem asz82 : asz Tryz.prog 82 = some 2 := by kernel_rfl
theorem aby82 : abytes Tryz.prog 82 = some 24 := by kernel_rfl
theorem azc82 : azc Tryz.prog 82 = some ([.int .i64 0, .string ⟨#[]⟩]) := by kernel_rfl
theorem cof82 : Tryz.prog.cellsOf 82 = 2 := by kernel_rfl
theorem afo82_0 : afo Tryz.prog 82 0 = some 0 := by kernel_rfl
theorem afo82_1 : afo Tryz.prog 82 1 = some 1 := by kernel_rfl
theorem apl82 : aplaces Tryz.prog 82 = some [(0, 1), (1, 1)] := by kernel_rfl
theorem asz83 : asz Tryz.prog 83 = some 2 := by kernel_rfl
theorem aby83 : abytes Tryz.prog 83 = some 24 := by kernel_rfl
theorem azc83 : azc Tryz.prog 83 = some ([.int .i64 0, .string ⟨#[]⟩]) := by kernel_rfl
theorem cof83 : Tryz.prog.cellsOf 83 = 2 := by kernel_rfl
theorem afo83_0 : afo Tryz.prog 83 0 = some 0 := by kernel_rfl
theorem afo83_1 : afo Tryz.prog 83 1 = some 1 := by kernel_rfl
theorem apl83 : aplaces Tryz.prog 83 = some [(0, 1), (1, 1)] := by kernel_rfl
theorem asz84 : asz Tryz.prog 84 = some 1 := by kernel_rfl
theorem aby84 : abytes Tryz.prog 84 = some 8 := by kernel_rfl
theorem azc84 : azc Tryz.prog 84 = some ([.nilFunc]) := by kernel_rfl
theorem cof84 : Tryz.prog.cellsOf 84 = 1 := by kernel_rfl
theorem asz85 : asz Tryz.prog 85 = some 1 := by kernel_rfl
theorem aby85 : abytes Tryz.prog 85 = some 8 := by kernel_rfl
theorem azc85 : azc Tryz.prog 85 = some ([.nilFunc]) := by kernel_rfl
theorem cof85 : Tryz.prog.cellsOf 85 = 1 := by kernel_rfl
theorem asz86 : asz Tryz.prog 86 = some 1 := by kernel_rfl
theorem aby86 : abytes Tryz.prog 86 = some 8 := by kernel_rfl
theorem azc86 : azc Tryz.prog 86 = some ([.nilFunc]) := by kernel_rfl
theorem cof86 : Tryz.prog.cellsOf 86 = 1 := by kernel_rfl
theorem asz87 : asz Tryz.prog 87 = some 1 := by kernel_rfl
theorem aby87 : abytes Tryz.prog 87 = some 8 := by kernel_rfl
theorem azc87 : azc Tryz.prog 87 = some ([.nilFunc]) := by kernel_rfl
theorem cof87 : Tryz.prog.cellsOf 87 = 1 := by kernel_rfl
theorem asz88 : asz Tryz.prog 88 = some 1 := by kernel_rfl
theorem aby88 : abytes Tryz.prog 88 = some 8 := by kernel_rfl
theorem azc88 : azc Tryz.prog 88 = some ([.nilFunc]) := by kernel_rfl
theorem cof88 : Tryz.prog.cellsOf 88 = 1 := by kernel_rfl
theorem asz89 : asz Tryz.prog 89 = some 256 := by kernel_rfl
theorem aby89 : abytes Tryz.prog 89 = some 256 := by kernel_rfl
theorem azc89 : azc Tryz.prog 89 = some (List.replicate 256 (.int .u8 0)) := by kernel_rfl
theorem cof89 : Tryz.prog.cellsOf 89 = 256 := by kernel_rfl
theorem asz90 : asz Tryz.prog 90 = some 1 := by kernel_rfl
theorem aby90 : abytes Tryz.prog 90 = some 8 := by kernel_rfl
theorem azc90 : azc Tryz.prog 90 = some ([.int .u64 0]) := by kernel_rfl
theorem cof90 : Tryz.prog.cellsOf 90 = 1 := by kernel_rfl
theorem asz91 : asz Tryz.prog 91 = some 2 := by kernel_rfl
theorem aby91 : abytes Tryz.prog 91 = some 2 := by kernel_rfl
theorem azc91 : azc Tryz.prog 91 = some ([.int .u8 0, .int .u8 0]) := by kernel_rfl
theorem cof91 : Tryz.prog.cellsOf 91 = 2 := by kernel_rfl
theorem afo91_0 : afo Tryz.prog 91 0 = some 0 := by kernel_rfl
theorem afo91_1 : afo Tryz.prog 91 1 = some 1 := by kernel_rfl
theorem apl91 : aplaces Tryz.prog 91 = some [(0, 1), (1, 1)] := by kernel_rfl
theorem asz92 : asz Tryz.prog 92 = some 2 := by kernel_rfl
theorem aby92 : abytes Tryz.prog 92 = some 2 := by kernel_rfl
theorem azc92 : azc Tryz.prog 92 = some ([.int .u8 0, .int .u8 0]) := by kernel_rfl
theorem cof92 : Tryz.prog.cellsOf 92 = 2 := by kernel_rfl
theorem afo92_0 : afo Tryz.prog 92 0 = some 0 := by kernel_rfl
theorem afo92_1 : afo Tryz.prog 92 1 = some 1 := by kernel_rfl
theorem apl92 : aplaces Tryz.prog 92 = some [(0, 1), (1, 1)] := by kernel_rfl
theorem asz93 : asz Tryz.prog 93 = some 32 := by kernel_rfl
theorem aby93 : abytes Tryz.prog 93 = some 32 := by kernel_rfl
theorem azc93 : azc Tryz.prog 93 = some (List.replicate 32 (.int .u8 0)) := by kernel_rfl
theorem cof93 : Tryz.prog.cellsOf 93 = 32 := by kernel_rfl
theorem asz94 : asz Tryz.prog 94 = some 1 := by kernel_rfl
theorem aby94 : abytes Tryz.prog 94 = some 8 := by kernel_rfl
theorem azc94 : azc Tryz.prog 94 = some ([.nilFunc]) := by kernel_rfl
theorem cof94 : Tryz.prog.cellsOf 94 = 1 := by kernel_rfl
theorem asz95 : asz Tryz.prog 95 = some 1 := by kernel_rfl
theorem aby95 : abytes Tryz.prog 95 = some 8 := by kernel_rfl
theorem azc95 : azc Tryz.prog 95 = some ([.nilFunc]) := by kernel_rfl
theorem cof95 : Tryz.prog.cellsOf 95 = 1 := by kernel_rfl
theorem asz96 : asz Tryz.prog 96 = some 1 := by kernel_rfl
theorem aby96 : abytes Tryz.prog 96 = some 8 := by kernel_rfl
theorem azc96 : azc Tryz.prog 96 = some ([.pointer none]) := by kernel_rfl
theorem cof96 : Tryz.prog.cellsOf 96 = 1 := by kernel_rfl
theorem asz97 : asz Tryz.prog 97 = some 2 := by kernel_rfl
theorem aby97 : abytes Tryz.prog 97 = some 32 := by kernel_rfl
theorem azc97 : azc Tryz.prog 97 = some ([.pointer none, .slice none 0 0]) := by kernel_rfl
theorem cof97 : Tryz.prog.cellsOf 97 = 2 := by kernel_rfl
theorem afo97_0 : afo Tryz.prog 97 0 = some 0 := by kernel_rfl
theorem afo97_1 : afo Tryz.prog 97 1 = some 1 := by kernel_rfl
theorem apl97 : aplaces Tryz.prog 97 = some [(0, 1), (1, 1)] := by kernel_rfl
theorem asz98 : asz Tryz.prog 98 = some 2 := by kernel_rfl
theorem aby98 : abytes Tryz.prog 98 = some 32 := by kernel_rfl
theorem azc98 : azc Tryz.prog 98 = some ([.pointer none, .slice none 0 0]) := by kernel_rfl
theorem cof98 : Tryz.prog.cellsOf 98 = 2 := by kernel_rfl
theorem afo98_0 : afo Tryz.prog 98 0 = some 0 := by kernel_rfl
theorem afo98_1 : afo Tryz.prog 98 1 = some 1 := by kernel_rfl
theorem apl98 : aplaces Tryz.prog 98 = some [(0, 1), (1, 1)] := by kernel_rfl
theorem asz99 : asz Tryz.prog 99 = some 1 := by kernel_rfl
theorem aby99 : abytes Tryz.prog 99 = some 8 := by kernel_rfl
theorem azc99 : azc Tryz.prog 99 = some ([.nilFunc]) := by kernel_rfl
theorem cof99 : Tryz.prog.cellsOf 99 = 1 := by kernel_rfl
theorem asz100 : asz Tryz.prog 100 = some 1 := by kernel_rfl
theorem aby100 : abytes Tryz.prog 100 = some 16 := by kernel_rfl
theorem azc100 : azc Tryz.prog 100 = some ([.nilIface]) := by kernel_rfl
theorem cof100 : Tryz.prog.cellsOf 100 = 1 := by kernel_rfl
theorem asz103 : asz Tryz.prog 103 = some 1 := by kernel_rfl
theorem aby103 : abytes Tryz.prog 103 = some 8 := by kernel_rfl
theorem azc103 : azc Tryz.prog 103 = some ([.nilFunc]) := by kernel_rfl
theorem cof103 : Tryz.prog.cellsOf 103 = 1 := by kernel_rfl
theorem asz104 : asz Tryz.prog 104 = some 1 := by kernel_rfl
theorem aby104 : abytes Tryz.prog 104 = some 8 := by kernel_rfl
theorem azc104 : azc Tryz.prog 104 = some ([.nilFunc]) := by kernel_rfl
theorem cof104 : Tryz.prog.cellsOf 104 = 1 := by kernel_rfl
theorem asz105 : asz Tryz.prog 105 = some 1 := by kernel_rfl
theorem aby105 : abytes Tryz.prog 105 = some 8 := by kernel_rfl
theorem azc105 : azc Tryz.prog 105 = some ([.nilFunc]) := by kernel_rfl
theorem cof105 : Tryz.prog.cellsOf 105 = 1 := by kernel_rfl
theorem asz107 : asz Tryz.prog 107 = some 1 := by kernel_rfl
theorem aby107 : abytes Tryz.prog 107 = some 8 := by kernel_rfl
theorem azc107 : azc Tryz.prog 107 = some ([.nilFunc]) := by kernel_rfl
theorem cof107 : Tryz.prog.cellsOf 107 = 1 := by kernel_rfl
theorem asz108 : asz Tryz.prog 108 = some 1 := by kernel_rfl
theorem aby108 : abytes Tryz.prog 108 = some 8 := by kernel_rfl
theorem azc108 : azc Tryz.prog 108 = some ([.nilFunc]) := by kernel_rfl
theorem cof108 : Tryz.prog.cellsOf 108 = 1 := by kernel_rfl
theorem asz109 : asz Tryz.prog 109 = some 1 := by kernel_rfl
theorem aby109 : abytes Tryz.prog 109 = some 8 := by kernel_rfl
theorem azc109 : azc Tryz.prog 109 = some ([.pointer none]) := by kernel_rfl
theorem cof109 : Tryz.prog.cellsOf 109 = 1 := by kernel_rfl
theorem asz110 : asz Tryz.prog 110 = some 1 := by kernel_rfl
theorem aby110 : abytes Tryz.prog 110 = some 8 := by kernel_rfl
theorem azc110 : azc Tryz.prog 110 = some ([.nilFunc]) := by kernel_rfl
theorem cof110 : Tryz.prog.cellsOf 110 = 1 := by kernel_rfl
theorem asz111 : asz Tryz.prog 111 = some 1 := by kernel_rfl
theorem aby111 : abytes Tryz.prog 111 = some 8 := by kernel_rfl
theorem azc111 : azc Tryz.prog 111 = some ([.nilFunc]) := by kernel_rfl
theorem cof111 : Tryz.prog.cellsOf 111 = 1 := by kernel_rfl
theorem asz112 : asz Tryz.prog 112 = some 1 := by kernel_rfl
theorem aby112 : abytes Tryz.prog 112 = some 8 := by kernel_rfl
theorem azc112 : azc Tryz.prog 112 = some ([.nilFunc]) := by kernel_rfl
theorem cof112 : Tryz.prog.cellsOf 112 = 1 := by kernel_rfl
theorem asz113 : asz Tryz.prog 113 = some 1 := by kernel_rfl
theorem aby113 : abytes Tryz.prog 113 = some 8 := by kernel_rfl
theorem azc113 : azc Tryz.prog 113 = some ([.nilFunc]) := by kernel_rfl
theorem cof113 : Tryz.prog.cellsOf 113 = 1 := by kernel_rfl
theorem asz114 : asz Tryz.prog 114 = some 256 := by kernel_rfl
theorem aby114 : abytes Tryz.prog 114 = some 256 := by kernel_rfl
theorem azc114 : azc Tryz.prog 114 = some (List.replicate 256 (.bool false)) := by kernel_rfl
theorem cof114 : Tryz.prog.cellsOf 114 = 256 := by kernel_rfl
theorem asz115 : asz Tryz.prog 115 = some 256 := by kernel_rfl
theorem aby115 : abytes Tryz.prog 115 = some 256 := by kernel_rfl
theorem azc115 : azc Tryz.prog 115 = some (List.replicate 256 (.bool false)) := by kernel_rfl
theorem cof115 : Tryz.prog.cellsOf 115 = 256 := by kernel_rfl
theorem asz117 : asz Tryz.prog 117 = some 1 := by kernel_rfl
theorem aby117 : abytes Tryz.prog 117 = some 8 := by kernel_rfl
theorem azc117 : azc Tryz.prog 117 = some ([.nilFunc]) := by kernel_rfl
theorem cof117 : Tryz.prog.cellsOf 117 = 1 := by kernel_rfl
theorem asz118 : asz Tryz.prog 118 = some 1 := by kernel_rfl
theorem aby118 : abytes Tryz.prog 118 = some 8 := by kernel_rfl
theorem azc118 : azc Tryz.prog 118 = some ([.nilFunc]) := by kernel_rfl
theorem cof118 : Tryz.prog.cellsOf 118 = 1 := by kernel_rfl
theorem asz119 : asz Tryz.prog 119 = some 1 := by kernel_rfl
theorem aby119 : abytes Tryz.prog 119 = some 8 := by kernel_rfl
theorem azc119 : azc Tryz.prog 119 = some ([.pointer none]) := by kernel_rfl
theorem cof119 : Tryz.prog.cellsOf 119 = 1 := by kernel_rfl
theorem asz120 : asz Tryz.prog 120 = some 1 := by kernel_rfl
theorem aby120 : abytes Tryz.prog 120 = some 8 := by kernel_rfl
theorem azc120 : azc Tryz.prog 120 = some ([.nilFunc]) := by kernel_rfl
theorem cof120 : Tryz.prog.cellsOf 120 = 1 := by kernel_rfl
theorem asz121 : asz Tryz.prog 121 = some 1 := by kernel_rfl
theorem aby121 : abytes Tryz.prog 121 = some 8 := by kernel_rfl
theorem azc121 : azc Tryz.prog 121 = some ([.nilFunc]) := by kernel_rfl
theorem cof121 : Tryz.prog.cellsOf 121 = 1 := by kernel_rfl
theorem asz122 : asz Tryz.prog 122 = some 1 := by kernel_rfl
theorem aby122 : abytes Tryz.prog 122 = some 8 := by kernel_rfl
theorem azc122 : azc Tryz.prog 122 = some ([.pointer none]) := by kernel_rfl
theorem cof122 : Tryz.prog.cellsOf 122 = 1 := by kernel_rfl
theorem asz123 : asz Tryz.prog 123 = some 1 := by kernel_rfl
theorem aby123 : abytes Tryz.prog 123 = some 8 := by kernel_rfl
theorem azc123 : azc Tryz.prog 123 = some ([.nilFunc]) := by kernel_rfl
theorem cof123 : Tryz.prog.cellsOf 123 = 1 := by kernel_rfl
theorem asz124 : asz Tryz.prog 124 = some 1 := by kernel_rfl
theorem aby124 : abytes Tryz.prog 124 = some 8 := by kernel_rfl
theorem azc124 : azc Tryz.prog 124 = some ([.nilFunc]) := by kernel_rfl
theorem cof124 : Tryz.prog.cellsOf 124 = 1 := by kernel_rfl
theorem asz125 : asz Tryz.prog 125 = some 1 := by kernel_rfl
theorem aby125 : abytes Tryz.prog 125 = some 8 := by kernel_rfl
theorem azc125 : azc Tryz.prog 125 = some ([.nilFunc]) := by kernel_rfl
theorem cof125 : Tryz.prog.cellsOf 125 = 1 := by kernel_rfl
theorem asz126 : asz Tryz.prog 126 = some 1 := by kernel_rfl
theorem aby126 : abytes Tryz.prog 126 = some 8 := by kernel_rfl
theorem azc126 : azc Tryz.prog 126 = some ([.nilFunc]) := by kernel_rfl
theorem cof126 : Tryz.prog.cellsOf 126 = 1 := by kernel_rfl
theorem asz127 : asz Tryz.prog 127 = some 1 := by kernel_rfl
theorem aby127 : abytes Tryz.prog 127 = some 8 := by kernel_rfl
theorem azc127 : azc Tryz.prog 127 = some ([.nilFunc]) := by kernel_rfl
theorem cof127 : Tryz.prog.cellsOf 127 = 1 := by kernel_rfl
theorem asz128 : asz Tryz.prog 128 = some 1 := by kernel_rfl
theorem aby128 : abytes Tryz.prog 128 = some 8 := by kernel_rfl
theorem azc128 : azc Tryz.prog 128 = some ([.nilFunc]) := by kernel_rfl
theorem cof128 : Tryz.prog.cellsOf 128 = 1 := by kernel_rfl
theorem asz129 : asz Tryz.prog 129 = some 1 := by kernel_rfl
theorem aby129 : abytes Tryz.prog 129 = some 8 := by kernel_rfl
theorem azc129 : azc Tryz.prog 129 = some ([.nilFunc]) := by kernel_rfl
theorem cof129 : Tryz.prog.cellsOf 129 = 1 := by kernel_rfl
theorem asz130 : asz Tryz.prog 130 = some 1 := by kernel_rfl
theorem aby130 : abytes Tryz.prog 130 = some 8 := by kernel_rfl
theorem azc130 : azc Tryz.prog 130 = some ([.nilFunc]) := by kernel_rfl
theorem cof130 : Tryz.prog.cellsOf 130 = 1 := by kernel_rfl
theorem asz131 : asz Tryz.prog 131 = some 1 := by kernel_rfl
theorem aby131 : abytes Tryz.prog 131 = some 8 := by kernel_rfl
theorem azc131 : azc Tryz.prog 131 = some ([.nilFunc]) := by kernel_rfl
theorem cof131 : Tryz.prog.cellsOf 131 = 1 := by kernel_rfl
theorem asz132 : asz Tryz.prog 132 = some 1 := by kernel_rfl
theorem aby132 : abytes Tryz.prog 132 = some 8 := by kernel_rfl
theorem azc132 : azc Tryz.prog 132 = some ([.nilFunc]) := by kernel_rfl
theorem cof132 : Tryz.prog.cellsOf 132 = 1 := by kernel_rfl
theorem asz133 : asz Tryz.prog 133 = some 1 := by kernel_rfl
theorem aby133 : abytes Tryz.prog 133 = some 8 := by kernel_rfl
theorem azc133 : azc Tryz.prog 133 = some ([.nilFunc]) := by kernel_rfl
theorem cof133 : Tryz.prog.cellsOf 133 = 1 := by kernel_rfl
theorem asz135 : asz Tryz.prog 135 = some 1 := by kernel_rfl
theorem aby135 : abytes Tryz.prog 135 = some 8 := by kernel_rfl
theorem azc135 : azc Tryz.prog 135 = some ([.nilFunc]) := by kernel_rfl
theorem cof135 : Tryz.prog.cellsOf 135 = 1 := by kernel_rfl
theorem asz136 : asz Tryz.prog 136 = some 1 := by kernel_rfl
theorem aby136 : abytes Tryz.prog 136 = some 8 := by kernel_rfl
theorem azc136 : azc Tryz.prog 136 = some ([.nilFunc]) := by kernel_rfl
theorem cof136 : Tryz.prog.cellsOf 136 = 1 := by kernel_rfl
theorem asz137 : asz Tryz.prog 137 = some 1 := by kernel_rfl
theorem aby137 : abytes Tryz.prog 137 = some 8 := by kernel_rfl
theorem azc137 : azc Tryz.prog 137 = some ([.nilFunc]) := by kernel_rfl
theorem cof137 : Tryz.prog.cellsOf 137 = 1 := by kernel_rfl
theorem asz138 : asz Tryz.prog 138 = some 1 := by kernel_rfl
theorem aby138 : abytes Tryz.prog 138 = some 8 := by kernel_rfl
theorem azc138 : azc Tryz.prog 138 = some ([.nilFunc]) := by kernel_rfl
theorem cof138 : Tryz.prog.cellsOf 138 = 1 := by kernel_rfl
theorem asz139 : asz Tryz.prog 139 = some 1 := by kernel_rfl
theorem aby139 : abytes Tryz.prog 139 = some 8 := by kernel_rfl
theorem azc139 : azc Tryz.prog 139 = some ([.int .i64 0]) := by kernel_rfl
theorem cof139 : Tryz.prog.cellsOf 139 = 1 := by kernel_rfl
theorem asz141 : asz Tryz.prog 141 = some 1 := by kernel_rfl
theorem aby141 : abytes Tryz.prog 141 = some 8 := by kernel_rfl
theorem azc141 : azc Tryz.prog 141 = some ([.nilFunc]) := by kernel_rfl
theorem cof141 : Tryz.prog.cellsOf 141 = 1 := by kernel_rfl
theorem asz142 : asz Tryz.prog 142 = some 1 := by kernel_rfl
theorem aby142 : abytes Tryz.prog 142 = some 8 := by kernel_rfl
theorem azc142 : azc Tryz.prog 142 = some ([.nilFunc]) := by kernel_rfl
theorem cof142 : Tryz.prog.cellsOf 142 = 1 := by kernel_rfl
theorem asz143 : asz Tryz.prog 143 = some 1 := by kernel_rfl
theorem aby143 : abytes Tryz.prog 143 = some 8 := by kernel_rfl
theorem azc143 : azc Tryz.prog 143 = some ([.nilFunc]) := by kernel_rfl
theorem cof143 : Tryz.prog.cellsOf 143 = 1 := by kernel_rfl
theorem asz145 : asz Tryz.prog 145 = some 1 := by kernel_rfl
theorem aby145 : abytes Tryz.prog 145 = some 8 := by kernel_rfl
theorem azc145 : azc Tryz.prog 145 = some ([.nilFunc]) := by kernel_rfl
theorem cof145 : Tryz.prog.cellsOf 145 = 1 := by kernel_rfl
theorem asz146 : asz Tryz.prog 146 = some 1 := by kernel_rfl
theorem aby146 : abytes Tryz.prog 146 = some 8 := by kernel_rfl
theorem azc146 : azc Tryz.prog 146 = some ([.nilFunc]) := by kernel_rfl
theorem cof146 : Tryz.prog.cellsOf 146 = 1 := by kernel_rfl
theorem asz147 : asz Tryz.prog 147 = some 1 := by kernel_rfl
theorem aby147 : abytes Tryz.prog 147 = some 4 := by kernel_rfl
theorem azc147 : azc Tryz.prog 147 = some ([.int .u32 0]) := by kernel_rfl
theorem cof147 : Tryz.prog.cellsOf 147 = 1 := by kernel_rfl
theorem asz148 : asz Tryz.prog 148 = some 1 := by kernel_rfl
theorem aby148 : abytes Tryz.prog 148 = some 8 := by kernel_rfl
theorem azc148 : azc Tryz.prog 148 = some ([.nilFunc]) := by kernel_rfl
theorem cof148 : Tryz.prog.cellsOf 148 = 1 := by kernel_rfl
theorem asz149 : asz Tryz.prog 149 = some 1 := by kernel_rfl
theorem aby149 : abytes Tryz.prog 149 = some 8 := by kernel_rfl
theorem azc149 : azc Tryz.prog 149 = some ([.int .u64 0]) := by kernel_rfl
theorem cof149 : Tryz.prog.cellsOf 149 = 1 := by kernel_rfl
theorem asz150 : asz Tryz.prog 150 = some 1 := by kernel_rfl
theorem aby150 : abytes Tryz.prog 150 = some 8 := by kernel_rfl
theorem azc150 : azc Tryz.prog 150 = some ([.nilFunc]) := by kernel_rfl
theorem cof150 : Tryz.prog.cellsOf 150 = 1 := by kernel_rfl
theorem asz151 : asz Tryz.prog 151 = some 1 := by kernel_rfl
theorem aby151 : abytes Tryz.prog 151 = some 8 := by kernel_rfl
theorem azc151 : azc Tryz.prog 151 = some ([.nilFunc]) := by kernel_rfl
theorem cof151 : Tryz.prog.cellsOf 151 = 1 := by kernel_rfl
theorem asz152 : asz Tryz.prog 152 = some 1 := by kernel_rfl
theorem aby152 : abytes Tryz.prog 152 = some 8 := by kernel_rfl
theorem azc152 : azc Tryz.prog 152 = some ([.nilFunc]) := by kernel_rfl
theorem cof152 : Tryz.prog.cellsOf 152 = 1 := by kernel_rfl
theorem asz154 : asz Tryz.prog 154 = some 1 := by kernel_rfl
theorem aby154 : abytes Tryz.prog 154 = some 8 := by kernel_rfl
theorem azc154 : azc Tryz.prog 154 = some ([.nilFunc]) := by kernel_rfl
theorem cof154 : Tryz.prog.cellsOf 154 = 1 := by kernel_rfl
theorem asz155 : asz Tryz.prog 155 = some 1 := by kernel_rfl
theorem aby155 : abytes Tryz.prog 155 = some 8 := by kernel_rfl
theorem azc155 : azc Tryz.prog 155 = some ([.int .u64 0]) := by kernel_rfl
theorem cof155 : Tryz.prog.cellsOf 155 = 1 := by kernel_rfl
theorem asz156 : asz Tryz.prog 156 = some 1 := by kernel_rfl
theorem aby156 : abytes Tryz.prog 156 = some 8 := by kernel_rfl
theorem azc156 : azc Tryz.prog 156 = some ([.nilFunc]) := by kernel_rfl
theorem cof156 : Tryz.prog.cellsOf 156 = 1 := by kernel_rfl
theorem asz157 : asz Tryz.prog 157 = some 1 := by kernel_rfl
theorem aby157 : abytes Tryz.prog 157 = some 8 := by kernel_rfl
theorem azc157 : azc Tryz.prog 157 = some ([.nilFunc]) := by kernel_rfl
theorem cof157 : Tryz.prog.cellsOf 157 = 1 := by kernel_rfl
theorem asz158 : asz Tryz.prog 158 = some 1 := by kernel_rfl
theorem aby158 : abytes Tryz.prog 158 = some 8 := by kernel_rfl
theorem azc158 : azc Tryz.prog 158 = some ([.nilFunc]) := by kernel_rfl
theorem cof158 : Tryz.prog.cellsOf 158 = 1 := by kernel_rfl
theorem asz159 : asz Tryz.prog 159 = some 1 := by kernel_rfl
theorem aby159 : abytes Tryz.prog 159 = some 8 := by kernel_rfl
theorem azc159 : azc Tryz.prog 159 = some ([.pointer none]) := by kernel_rfl
theorem cof159 : Tryz.prog.cellsOf 159 = 1 := by kernel_rfl
theorem asz160 : asz Tryz.prog 160 = some 1 := by kernel_rfl
theorem aby160 : abytes Tryz.prog 160 = some 8 := by kernel_rfl
theorem azc160 : azc Tryz.prog 160 = some ([.nilFunc]) := by kernel_rfl
theorem cof160 : Tryz.prog.cellsOf 160 = 1 := by kernel_rfl
theorem asz161 : asz Tryz.prog 161 = some 1 := by kernel_rfl
theorem aby161 : abytes Tryz.prog 161 = some 8 := by kernel_rfl
theorem azc161 : azc Tryz.prog 161 = some ([.pointer none]) := by kernel_rfl
theorem cof161 : Tryz.prog.cellsOf 161 = 1 := by kernel_rfl
theorem asz162 : asz Tryz.prog 162 = some 1 := by kernel_rfl
theorem aby162 : abytes Tryz.prog 162 = some 8 := by kernel_rfl
theorem azc162 : azc Tryz.prog 162 = some ([.nilFunc]) := by kernel_rfl
theorem cof162 : Tryz.prog.cellsOf 162 = 1 := by kernel_rfl
theorem asz163 : asz Tryz.prog 163 = some 4 := by kernel_rfl
theorem aby163 : abytes Tryz.prog 163 = some 40 := by kernel_rfl
theorem azc163 : azc Tryz.prog 163 = some ([.pointer none, .pointer none, .pointer none, .string ⟨#[]⟩]) := by kernel_rfl
theorem cof163 : Tryz.prog.cellsOf 163 = 4 := by kernel_rfl
theorem afo163_0 : afo Tryz.prog 163 0 = some 0 := by kernel_rfl
theorem afo163_1 : afo Tryz.prog 163 1 = some 1 := by kernel_rfl
theorem afo163_2 : afo Tryz.prog 163 2 = some 2 := by kernel_rfl
theorem afo163_3 : afo Tryz.prog 163 3 = some 3 := by kernel_rfl
theorem apl163 : aplaces Tryz.prog 163 = some [(0, 1), (1, 1), (2, 1), (3, 1)] := by kernel_rfl
theorem asz164 : asz Tryz.prog 164 = some 4 := by kernel_rfl
theorem aby164 : abytes Tryz.prog 164 = some 40 := by kernel_rfl
theorem azc164 : azc Tryz.prog 164 = some ([.pointer none, .pointer none, .pointer none, .string ⟨#[]⟩]) := by kernel_rfl
theorem cof164 : Tryz.prog.cellsOf 164 = 4 := by kernel_rfl
theorem afo164_0 : afo Tryz.prog 164 0 = some 0 := by kernel_rfl
theorem afo164_1 : afo Tryz.prog 164 1 = some 1 := by kernel_rfl
theorem afo164_2 : afo Tryz.prog 164 2 = some 2 := by kernel_rfl
theorem afo164_3 : afo Tryz.prog 164 3 = some 3 := by kernel_rfl
theorem apl164 : aplaces Tryz.prog 164 = some [(0, 1), (1, 1), (2, 1), (3, 1)] := by kernel_rfl
theorem asz165 : asz Tryz.prog 165 = some 0 := by kernel_rfl
theorem aby165 : abytes Tryz.prog 165 = some 0 := by kernel_rfl
theorem azc165 : azc Tryz.prog 165 = some ([]) := by kernel_rfl
theorem cof165 : Tryz.prog.cellsOf 165 = 0 := by kernel_rfl
theorem asz166 : asz Tryz.prog 166 = some 0 := by kernel_rfl
theorem aby166 : abytes Tryz.prog 166 = some 0 := by kernel_rfl
theorem azc166 : azc Tryz.prog 166 = some ([]) := by kernel_rfl
theorem cof166 : Tryz.prog.cellsOf 166 = 0 := by kernel_rfl
theorem apl166 : aplaces Tryz.prog 166 = some [(0, 0)] := by kernel_rfl
theorem asz167 : asz Tryz.prog 167 = some 0 := by kernel_rfl
theorem aby167 : abytes Tryz.prog 167 = some 0 := by kernel_rfl
theorem azc167 : azc Tryz.prog 167 = some ([]) := by kernel_rfl
theorem cof167 : Tryz.prog.cellsOf 167 = 0 := by kernel_rfl
theorem apl167 : aplaces Tryz.prog 167 = some [(0, 0)] := by kernel_rfl
theorem asz168 : asz Tryz.prog 168 = some 1 := by kernel_rfl
theorem aby168 : abytes Tryz.prog 168 = some 8 := by kernel_rfl
theorem azc168 : azc Tryz.prog 168 = some ([.nilFunc]) := by kernel_rfl
theorem cof168 : Tryz.prog.cellsOf 168 = 1 := by kernel_rfl
theorem asz169 : asz Tryz.prog 169 = some 1 := by kernel_rfl
theorem aby169 : abytes Tryz.prog 169 = some 1 := by kernel_rfl
theorem azc169 : azc Tryz.prog 169 = some ([.int .u8 0]) := by kernel_rfl
theorem cof169 : Tryz.prog.cellsOf 169 = 1 := by kernel_rfl
theorem asz170 : asz Tryz.prog 170 = some 1 := by kernel_rfl
theorem aby170 : abytes Tryz.prog 170 = some 1 := by kernel_rfl
theorem azc170 : azc Tryz.prog 170 = some ([.int .u8 0]) := by kernel_rfl
theorem cof170 : Tryz.prog.cellsOf 170 = 1 := by kernel_rfl
theorem asz171 : asz Tryz.prog 171 = some 1 := by kernel_rfl
theorem aby171 : abytes Tryz.prog 171 = some 8 := by kernel_rfl
theorem azc171 : azc Tryz.prog 171 = some ([.nilFunc]) := by kernel_rfl
theorem cof171 : Tryz.prog.cellsOf 171 = 1 := by kernel_rfl
theorem asz172 : asz Tryz.prog 172 = some 1 := by kernel_rfl
theorem aby172 : abytes Tryz.prog 172 = some 4 := by kernel_rfl
theorem azc172 : azc Tryz.prog 172 = some ([.int .i32 0]) := by kernel_rfl
theorem cof172 : Tryz.prog.cellsOf 172 = 1 := by kernel_rfl
theorem asz173 : asz Tryz.prog 173 = some 1 := by kernel_rfl
theorem aby173 : abytes Tryz.prog 173 = some 4 := by kernel_rfl
theorem azc173 : azc Tryz.prog 173 = some ([.int .i32 0]) := by kernel_rfl
theorem cof173 : Tryz.prog.cellsOf 173 = 1 := by kernel_rfl
theorem asz174 : asz Tryz.prog 174 = some 11 := by kernel_rfl
theorem aby174 : abytes Tryz.prog 174 = some 48 := by kernel_rfl
theorem azc174 : azc Tryz.prog 174 = some ([.int .u64 0, .int .u64 0, .int .u32 0, .int .u8 0, .int .u8 0, .int .u8 0, .int .u8 0, .nilFunc, .pointer none, .int .i32 0, .int .i32 0]) := by kernel_rfl
theorem cof174 : Tryz.prog.cellsOf 174 = 11 := by kernel_rfl
theorem afo174_0 : afo Tryz.prog 174 0 = some 0 := by kernel_rfl
theorem afo174_1 : afo Tryz.prog 174 1 = some 1 := by kernel_rfl
theorem afo174_2 : afo Tryz.prog 174 2 = some 2 := by kernel_rfl
theorem afo174_3 : afo Tryz.prog 174 3 = some 3 := by kernel_rfl
theorem afo174_4 : afo Tryz.prog 174 4 = some 4 := by kernel_rfl
theorem afo174_5 : afo Tryz.prog 174 5 = some 5 := by kernel_rfl
theorem afo174_6 : afo Tryz.prog 174 6 = some 6 := by kernel_rfl
theorem afo174_7 : afo Tryz.prog 174 7 = some 7 := by kernel_rfl
theorem afo174_8 : afo Tryz.prog 174 8 = some 8 := by kernel_rfl
theorem afo174_9 : afo Tryz.prog 174 9 = some 9 := by kernel_rfl
theorem afo174_10 : afo Tryz.prog 174 10 = some 10 := by kernel_rfl
theorem apl174 : aplaces Tryz.prog 174 = some [(0, 1), (1, 1), (2, 1), (3, 1), (4, 1), (5, 1), (6, 1), (7, 1), (8, 1), (9, 1), (10, 1)] := by kernel_rfl
theorem asz175 : asz Tryz.prog 175 = some 11 := by kernel_rfl
theorem aby175 : abytes Tryz.prog 175 = some 48 := by kernel_rfl
theorem azc175 : azc Tryz.prog 175 = some ([.int .u64 0, .int .u64 0, .int .u32 0, .int .u8 0, .int .u8 0, .int .u8 0, .int .u8 0, .nilFunc, .pointer none, .int .i32 0, .int .i32 0]) := by kernel_rfl
theorem cof175 : Tryz.prog.cellsOf 175 = 11 := by kernel_rfl
theorem afo175_0 : afo Tryz.prog 175 0 = some 0 := by kernel_rfl
theorem afo175_1 : afo Tryz.prog 175 1 = some 1 := by kernel_rfl
theorem afo175_2 : afo Tryz.prog 175 2 = some 2 := by kernel_rfl
theorem afo175_3 : afo Tryz.prog 175 3 = some 3 := by kernel_rfl
theorem afo175_4 : afo Tryz.prog 175 4 = some 4 := by kernel_rfl
theorem afo175_5 : afo Tryz.prog 175 5 = some 5 := by kernel_rfl
theorem afo175_6 : afo Tryz.prog 175 6 = some 6 := by kernel_rfl
theorem afo175_7 : afo Tryz.prog 175 7 = some 7 := by kernel_rfl
theorem afo175_8 : afo Tryz.prog 175 8 = some 8 := by kernel_rfl
theorem afo175_9 : afo Tryz.prog 175 9 = some 9 := by kernel_rfl
theorem afo175_10 : afo Tryz.prog 175 10 = some 10 := by kernel_rfl
theorem apl175 : aplaces Tryz.prog 175 = some [(0, 1), (1, 1), (2, 1), (3, 1), (4, 1), (5, 1), (6, 1), (7, 1), (8, 1), (9, 1), (10, 1)] := by kernel_rfl
noncomputable def C (base : Nat) (w0 : World) (G : Nat) : Cx := ⟨Tryz.prog, base, w0, G, fun _ => false, fun _ => false⟩
theorem C_ex (base : Nat) (w0 : World) (G : Nat) (t : TypeId) : (C base w0 G).ex t = (false) := (rfl)
theorem C_P (base : Nat) (w0 : World) (G : Nat) : (C base w0 G).P = Tryz.prog := (rfl)
theorem C_G (base : Nat) (w0 : World) (G : Nat) : (C base w0 G).G = G := (rfl)
theorem mixed : Tryz.prog.follows .mixedOrders = true := by kernel_rfl
end Go.Proofs.YtohgmkjhbacmpaaGreatDoor
