/- What the types are: closed facts, by a program. -/
import Derived.Test.YtjkmcnhofpnoeaaDoorAbsU
import Derived.Test.YtjkmcnhofpnoeaaDoorRows
import Derived.KernelRfl
namespace Go.Proofs.YtjkmcnhofpnoeaaDoor
open Go.Abs
theorem asz1 : asz Tryd.prog 1 = some 1 := by kernel_rfl
theorem aby1 : abytes Tryd.prog 1 = some 8 := by kernel_rfl
theorem azc1 : azc Tryd.prog 1 = some ([.nilFunc]) := by kernel_rfl
theorem cof1 : Tryd.prog.cellsOf 1 = 1 := by kernel_rfl
theorem asz2 : asz Tryd.prog 2 = some 1 := by kernel_rfl
theorem aby2 : abytes Tryd.prog 2 = some 8 := by kernel_rfl
theorem azc2 : azc Tryd.prog 2 = some ([.int .i64 0]) := by kernel_rfl
theorem cof2 : Tryd.prog.cellsOf 2 = 1 := by kernel_rfl
theorem asz3 : asz Tryd.prog 3 = some 1 := by kernel_rfl
theorem aby3 : abytes Tryd.prog 3 = some 8 := by kernel_rfl
theorem azc3 : azc Tryd.prog 3 = some ([.int .i64 0]) := by kernel_rfl
theorem cof3 : Tryd.prog.cellsOf 3 = 1 := by kernel_rfl
theorem asz4 : asz Tryd.prog 4 = some 1 := by kernel_rfl
theorem aby4 : abytes Tryd.prog 4 = some 1 := by kernel_rfl
theorem azc4 : azc Tryd.prog 4 = some ([.bool false]) := by kernel_rfl
theorem cof4 : Tryd.prog.cellsOf 4 = 1 := by kernel_rfl
theorem asz5 : asz Tryd.prog 5 = some 1 := by kernel_rfl
theorem aby5 : abytes Tryd.prog 5 = some 1 := by kernel_rfl
theorem azc5 : azc Tryd.prog 5 = some ([.int .u8 0]) := by kernel_rfl
theorem cof5 : Tryd.prog.cellsOf 5 = 1 := by kernel_rfl
theorem asz6 : asz Tryd.prog 6 = some 1 := by kernel_rfl
theorem aby6 : abytes Tryd.prog 6 = some 1 := by kernel_rfl
theorem azc6 : azc Tryd.prog 6 = some ([.int .u8 0]) := by kernel_rfl
theorem cof6 : Tryd.prog.cellsOf 6 = 1 := by kernel_rfl
theorem asz7 : asz Tryd.prog 7 = some 4 := by kernel_rfl
theorem aby7 : abytes Tryd.prog 7 = some 24 := by kernel_rfl
theorem azc7 : azc Tryd.prog 7 = some ([.int .i64 0, .int .i64 0, .bool false, .int .u8 0]) := by kernel_rfl
theorem cof7 : Tryd.prog.cellsOf 7 = 4 := by kernel_rfl
theorem afo7_0 : afo Tryd.prog 7 0 = some 0 := by kernel_rfl
theorem afo7_1 : afo Tryd.prog 7 1 = some 1 := by kernel_rfl
theorem afo7_2 : afo Tryd.prog 7 2 = some 2 := by kernel_rfl
theorem afo7_3 : afo Tryd.prog 7 3 = some 3 := by kernel_rfl
theorem apl7 : aplaces Tryd.prog 7 = some [(0, 1), (1, 1), (2, 1), (3, 1)] := by kernel_rfl
theorem asz8 : asz Tryd.prog 8 = some 4 := by kernel_rfl
theorem aby8 : abytes Tryd.prog 8 = some 24 := by kernel_rfl
theorem azc8 : azc Tryd.prog 8 = some ([.int .i64 0, .int .i64 0, .bool false, .int .u8 0]) := by kernel_rfl
theorem cof8 : Tryd.prog.cellsOf 8 = 4 := by kernel_rfl
theorem afo8_0 : afo Tryd.prog 8 0 = some 0 := by kernel_rfl
theorem afo8_1 : afo Tryd.prog 8 1 = some 1 := by kernel_rfl
theorem afo8_2 : afo Tryd.prog 8 2 = some 2 := by kernel_rfl
theorem afo8_3 : afo Tryd.prog 8 3 = some 3 := by kernel_rfl
theorem apl8 : aplaces Tryd.prog 8 = some [(0, 1), (1, 1), (2, 1), (3, 1)] := by kernel_rfl
theorem asz9 : asz Tryd.prog 9 = some 1 := by kernel_rfl
theorem aby9 : abytes Tryd.prog 9 = some 16 := by kernel_rfl
theorem azc9 : azc Tryd.prog 9 = some ([.string ⟨#[]⟩]) := by kernel_rfl
theorem cof9 : Tryd.prog.cellsOf 9 = 1 := by kernel_rfl
theorem asz10 : asz Tryd.prog 10 = some 1 := by kernel_rfl
theorem aby10 : abytes Tryd.prog 10 = some 16 := by kernel_rfl
theorem azc10 : azc Tryd.prog 10 = some ([.string ⟨#[]⟩]) := by kernel_rfl
theorem cof10 : Tryd.prog.cellsOf 10 = 1 := by kernel_rfl
theorem asz11 : asz Tryd.prog 11 = some 1 := by kernel_rfl
theorem aby11 : abytes Tryd.prog 11 = some 16 := by kernel_rfl
theorem azc11 : azc Tryd.prog 11 = some ([.string ⟨#[]⟩]) := by kernel_rfl
theorem cof11 : Tryd.prog.cellsOf 11 = 1 := by kernel_rfl
theorem asz12 : asz Tryd.prog 12 = some 1 := by kernel_rfl
theorem aby12 : abytes Tryd.prog 12 = some 8 := by kernel_rfl
theorem azc12 : azc Tryd.prog 12 = some ([.int .u64 0]) := by kernel_rfl
theorem cof12 : Tryd.prog.cellsOf 12 = 1 := by kernel_rfl
theorem asz13 : asz Tryd.prog 13 = some 2 := by kernel_rfl
theorem aby13 : abytes Tryd.prog 13 = some 24 := by kernel_rfl
theorem azc13 : azc Tryd.prog 13 = some ([.string ⟨#[]⟩, .int .u64 0]) := by kernel_rfl
theorem cof13 : Tryd.prog.cellsOf 13 = 2 := by kernel_rfl
theorem afo13_0 : afo Tryd.prog 13 0 = some 0 := by kernel_rfl
theorem afo13_1 : afo Tryd.prog 13 1 = some 1 := by kernel_rfl
theorem apl13 : aplaces Tryd.prog 13 = some [(0, 1), (1, 1)] := by kernel_rfl
theorem asz14 : asz Tryd.prog 14 = some 2 := by kernel_rfl
theorem aby14 : abytes Tryd.prog 14 = some 24 := by kernel_rfl
theorem azc14 : azc Tryd.prog 14 = some ([.string ⟨#[]⟩, .int .u64 0]) := by kernel_rfl
theorem cof14 : Tryd.prog.cellsOf 14 = 2 := by kernel_rfl
theorem afo14_0 : afo Tryd.prog 14 0 = some 0 := by kernel_rfl
theorem afo14_1 : afo Tryd.prog 14 1 = some 1 := by kernel_rfl
theorem apl14 : aplaces Tryd.prog 14 = some [(0, 1), (1, 1)] := by kernel_rfl
theorem asz15 : asz Tryd.prog 15 = some 1 := by kernel_rfl
theorem aby15 : abytes Tryd.prog 15 = some 8 := by kernel_rfl
theorem azc15 : azc Tryd.prog 15 = some ([.pointer none]) := by kernel_rfl
theorem cof15 : Tryd.prog.cellsOf 15 = 1 := by kernel_rfl
theorem asz16 : asz Tryd.prog 16 = some 1 := by kernel_rfl
theorem aby16 : abytes Tryd.prog 16 = some 8 := by kernel_rfl
theorem azc16 : azc Tryd.prog 16 = some ([.pointer none]) := by kernel_rfl
theorem cof16 : Tryd.prog.cellsOf 16 = 1 := by kernel_rfl
theorem asz17 : asz Tryd.prog 17 = some 1 := by kernel_rfl
theorem aby17 : abytes Tryd.prog 17 = some 8 := by kernel_rfl
theorem azc17 : azc Tryd.prog 17 = some ([.pointer none]) := by kernel_rfl
theorem cof17 : Tryd.prog.cellsOf 17 = 1 := by kernel_rfl
theorem asz18 : asz Tryd.prog 18 = some 1 := by kernel_rfl
theorem aby18 : abytes Tryd.prog 18 = some 8 := by kernel_rfl
theorem azc18 : azc Tryd.prog 18 = some ([.pointer none]) := by kernel_rfl
theorem cof18 : Tryd.prog.cellsOf 18 = 1 := by kernel_rfl
theorem afo18_0 : afo Tryd.prog 18 0 = some 0 := by kernel_rfl
theorem apl18 : aplaces Tryd.prog 18 = some [(0, 1)] := by kernel_rfl
theorem asz19 : asz Tryd.prog 19 = some 1 := by kernel_rfl
theorem aby19 : abytes Tryd.prog 19 = some 8 := by kernel_rfl
theorem azc19 : azc Tryd.prog 19 = some ([.pointer none]) := by kernel_rfl
theorem cof19 : Tryd.prog.cellsOf 19 = 1 := by kernel_rfl
theorem afo19_0 : afo Tryd.prog 19 0 = some 0 := by kernel_rfl
theorem apl19 : aplaces Tryd.prog 19 = some [(0, 1)] := by kernel_rfl
theorem asz20 : asz Tryd.prog 20 = some 1 := by kernel_rfl
theorem aby20 : abytes Tryd.prog 20 = some 16 := by kernel_rfl
theorem azc20 : azc Tryd.prog 20 = some ([.nilIface]) := by kernel_rfl
theorem cof20 : Tryd.prog.cellsOf 20 = 1 := by kernel_rfl
theorem asz21 : asz Tryd.prog 21 = some 1 := by kernel_rfl
theorem aby21 : abytes Tryd.prog 21 = some 4 := by kernel_rfl
theorem azc21 : azc Tryd.prog 21 = some ([.int .i32 0]) := by kernel_rfl
theorem cof21 : Tryd.prog.cellsOf 21 = 1 := by kernel_rfl
theorem asz22 : asz Tryd.prog 22 = some 1 := by kernel_rfl
theorem aby22 : abytes Tryd.prog 22 = some 24 := by kernel_rfl
theorem azc22 : azc Tryd.prog 22 = some ([.slice none 0 0]) := by kernel_rfl
theorem cof22 : Tryd.prog.cellsOf 22 = 1 := by kernel_rfl
theorem asz23 : asz Tryd.prog 23 = some 1 := by kernel_rfl
theorem aby23 : abytes Tryd.prog 23 = some 24 := by kernel_rfl
theorem azc23 : azc Tryd.prog 23 = some ([.slice none 0 0]) := by kernel_rfl
theorem cof23 : Tryd.prog.cellsOf 23 = 1 := by kernel_rfl
theorem asz25 : asz Tryd.prog 25 = some 1 := by kernel_rfl
theorem aby25 : abytes Tryd.prog 25 = some 8 := by kernel_rfl
theorem azc25 : azc Tryd.prog 25 = some ([.nilFunc]) := by kernel_rfl
theorem cof25 : Tryd.prog.cellsOf 25 = 1 := by kernel_rfl
theorem asz26 : asz Tryd.prog 26 = some 1 := by kernel_rfl
theorem aby26 : abytes Tryd.prog 26 = some 8 := by kernel_rfl
theorem azc26 : azc Tryd.prog 26 = some ([.nilFunc]) := by kernel_rfl
theorem cof26 : Tryd.prog.cellsOf 26 = 1 := by kernel_rfl
theorem asz27 : asz Tryd.prog 27 = some 1 := by kernel_rfl
theorem aby27 : abytes Tryd.prog 27 = some 8 := by kernel_rfl
theorem azc27 : azc Tryd.prog 27 = some ([.nilFunc]) := by kernel_rfl
theorem cof27 : Tryd.prog.cellsOf 27 = 1 := by kernel_rfl
theorem asz28 : asz Tryd.prog 28 = some 1 := by kernel_rfl
theorem aby28 : abytes Tryd.prog 28 = some 24 := by kernel_rfl
theorem azc28 : azc Tryd.prog 28 = some ([.slice none 0 0]) := by kernel_rfl
theorem cof28 : Tryd.prog.cellsOf 28 = 1 := by kernel_rfl
theorem asz29 : asz Tryd.prog 29 = some 2 := by kernel_rfl
theorem aby29 : abytes Tryd.prog 29 = some 48 := by kernel_rfl
theorem azc29 : azc Tryd.prog 29 = some ([.slice none 0 0, .slice none 0 0]) := by kernel_rfl
theorem cof29 : Tryd.prog.cellsOf 29 = 2 := by kernel_rfl
theorem afo29_0 : afo Tryd.prog 29 0 = some 0 := by kernel_rfl
theorem afo29_1 : afo Tryd.prog 29 1 = some 1 := by kernel_rfl
theorem apl29 : aplaces Tryd.prog 29 = some [(0, 1), (1, 1)] := by kernel_rfl
theorem asz30 : asz Tryd.prog 30 = some 2 := by kernel_rfl
theorem aby30 : abytes Tryd.prog 30 = some 48 := by kernel_rfl
theorem azc30 : azc Tryd.prog 30 = some ([.slice none 0 0, .slice none 0 0]) := by kernel_rfl
theorem cof30 : Tryd.prog.cellsOf 30 = 2 := by kernel_rfl
theorem afo30_0 : afo Tryd.prog 30 0 = some 0 := by kernel_rfl
theorem afo30_1 : afo Tryd.prog 30 1 = some 1 := by kernel_rfl
theorem apl30 : aplaces Tryd.prog 30 = some [(0, 1), (1, 1)] := by kernel_rfl
theorem asz31 : asz Tryd.prog 31 = some 1 := by kernel_rfl
theorem aby31 : abytes Tryd.prog 31 = some 8 := by kernel_rfl
theorem azc31 : azc Tryd.prog 31 = some ([.nilFunc]) := by kernel_rfl
theorem cof31 : Tryd.prog.cellsOf 31 = 1 := by kernel_rfl
theorem asz32 : asz Tryd.prog 32 = some 1 := by kernel_rfl
theorem aby32 : abytes Tryd.prog 32 = some 8 := by kernel_rfl
theorem azc32 : azc Tryd.prog 32 = some ([.nilFunc]) := by kernel_rfl
theorem cof32 : Tryd.prog.cellsOf 32 = 1 := by kernel_rfl
theorem asz33 : asz Tryd.prog 33 = some 1 := by kernel_rfl
theorem aby33 : abytes Tryd.prog 33 = some 8 := by kernel_rfl
theorem azc33 : azc Tryd.prog 33 = some ([.nilFunc]) := by kernel_rfl
theorem cof33 : Tryd.prog.cellsOf 33 = 1 := by kernel_rfl
theorem asz34 : asz Tryd.prog 34 = some 1 := by kernel_rfl
theorem aby34 : abytes Tryd.prog 34 = some 8 := by kernel_rfl
theorem azc34 : azc Tryd.prog 34 = some ([.nilFunc]) := by kernel_rfl
theorem cof34 : Tryd.prog.cellsOf 34 = 1 := by kernel_rfl
theorem asz35 : asz Tryd.prog 35 = some 1 := by kernel_rfl
theorem aby35 : abytes Tryd.prog 35 = some 8 := by kernel_rfl
theorem azc35 : azc Tryd.prog 35 = some ([.nilFunc]) := by kernel_rfl
theorem cof35 : Tryd.prog.cellsOf 35 = 1 := by kernel_rfl
theorem asz36 : asz Tryd.prog 36 = some 1 := by kernel_rfl
theorem aby36 : abytes Tryd.prog 36 = some 8 := by kernel_rfl
theorem azc36 : azc Tryd.prog 36 = some ([.nilFunc]) := by kernel_rfl
theorem cof36 : Tryd.prog.cellsOf 36 = 1 := by kernel_rfl
theorem asz37 : asz Tryd.prog 37 = some 1 := by kernel_rfl
theorem aby37 : abytes Tryd.prog 37 = some 8 := by kernel_rfl
theorem azc37 : azc Tryd.prog 37 = some ([.nilFunc]) := by kernel_rfl
theorem cof37 : Tryd.prog.cellsOf 37 = 1 := by kernel_rfl
theorem asz38 : asz Tryd.prog 38 = some 2 := by kernel_rfl
theorem aby38 : abytes Tryd.prog 38 = some 48 := by kernel_rfl
theorem azc38 : azc Tryd.prog 38 = some ([.slice none 0 0, .slice none 0 0]) := by kernel_rfl
theorem cof38 : Tryd.prog.cellsOf 38 = 2 := by kernel_rfl
theorem asz39 : asz Tryd.prog 39 = some 1 := by kernel_rfl
theorem aby39 : abytes Tryd.prog 39 = some 8 := by kernel_rfl
theorem azc39 : azc Tryd.prog 39 = some ([.int .i64 0]) := by kernel_rfl
theorem cof39 : Tryd.prog.cellsOf 39 = 1 := by kernel_rfl
theorem asz41 : asz Tryd.prog 41 = some 1 := by kernel_rfl
theorem aby41 : abytes Tryd.prog 41 = some 8 := by kernel_rfl
theorem azc41 : azc Tryd.prog 41 = some ([.nilFunc]) := by kernel_rfl
theorem cof41 : Tryd.prog.cellsOf 41 = 1 := by kernel_rfl
theorem asz42 : asz Tryd.prog 42 = some 1 := by kernel_rfl
theorem aby42 : abytes Tryd.prog 42 = some 8 := by kernel_rfl
theorem azc42 : azc Tryd.prog 42 = some ([.nilFunc]) := by kernel_rfl
theorem cof42 : Tryd.prog.cellsOf 42 = 1 := by kernel_rfl
theorem asz43 : asz Tryd.prog 43 = some 1 := by kernel_rfl
theorem aby43 : abytes Tryd.prog 43 = some 8 := by kernel_rfl
theorem azc43 : azc Tryd.prog 43 = some ([.nilFunc]) := by kernel_rfl
theorem cof43 : Tryd.prog.cellsOf 43 = 1 := by kernel_rfl
theorem asz44 : asz Tryd.prog 44 = some 1 := by kernel_rfl
theorem aby44 : abytes Tryd.prog 44 = some 8 := by kernel_rfl
theorem azc44 : azc Tryd.prog 44 = some ([.nilFunc]) := by kernel_rfl
theorem cof44 : Tryd.prog.cellsOf 44 = 1 := by kernel_rfl
theorem asz45 : asz Tryd.prog 45 = some 1 := by kernel_rfl
theorem aby45 : abytes Tryd.prog 45 = some 8 := by kernel_rfl
theorem azc45 : azc Tryd.prog 45 = some ([.nilFunc]) := by kernel_rfl
theorem cof45 : Tryd.prog.cellsOf 45 = 1 := by kernel_rfl
theorem asz46 : asz Tryd.prog 46 = some 1 := by kernel_rfl
theorem aby46 : abytes Tryd.prog 46 = some 8 := by kernel_rfl
theorem azc46 : azc Tryd.prog 46 = some ([.int .u64 0]) := by kernel_rfl
theorem cof46 : Tryd.prog.cellsOf 46 = 1 := by kernel_rfl
theorem asz47 : asz Tryd.prog 47 = some 1 := by kernel_rfl
theorem aby47 : abytes Tryd.prog 47 = some 4 := by kernel_rfl
theorem azc47 : azc Tryd.prog 47 = some ([.int .u32 0]) := by kernel_rfl
theorem cof47 : Tryd.prog.cellsOf 47 = 1 := by kernel_rfl
theorem asz48 : asz Tryd.prog 48 = some 8 := by kernel_rfl
theorem aby48 : abytes Tryd.prog 48 = some 32 := by kernel_rfl
theorem azc48 : azc Tryd.prog 48 = some ([.int .u32 0, .int .u32 0, .int .u32 0, .int .u32 0, .int .u32 0, .int .u32 0, .int .u32 0, .int .u32 0]) := by kernel_rfl
theorem cof48 : Tryd.prog.cellsOf 48 = 8 := by kernel_rfl
theorem asz49 : asz Tryd.prog 49 = some 8 := by kernel_rfl
theorem aby49 : abytes Tryd.prog 49 = some 32 := by kernel_rfl
theorem azc49 : azc Tryd.prog 49 = some ([.int .u32 0, .int .u32 0, .int .u32 0, .int .u32 0, .int .u32 0, .int .u32 0, .int .u32 0, .int .u32 0]) := by kernel_rfl
theorem cof49 : Tryd.prog.cellsOf 49 = 8 := by kernel_rfl
theorem asz50 : asz Tryd.prog 50 = some 1 := by kernel_rfl
theorem aby50 : abytes Tryd.prog 50 = some 8 := by kernel_rfl
theorem azc50 : azc Tryd.prog 50 = some ([.nilFunc]) := by kernel_rfl
theorem cof50 : Tryd.prog.cellsOf 50 = 1 := by kernel_rfl
theorem asz51 : asz Tryd.prog 51 = some 1 := by kernel_rfl
theorem aby51 : abytes Tryd.prog 51 = some 8 := by kernel_rfl
theorem azc51 : azc Tryd.prog 51 = some ([.int .u64 0]) := by kernel_rfl
theorem cof51 : Tryd.prog.cellsOf 51 = 1 := by kernel_rfl
theorem asz53 : asz Tryd.prog 53 = some 1 := by kernel_rfl
theorem aby53 : abytes Tryd.prog 53 = some 8 := by kernel_rfl
theorem azc53 : azc Tryd.prog 53 = some ([.nilFunc]) := by kernel_rfl
theorem cof53 : Tryd.prog.cellsOf 53 = 1 := by kernel_rfl
theorem asz54 : asz Tryd.prog 54 = some 1 := by kernel_rfl
theorem aby54 : abytes Tryd.prog 54 = some 8 := by kernel_rfl
theorem azc54 : azc Tryd.prog 54 = some ([.nilFunc]) := by kernel_rfl
theorem cof54 : Tryd.prog.cellsOf 54 = 1 := by kernel_rfl
theorem asz55 : asz Tryd.prog 55 = some 1 := by kernel_rfl
theorem aby55 : abytes Tryd.prog 55 = some 8 := by kernel_rfl
theorem azc55 : azc Tryd.prog 55 = some ([.nilFunc]) := by kernel_rfl
theorem cof55 : Tryd.prog.cellsOf 55 = 1 := by kernel_rfl
theorem asz56 : asz Tryd.prog 56 = some 1 := by kernel_rfl
theorem aby56 : abytes Tryd.prog 56 = some 8 := by kernel_rfl
theorem azc56 : azc Tryd.prog 56 = some ([.nilFunc]) := by kernel_rfl
theorem cof56 : Tryd.prog.cellsOf 56 = 1 := by kernel_rfl
theorem asz57 : asz Tryd.prog 57 = some 1 := by kernel_rfl
theorem aby57 : abytes Tryd.prog 57 = some 8 := by kernel_rfl
theorem azc57 : azc Tryd.prog 57 = some ([.nilFunc]) := by kernel_rfl
theorem cof57 : Tryd.prog.cellsOf 57 = 1 := by kernel_rfl
theorem asz58 : asz Tryd.prog 58 = some 1 := by kernel_rfl
theorem aby58 : abytes Tryd.prog 58 = some 8 := by kernel_rfl
theorem azc58 : azc Tryd.prog 58 = some ([.nilFunc]) := by kernel_rfl
theorem cof58 : Tryd.prog.cellsOf 58 = 1 := by kernel_rfl
theorem asz59 : asz Tryd.prog 59 = some 1 := by kernel_rfl
theorem aby59 : abytes Tryd.prog 59 = some 8 := by kernel_rfl
theorem azc59 : azc Tryd.prog 59 = some ([.pointer none]) := by kernel_rfl
theorem cof59 : Tryd.prog.cellsOf 59 = 1 := by kernel_rfl
theorem asz60 : asz Tryd.prog 60 = some 64 := by kernel_rfl
theorem aby60 : abytes Tryd.prog 60 = some 256 := by kernel_rfl
theorem azc60 : azc Tryd.prog 60 = some (List.replicate 64 (.int .u32 0)) := by kernel_rfl
theorem cof60 : Tryd.prog.cellsOf 60 = 64 := by kernel_rfl
theorem asz61 : asz Tryd.prog 61 = some 1 := by kernel_rfl
theorem aby61 : abytes Tryd.prog 61 = some 8 := by kernel_rfl
theorem azc61 : azc Tryd.prog 61 = some ([.nilFunc]) := by kernel_rfl
theorem cof61 : Tryd.prog.cellsOf 61 = 1 := by kernel_rfl
theorem asz62 : asz Tryd.prog 62 = some 1 := by kernel_rfl
theorem aby62 : abytes Tryd.prog 62 = some 24 := by kernel_rfl
theorem azc62 : azc Tryd.prog 62 = some ([.slice none 0 0]) := by kernel_rfl
theorem cof62 : Tryd.prog.cellsOf 62 = 1 := by kernel_rfl
theorem asz63 : asz Tryd.prog 63 = some 1 := by kernel_rfl
theorem aby63 : abytes Tryd.prog 63 = some 8 := by kernel_rfl
theorem azc63 : azc Tryd.prog 63 = some ([.nilFunc]) := by kernel_rfl
theorem cof63 : Tryd.prog.cellsOf 63 = 1 := by kernel_rfl
theorem asz64 : asz Tryd.prog 64 = some 1 := by kernel_rfl
theorem aby64 : abytes Tryd.prog 64 = some 8 := by kernel_rfl
theorem azc64 : azc Tryd.prog 64 = some ([.nilFunc]) := by kernel_rfl
theorem cof64 : Tryd.prog.cellsOf 64 = 1 := by kernel_rfl
theorem asz65 : asz Tryd.prog 65 = some 1 := by kernel_rfl
theorem aby65 : abytes Tryd.prog 65 = some 8 := by kernel_rfl
theorem azc65 : azc Tryd.prog 65 = some ([.nilFunc]) := by kernel_rfl
theorem cof65 : Tryd.prog.cellsOf 65 = 1 := by kernel_rfl
theorem asz66 : asz Tryd.prog 66 = some 1 := by kernel_rfl
theorem aby66 : abytes Tryd.prog 66 = some 8 := by kernel_rfl
theorem azc66 : azc Tryd.prog 66 = some ([.nilFunc]) := by kernel_rfl
theorem cof66 : Tryd.prog.cellsOf 66 = 1 := by kernel_rfl
theorem asz67 : asz Tryd.prog 67 = some 1 := by kernel_rfl
theorem aby67 : abytes Tryd.prog 67 = some 8 := by kernel_rfl
theorem azc67 : azc Tryd.prog 67 = some ([.nilFunc]) := by kernel_rfl
theorem cof67 : Tryd.prog.cellsOf 67 = 1 := by kernel_rfl
theorem asz68 : asz Tryd.prog 68 = some 1 := by kernel_rfl
theorem aby68 : abytes Tryd.prog 68 = some 8 := by kernel_rfl
theorem azc68 : azc Tryd.prog 68 = some ([.nilFunc]) := by kernel_rfl
theorem cof68 : Tryd.prog.cellsOf 68 = 1 := by kernel_rfl
theorem asz70 : asz Tryd.prog 70 = some 1 := by kernel_rfl
theorem aby70 : abytes Tryd.prog 70 = some 8 := by kernel_rfl
theorem azc70 : azc Tryd.prog 70 = some ([.nilFunc]) := by kernel_rfl
theorem cof70 : Tryd.prog.cellsOf 70 = 1 := by kernel_rfl
theorem asz71 : asz Tryd.prog 71 = some 1 := by kernel_rfl
theorem aby71 : abytes Tryd.prog 71 = some 8 := by kernel_rfl
theorem azc71 : azc Tryd.prog 71 = some ([.nilFunc]) := by kernel_rfl
theorem cof71 : Tryd.prog.cellsOf 71 = 1 := by kernel_rfl
theorem asz72 : asz Tryd.prog 72 = some 1 := by kernel_rfl
theorem aby72 : abytes Tryd.prog 72 = some 8 := by kernel_rfl
theorem azc72 : azc Tryd.prog 72 = some ([.nilFunc]) := by kernel_rfl
theorem cof72 : Tryd.prog.cellsOf 72 = 1 := by kernel_rfl
theorem asz74 : asz Tryd.prog 74 = some 1 := by kernel_rfl
theorem aby74 : abytes Tryd.prog 74 = some 8 := by kernel_rfl
theorem azc74 : azc Tryd.prog 74 = some ([.nilFunc]) := by kernel_rfl
theorem cof74 : Tryd.prog.cellsOf 74 = 1 := by kernel_rfl
theorem asz76 : asz Tryd.prog 76 = some 1 := by kernel_rfl
theorem aby76 : abytes Tryd.prog 76 = some 8 := by kernel_rfl
theorem azc76 : azc Tryd.prog 76 = some ([.nilFunc]) := by kernel_rfl
theorem cof76 : Tryd.prog.cellsOf 76 = 1 := by kernel_rfl
theorem asz77 : asz Tryd.prog 77 = some 1 := by kernel_rfl
theorem aby77 : abytes Tryd.prog 77 = some 8 := by kernel_rfl
theorem azc77 : azc Tryd.prog 77 = some ([.nilFunc]) := by kernel_rfl
theorem cof77 : Tryd.prog.cellsOf 77 = 1 := by kernel_rfl
theorem asz78 : asz Tryd.prog 78 = some 1 := by kernel_rfl
theorem aby78 : abytes Tryd.prog 78 = some 8 := by kernel_rfl
theorem azc78 : azc Tryd.prog 78 = some ([.nilFunc]) := by kernel_rfl
theorem cof78 : Tryd.prog.cellsOf 78 = 1 := by kernel_rfl
theorem asz81 : asz Tryd.prog 81 = some 0 := by kernel_rfl
theorem aby81 : abytes Tryd.prog 81 = some 0 := by kernel_rfl
theorem azc81 : azc Tryd.prog 81 = some ([]) := by kernel_rfl
theorem cof81 : Tryd.prog.cellsOf 81 = 0 := by kernel_rfl
theorem asz82 : asz Tryd.prog 82 = some 0 := by kernel_rfl
theorem aby82 : abytes Tryd.prog 82 = some 0 := by kernel_rfl
theorem azc82 : azc Tryd.prog 82 = some ([]) := by kernel_rfl
theorem cof82 : Tryd.prog.cellsOf 82 = 0 := by kernel_rfl
theorem apl82 : aplaces Tryd.prog 82 = some [(0, 0)] := by kernel_rfl
theorem asz83 : asz Tryd.prog 83 = some 0 := by kernel_rfl
theorem aby83 : abytes Tryd.prog 83 = some 0 := by kernel_rfl
theorem azc83 : azc Tryd.prog 83 = some ([]) := by kernel_rfl
theorem cof83 : Tryd.prog.cellsOf 83 = 0 := by kernel_rfl
theorem apl83 : aplaces Tryd.prog 83 = some [(0, 0)] := by kernel_rfl
theorem asz84 : asz Tryd.prog 84 = some 1 := by kernel_rfl
theorem aby84 : abytes Tryd.prog 84 = some 8 := by kernel_rfl
theorem azc84 : azc Tryd.prog 84 = some ([.nilFunc]) := by kernel_rfl
theorem cof84 : Tryd.prog.cellsOf 84 = 1 := by kernel_rfl
theorem asz85 : asz Tryd.prog 85 = some 1 := by kernel_rfl
theorem aby85 : abytes Tryd.prog 85 = some 1 := by kernel_rfl
theorem azc85 : azc Tryd.prog 85 = some ([.int .u8 0]) := by kernel_rfl
theorem cof85 : Tryd.prog.cellsOf 85 = 1 := by kernel_rfl
theorem asz86 : asz Tryd.prog 86 = some 1 := by kernel_rfl
theorem aby86 : abytes Tryd.prog 86 = some 1 := by kernel_rfl
theorem azc86 : azc Tryd.prog 86 = some ([.int .u8 0]) := by kernel_rfl
theorem cof86 : Tryd.prog.cellsOf 86 = 1 := by kernel_rfl
theorem asz87 : asz Tryd.prog 87 = some 1 := by kernel_rfl
theorem aby87 : abytes Tryd.prog 87 = some 8 := by kernel_rfl
theorem azc87 : azc Tryd.prog 87 = some ([.nilFunc]) := by kernel_rfl
theorem cof87 : Tryd.prog.cellsOf 87 = 1 := by kernel_rfl
theorem asz88 : asz Tryd.prog 88 = some 1 := by kernel_rfl
theorem aby88 : abytes Tryd.prog 88 = some 8 := by kernel_rfl
theorem azc88 : azc Tryd.prog 88 = some ([.pointer none]) := by kernel_rfl
theorem cof88 : Tryd.prog.cellsOf 88 = 1 := by kernel_rfl
theorem asz89 : asz Tryd.prog 89 = some 1 := by kernel_rfl
theorem aby89 : abytes Tryd.prog 89 = some 4 := by kernel_rfl
theorem azc89 : azc Tryd.prog 89 = some ([.int .i32 0]) := by kernel_rfl
theorem cof89 : Tryd.prog.cellsOf 89 = 1 := by kernel_rfl
theorem asz90 : asz Tryd.prog 90 = some 1 := by kernel_rfl
theorem aby90 : abytes Tryd.prog 90 = some 4 := by kernel_rfl
theorem azc90 : azc Tryd.prog 90 = some ([.int .i32 0]) := by kernel_rfl
theorem cof90 : Tryd.prog.cellsOf 90 = 1 := by kernel_rfl
noncomputable def C (base : Nat) (w0 : World) (G : Nat) : Cx := ⟨Tryd.prog, base, w0, G, fun t => t == 22⟩
theorem C_ex (base : Nat) (w0 : World) (G : Nat) (t : TypeId) : (C base w0 G).ex t = (t == 22) := (rfl)
theorem C_P (base : Nat) (w0 : World) (G : Nat) : (C base w0 G).P = Tryd.prog := (rfl)
theorem C_G (base : Nat) (w0 : World) (G : Nat) : (C base w0 G).G = G := (rfl)
theorem mixed : Tryd.prog.follows .mixedOrders = true := by kernel_rfl
end Go.Proofs.YtjkmcnhofpnoeaaDoor
