/- What the types are: closed facts, by a program. -/
import Derived.Test.YtiooigkcliomlaaAbsU
import Derived.Test.YtiooigkcliomlaaRows
import Derived.KernelRfl
namespace Go.Proofs.Ytiooigkcliomlaa
open Go.Abs
theorem asz1 : asz Try.prog 1 = some 1 := by kernel_rfl
theorem aby1 : abytes Try.prog 1 = some 8 := by kernel_rfl
theorem azc1 : azc Try.prog 1 = some ([.nilFunc]) := by kernel_rfl
theorem cof1 : Try.prog.cellsOf 1 = 1 := by kernel_rfl
theorem asz2 : asz Try.prog 2 = some 1 := by kernel_rfl
theorem aby2 : abytes Try.prog 2 = some 8 := by kernel_rfl
theorem azc2 : azc Try.prog 2 = some ([.int .i64 0]) := by kernel_rfl
theorem cof2 : Try.prog.cellsOf 2 = 1 := by kernel_rfl
theorem asz3 : asz Try.prog 3 = some 1 := by kernel_rfl
theorem aby3 : abytes Try.prog 3 = some 8 := by kernel_rfl
theorem azc3 : azc Try.prog 3 = some ([.int .i64 0]) := by kernel_rfl
theorem cof3 : Try.prog.cellsOf 3 = 1 := by kernel_rfl
theorem asz4 : asz Try.prog 4 = some 1 := by kernel_rfl
theorem aby4 : abytes Try.prog 4 = some 1 := by kernel_rfl
theorem azc4 : azc Try.prog 4 = some ([.bool false]) := by kernel_rfl
theorem cof4 : Try.prog.cellsOf 4 = 1 := by kernel_rfl
theorem asz5 : asz Try.prog 5 = some 1 := by kernel_rfl
theorem aby5 : abytes Try.prog 5 = some 1 := by kernel_rfl
theorem azc5 : azc Try.prog 5 = some ([.int .u8 0]) := by kernel_rfl
theorem cof5 : Try.prog.cellsOf 5 = 1 := by kernel_rfl
theorem asz6 : asz Try.prog 6 = some 1 := by kernel_rfl
theorem aby6 : abytes Try.prog 6 = some 1 := by kernel_rfl
theorem azc6 : azc Try.prog 6 = some ([.int .u8 0]) := by kernel_rfl
theorem cof6 : Try.prog.cellsOf 6 = 1 := by kernel_rfl
theorem asz7 : asz Try.prog 7 = some 4 := by kernel_rfl
theorem aby7 : abytes Try.prog 7 = some 24 := by kernel_rfl
theorem azc7 : azc Try.prog 7 = some ([.int .i64 0, .int .i64 0, .bool false, .int .u8 0]) := by kernel_rfl
theorem cof7 : Try.prog.cellsOf 7 = 4 := by kernel_rfl
theorem afo7_0 : afo Try.prog 7 0 = some 0 := by kernel_rfl
theorem afo7_1 : afo Try.prog 7 1 = some 1 := by kernel_rfl
theorem afo7_2 : afo Try.prog 7 2 = some 2 := by kernel_rfl
theorem afo7_3 : afo Try.prog 7 3 = some 3 := by kernel_rfl
theorem apl7 : aplaces Try.prog 7 = some [(0, 1), (1, 1), (2, 1), (3, 1)] := by kernel_rfl
theorem asz8 : asz Try.prog 8 = some 4 := by kernel_rfl
theorem aby8 : abytes Try.prog 8 = some 24 := by kernel_rfl
theorem azc8 : azc Try.prog 8 = some ([.int .i64 0, .int .i64 0, .bool false, .int .u8 0]) := by kernel_rfl
theorem cof8 : Try.prog.cellsOf 8 = 4 := by kernel_rfl
theorem afo8_0 : afo Try.prog 8 0 = some 0 := by kernel_rfl
theorem afo8_1 : afo Try.prog 8 1 = some 1 := by kernel_rfl
theorem afo8_2 : afo Try.prog 8 2 = some 2 := by kernel_rfl
theorem afo8_3 : afo Try.prog 8 3 = some 3 := by kernel_rfl
theorem apl8 : aplaces Try.prog 8 = some [(0, 1), (1, 1), (2, 1), (3, 1)] := by kernel_rfl
theorem asz9 : asz Try.prog 9 = some 1 := by kernel_rfl
theorem aby9 : abytes Try.prog 9 = some 16 := by kernel_rfl
theorem azc9 : azc Try.prog 9 = some ([.string ⟨#[]⟩]) := by kernel_rfl
theorem cof9 : Try.prog.cellsOf 9 = 1 := by kernel_rfl
theorem asz10 : asz Try.prog 10 = some 1 := by kernel_rfl
theorem aby10 : abytes Try.prog 10 = some 16 := by kernel_rfl
theorem azc10 : azc Try.prog 10 = some ([.string ⟨#[]⟩]) := by kernel_rfl
theorem cof10 : Try.prog.cellsOf 10 = 1 := by kernel_rfl
theorem asz11 : asz Try.prog 11 = some 1 := by kernel_rfl
theorem aby11 : abytes Try.prog 11 = some 16 := by kernel_rfl
theorem azc11 : azc Try.prog 11 = some ([.string ⟨#[]⟩]) := by kernel_rfl
theorem cof11 : Try.prog.cellsOf 11 = 1 := by kernel_rfl
theorem asz12 : asz Try.prog 12 = some 1 := by kernel_rfl
theorem aby12 : abytes Try.prog 12 = some 8 := by kernel_rfl
theorem azc12 : azc Try.prog 12 = some ([.int .u64 0]) := by kernel_rfl
theorem cof12 : Try.prog.cellsOf 12 = 1 := by kernel_rfl
theorem asz13 : asz Try.prog 13 = some 2 := by kernel_rfl
theorem aby13 : abytes Try.prog 13 = some 24 := by kernel_rfl
theorem azc13 : azc Try.prog 13 = some ([.string ⟨#[]⟩, .int .u64 0]) := by kernel_rfl
theorem cof13 : Try.prog.cellsOf 13 = 2 := by kernel_rfl
theorem afo13_0 : afo Try.prog 13 0 = some 0 := by kernel_rfl
theorem afo13_1 : afo Try.prog 13 1 = some 1 := by kernel_rfl
theorem apl13 : aplaces Try.prog 13 = some [(0, 1), (1, 1)] := by kernel_rfl
theorem asz14 : asz Try.prog 14 = some 2 := by kernel_rfl
theorem aby14 : abytes Try.prog 14 = some 24 := by kernel_rfl
theorem azc14 : azc Try.prog 14 = some ([.string ⟨#[]⟩, .int .u64 0]) := by kernel_rfl
theorem cof14 : Try.prog.cellsOf 14 = 2 := by kernel_rfl
theorem afo14_0 : afo Try.prog 14 0 = some 0 := by kernel_rfl
theorem afo14_1 : afo Try.prog 14 1 = some 1 := by kernel_rfl
theorem apl14 : aplaces Try.prog 14 = some [(0, 1), (1, 1)] := by kernel_rfl
theorem asz15 : asz Try.prog 15 = some 1 := by kernel_rfl
theorem aby15 : abytes Try.prog 15 = some 8 := by kernel_rfl
theorem azc15 : azc Try.prog 15 = some ([.pointer none]) := by kernel_rfl
theorem cof15 : Try.prog.cellsOf 15 = 1 := by kernel_rfl
theorem asz16 : asz Try.prog 16 = some 1 := by kernel_rfl
theorem aby16 : abytes Try.prog 16 = some 8 := by kernel_rfl
theorem azc16 : azc Try.prog 16 = some ([.pointer none]) := by kernel_rfl
theorem cof16 : Try.prog.cellsOf 16 = 1 := by kernel_rfl
theorem asz17 : asz Try.prog 17 = some 1 := by kernel_rfl
theorem aby17 : abytes Try.prog 17 = some 8 := by kernel_rfl
theorem azc17 : azc Try.prog 17 = some ([.pointer none]) := by kernel_rfl
theorem cof17 : Try.prog.cellsOf 17 = 1 := by kernel_rfl
theorem asz18 : asz Try.prog 18 = some 1 := by kernel_rfl
theorem aby18 : abytes Try.prog 18 = some 8 := by kernel_rfl
theorem azc18 : azc Try.prog 18 = some ([.pointer none]) := by kernel_rfl
theorem cof18 : Try.prog.cellsOf 18 = 1 := by kernel_rfl
theorem afo18_0 : afo Try.prog 18 0 = some 0 := by kernel_rfl
theorem apl18 : aplaces Try.prog 18 = some [(0, 1)] := by kernel_rfl
theorem asz19 : asz Try.prog 19 = some 1 := by kernel_rfl
theorem aby19 : abytes Try.prog 19 = some 8 := by kernel_rfl
theorem azc19 : azc Try.prog 19 = some ([.pointer none]) := by kernel_rfl
theorem cof19 : Try.prog.cellsOf 19 = 1 := by kernel_rfl
theorem afo19_0 : afo Try.prog 19 0 = some 0 := by kernel_rfl
theorem apl19 : aplaces Try.prog 19 = some [(0, 1)] := by kernel_rfl
theorem asz20 : asz Try.prog 20 = some 1 := by kernel_rfl
theorem aby20 : abytes Try.prog 20 = some 16 := by kernel_rfl
theorem azc20 : azc Try.prog 20 = some ([.nilIface]) := by kernel_rfl
theorem cof20 : Try.prog.cellsOf 20 = 1 := by kernel_rfl
theorem asz21 : asz Try.prog 21 = some 1 := by kernel_rfl
theorem aby21 : abytes Try.prog 21 = some 4 := by kernel_rfl
theorem azc21 : azc Try.prog 21 = some ([.int .i32 0]) := by kernel_rfl
theorem cof21 : Try.prog.cellsOf 21 = 1 := by kernel_rfl
theorem asz22 : asz Try.prog 22 = some 1 := by kernel_rfl
theorem aby22 : abytes Try.prog 22 = some 24 := by kernel_rfl
theorem azc22 : azc Try.prog 22 = some ([.slice none 0 0]) := by kernel_rfl
theorem cof22 : Try.prog.cellsOf 22 = 1 := by kernel_rfl
theorem asz23 : asz Try.prog 23 = some 1 := by kernel_rfl
theorem aby23 : abytes Try.prog 23 = some 24 := by kernel_rfl
theorem azc23 : azc Try.prog 23 = some ([.slice none 0 0]) := by kernel_rfl
theorem cof23 : Try.prog.cellsOf 23 = 1 := by kernel_rfl
theorem asz24 : asz Try.prog 24 = some 3 := by kernel_rfl
theorem aby24 : abytes Try.prog 24 = some 24 := by kernel_rfl
theorem azc24 : azc Try.prog 24 = some ([.int .i64 0, .int .i64 0, .int .i64 0]) := by kernel_rfl
theorem cof24 : Try.prog.cellsOf 24 = 3 := by kernel_rfl
theorem asz25 : asz Try.prog 25 = some 1 := by kernel_rfl
theorem aby25 : abytes Try.prog 25 = some 8 := by kernel_rfl
theorem azc25 : azc Try.prog 25 = some ([.nilFunc]) := by kernel_rfl
theorem cof25 : Try.prog.cellsOf 25 = 1 := by kernel_rfl
theorem asz26 : asz Try.prog 26 = some 1 := by kernel_rfl
theorem aby26 : abytes Try.prog 26 = some 8 := by kernel_rfl
theorem azc26 : azc Try.prog 26 = some ([.pointer none]) := by kernel_rfl
theorem cof26 : Try.prog.cellsOf 26 = 1 := by kernel_rfl
theorem asz27 : asz Try.prog 27 = some 1 := by kernel_rfl
theorem aby27 : abytes Try.prog 27 = some 8 := by kernel_rfl
theorem azc27 : azc Try.prog 27 = some ([.int .i64 0]) := by kernel_rfl
theorem cof27 : Try.prog.cellsOf 27 = 1 := by kernel_rfl
theorem asz29 : asz Try.prog 29 = some 1 := by kernel_rfl
theorem aby29 : abytes Try.prog 29 = some 8 := by kernel_rfl
theorem azc29 : azc Try.prog 29 = some ([.nilFunc]) := by kernel_rfl
theorem cof29 : Try.prog.cellsOf 29 = 1 := by kernel_rfl
theorem asz30 : asz Try.prog 30 = some 1 := by kernel_rfl
theorem aby30 : abytes Try.prog 30 = some 8 := by kernel_rfl
theorem azc30 : azc Try.prog 30 = some ([.pointer none]) := by kernel_rfl
theorem cof30 : Try.prog.cellsOf 30 = 1 := by kernel_rfl
theorem asz32 : asz Try.prog 32 = some 1 := by kernel_rfl
theorem aby32 : abytes Try.prog 32 = some 8 := by kernel_rfl
theorem azc32 : azc Try.prog 32 = some ([.nilFunc]) := by kernel_rfl
theorem cof32 : Try.prog.cellsOf 32 = 1 := by kernel_rfl
theorem asz33 : asz Try.prog 33 = some 1 := by kernel_rfl
theorem aby33 : abytes Try.prog 33 = some 8 := by kernel_rfl
theorem azc33 : azc Try.prog 33 = some ([.nilFunc]) := by kernel_rfl
theorem cof33 : Try.prog.cellsOf 33 = 1 := by kernel_rfl
theorem asz34 : asz Try.prog 34 = some 1 := by kernel_rfl
theorem aby34 : abytes Try.prog 34 = some 8 := by kernel_rfl
theorem azc34 : azc Try.prog 34 = some ([.nilFunc]) := by kernel_rfl
theorem cof34 : Try.prog.cellsOf 34 = 1 := by kernel_rfl
theorem asz35 : asz Try.prog 35 = some 1 := by kernel_rfl
theorem aby35 : abytes Try.prog 35 = some 8 := by kernel_rfl
theorem azc35 : azc Try.prog 35 = some ([.nilFunc]) := by kernel_rfl
theorem cof35 : Try.prog.cellsOf 35 = 1 := by kernel_rfl
theorem asz36 : asz Try.prog 36 = some 1 := by kernel_rfl
theorem aby36 : abytes Try.prog 36 = some 8 := by kernel_rfl
theorem azc36 : azc Try.prog 36 = some ([.nilFunc]) := by kernel_rfl
theorem cof36 : Try.prog.cellsOf 36 = 1 := by kernel_rfl
theorem asz37 : asz Try.prog 37 = some 1 := by kernel_rfl
theorem aby37 : abytes Try.prog 37 = some 8 := by kernel_rfl
theorem azc37 : azc Try.prog 37 = some ([.nilFunc]) := by kernel_rfl
theorem cof37 : Try.prog.cellsOf 37 = 1 := by kernel_rfl
theorem asz38 : asz Try.prog 38 = some 1 := by kernel_rfl
theorem aby38 : abytes Try.prog 38 = some 8 := by kernel_rfl
theorem azc38 : azc Try.prog 38 = some ([.nilFunc]) := by kernel_rfl
theorem cof38 : Try.prog.cellsOf 38 = 1 := by kernel_rfl
theorem asz40 : asz Try.prog 40 = some 1 := by kernel_rfl
theorem aby40 : abytes Try.prog 40 = some 8 := by kernel_rfl
theorem azc40 : azc Try.prog 40 = some ([.nilFunc]) := by kernel_rfl
theorem cof40 : Try.prog.cellsOf 40 = 1 := by kernel_rfl
theorem asz41 : asz Try.prog 41 = some 1 := by kernel_rfl
theorem aby41 : abytes Try.prog 41 = some 8 := by kernel_rfl
theorem azc41 : azc Try.prog 41 = some ([.nilFunc]) := by kernel_rfl
theorem cof41 : Try.prog.cellsOf 41 = 1 := by kernel_rfl
theorem asz42 : asz Try.prog 42 = some 1 := by kernel_rfl
theorem aby42 : abytes Try.prog 42 = some 8 := by kernel_rfl
theorem azc42 : azc Try.prog 42 = some ([.nilFunc]) := by kernel_rfl
theorem cof42 : Try.prog.cellsOf 42 = 1 := by kernel_rfl
theorem asz43 : asz Try.prog 43 = some 1 := by kernel_rfl
theorem aby43 : abytes Try.prog 43 = some 8 := by kernel_rfl
theorem azc43 : azc Try.prog 43 = some ([.nilFunc]) := by kernel_rfl
theorem cof43 : Try.prog.cellsOf 43 = 1 := by kernel_rfl
theorem asz45 : asz Try.prog 45 = some 1 := by kernel_rfl
theorem aby45 : abytes Try.prog 45 = some 8 := by kernel_rfl
theorem azc45 : azc Try.prog 45 = some ([.nilFunc]) := by kernel_rfl
theorem cof45 : Try.prog.cellsOf 45 = 1 := by kernel_rfl
theorem asz46 : asz Try.prog 46 = some 1 := by kernel_rfl
theorem aby46 : abytes Try.prog 46 = some 8 := by kernel_rfl
theorem azc46 : azc Try.prog 46 = some ([.nilFunc]) := by kernel_rfl
theorem cof46 : Try.prog.cellsOf 46 = 1 := by kernel_rfl
theorem asz47 : asz Try.prog 47 = some 1 := by kernel_rfl
theorem aby47 : abytes Try.prog 47 = some 4 := by kernel_rfl
theorem azc47 : azc Try.prog 47 = some ([.int .u32 0]) := by kernel_rfl
theorem cof47 : Try.prog.cellsOf 47 = 1 := by kernel_rfl
theorem asz48 : asz Try.prog 48 = some 1 := by kernel_rfl
theorem aby48 : abytes Try.prog 48 = some 8 := by kernel_rfl
theorem azc48 : azc Try.prog 48 = some ([.nilFunc]) := by kernel_rfl
theorem cof48 : Try.prog.cellsOf 48 = 1 := by kernel_rfl
theorem asz49 : asz Try.prog 49 = some 1 := by kernel_rfl
theorem aby49 : abytes Try.prog 49 = some 8 := by kernel_rfl
theorem azc49 : azc Try.prog 49 = some ([.nilFunc]) := by kernel_rfl
theorem cof49 : Try.prog.cellsOf 49 = 1 := by kernel_rfl
theorem asz50 : asz Try.prog 50 = some 1 := by kernel_rfl
theorem aby50 : abytes Try.prog 50 = some 8 := by kernel_rfl
theorem azc50 : azc Try.prog 50 = some ([.nilFunc]) := by kernel_rfl
theorem cof50 : Try.prog.cellsOf 50 = 1 := by kernel_rfl
theorem asz51 : asz Try.prog 51 = some 1 := by kernel_rfl
theorem aby51 : abytes Try.prog 51 = some 8 := by kernel_rfl
theorem azc51 : azc Try.prog 51 = some ([.nilFunc]) := by kernel_rfl
theorem cof51 : Try.prog.cellsOf 51 = 1 := by kernel_rfl
theorem asz52 : asz Try.prog 52 = some 1 := by kernel_rfl
theorem aby52 : abytes Try.prog 52 = some 24 := by kernel_rfl
theorem azc52 : azc Try.prog 52 = some ([.slice none 0 0]) := by kernel_rfl
theorem cof52 : Try.prog.cellsOf 52 = 1 := by kernel_rfl
theorem asz53 : asz Try.prog 53 = some 1 := by kernel_rfl
theorem aby53 : abytes Try.prog 53 = some 8 := by kernel_rfl
theorem azc53 : azc Try.prog 53 = some ([.pointer none]) := by kernel_rfl
theorem cof53 : Try.prog.cellsOf 53 = 1 := by kernel_rfl
theorem asz54 : asz Try.prog 54 = some 6 := by kernel_rfl
theorem aby54 : abytes Try.prog 54 = some 80 := by kernel_rfl
theorem azc54 : azc Try.prog 54 = some ([.pointer none, .pointer none, .slice none 0 0, .slice none 0 0, .bool false, .int .i64 0]) := by kernel_rfl
theorem cof54 : Try.prog.cellsOf 54 = 6 := by kernel_rfl
theorem afo54_0 : afo Try.prog 54 0 = some 0 := by kernel_rfl
theorem afo54_1 : afo Try.prog 54 1 = some 1 := by kernel_rfl
theorem afo54_2 : afo Try.prog 54 2 = some 2 := by kernel_rfl
theorem afo54_3 : afo Try.prog 54 3 = some 3 := by kernel_rfl
theorem afo54_4 : afo Try.prog 54 4 = some 4 := by kernel_rfl
theorem afo54_5 : afo Try.prog 54 5 = some 5 := by kernel_rfl
theorem apl54 : aplaces Try.prog 54 = some [(0, 1), (1, 1), (2, 1), (3, 1), (4, 1), (5, 1)] := by kernel_rfl
theorem asz55 : asz Try.prog 55 = some 6 := by kernel_rfl
theorem aby55 : abytes Try.prog 55 = some 80 := by kernel_rfl
theorem azc55 : azc Try.prog 55 = some ([.pointer none, .pointer none, .slice none 0 0, .slice none 0 0, .bool false, .int .i64 0]) := by kernel_rfl
theorem cof55 : Try.prog.cellsOf 55 = 6 := by kernel_rfl
theorem afo55_0 : afo Try.prog 55 0 = some 0 := by kernel_rfl
theorem afo55_1 : afo Try.prog 55 1 = some 1 := by kernel_rfl
theorem afo55_2 : afo Try.prog 55 2 = some 2 := by kernel_rfl
theorem afo55_3 : afo Try.prog 55 3 = some 3 := by kernel_rfl
theorem afo55_4 : afo Try.prog 55 4 = some 4 := by kernel_rfl
theorem afo55_5 : afo Try.prog 55 5 = some 5 := by kernel_rfl
theorem apl55 : aplaces Try.prog 55 = some [(0, 1), (1, 1), (2, 1), (3, 1), (4, 1), (5, 1)] := by kernel_rfl
theorem asz56 : asz Try.prog 56 = some 4 := by kernel_rfl
theorem aby56 : abytes Try.prog 56 = some 48 := by kernel_rfl
theorem azc56 : azc Try.prog 56 = some ([.int .i64 0, .int .i64 0, .int .i64 0, .slice none 0 0]) := by kernel_rfl
theorem cof56 : Try.prog.cellsOf 56 = 4 := by kernel_rfl
theorem afo56_0 : afo Try.prog 56 0 = some 0 := by kernel_rfl
theorem afo56_1 : afo Try.prog 56 1 = some 1 := by kernel_rfl
theorem afo56_2 : afo Try.prog 56 2 = some 2 := by kernel_rfl
theorem afo56_3 : afo Try.prog 56 3 = some 3 := by kernel_rfl
theorem apl56 : aplaces Try.prog 56 = some [(0, 1), (1, 1), (2, 1), (3, 1)] := by kernel_rfl
theorem asz57 : asz Try.prog 57 = some 4 := by kernel_rfl
theorem aby57 : abytes Try.prog 57 = some 48 := by kernel_rfl
theorem azc57 : azc Try.prog 57 = some ([.int .i64 0, .int .i64 0, .int .i64 0, .slice none 0 0]) := by kernel_rfl
theorem cof57 : Try.prog.cellsOf 57 = 4 := by kernel_rfl
theorem afo57_0 : afo Try.prog 57 0 = some 0 := by kernel_rfl
theorem afo57_1 : afo Try.prog 57 1 = some 1 := by kernel_rfl
theorem afo57_2 : afo Try.prog 57 2 = some 2 := by kernel_rfl
theorem afo57_3 : afo Try.prog 57 3 = some 3 := by kernel_rfl
theorem apl57 : aplaces Try.prog 57 = some [(0, 1), (1, 1), (2, 1), (3, 1)] := by kernel_rfl
theorem asz58 : asz Try.prog 58 = some 1 := by kernel_rfl
theorem aby58 : abytes Try.prog 58 = some 8 := by kernel_rfl
theorem azc58 : azc Try.prog 58 = some ([.nilFunc]) := by kernel_rfl
theorem cof58 : Try.prog.cellsOf 58 = 1 := by kernel_rfl
theorem asz59 : asz Try.prog 59 = some 1 := by kernel_rfl
theorem aby59 : abytes Try.prog 59 = some 8 := by kernel_rfl
theorem azc59 : azc Try.prog 59 = some ([.nilFunc]) := by kernel_rfl
theorem cof59 : Try.prog.cellsOf 59 = 1 := by kernel_rfl
theorem asz60 : asz Try.prog 60 = some 1 := by kernel_rfl
theorem aby60 : abytes Try.prog 60 = some 8 := by kernel_rfl
theorem azc60 : azc Try.prog 60 = some ([.nilFunc]) := by kernel_rfl
theorem cof60 : Try.prog.cellsOf 60 = 1 := by kernel_rfl
theorem asz61 : asz Try.prog 61 = some 1 := by kernel_rfl
theorem aby61 : abytes Try.prog 61 = some 8 := by kernel_rfl
theorem azc61 : azc Try.prog 61 = some ([.nilFunc]) := by kernel_rfl
theorem cof61 : Try.prog.cellsOf 61 = 1 := by kernel_rfl
theorem asz62 : asz Try.prog 62 = some 1 := by kernel_rfl
theorem aby62 : abytes Try.prog 62 = some 24 := by kernel_rfl
theorem azc62 : azc Try.prog 62 = some ([.slice none 0 0]) := by kernel_rfl
theorem cof62 : Try.prog.cellsOf 62 = 1 := by kernel_rfl
theorem asz63 : asz Try.prog 63 = some 3 := by kernel_rfl
theorem aby63 : abytes Try.prog 63 = some 56 := by kernel_rfl
theorem azc63 : azc Try.prog 63 = some ([.slice none 0 0, .slice none 0 0, .int .i64 0]) := by kernel_rfl
theorem cof63 : Try.prog.cellsOf 63 = 3 := by kernel_rfl
theorem afo63_0 : afo Try.prog 63 0 = some 0 := by kernel_rfl
theorem afo63_1 : afo Try.prog 63 1 = some 1 := by kernel_rfl
theorem afo63_2 : afo Try.prog 63 2 = some 2 := by kernel_rfl
theorem apl63 : aplaces Try.prog 63 = some [(0, 1), (1, 1), (2, 1)] := by kernel_rfl
theorem asz64 : asz Try.prog 64 = some 3 := by kernel_rfl
theorem aby64 : abytes Try.prog 64 = some 56 := by kernel_rfl
theorem azc64 : azc Try.prog 64 = some ([.slice none 0 0, .slice none 0 0, .int .i64 0]) := by kernel_rfl
theorem cof64 : Try.prog.cellsOf 64 = 3 := by kernel_rfl
theorem afo64_0 : afo Try.prog 64 0 = some 0 := by kernel_rfl
theorem afo64_1 : afo Try.prog 64 1 = some 1 := by kernel_rfl
theorem afo64_2 : afo Try.prog 64 2 = some 2 := by kernel_rfl
theorem apl64 : aplaces Try.prog 64 = some [(0, 1), (1, 1), (2, 1)] := by kernel_rfl
theorem asz65 : asz Try.prog 65 = some 1 := by kernel_rfl
theorem aby65 : abytes Try.prog 65 = some 8 := by kernel_rfl
theorem azc65 : azc Try.prog 65 = some ([.nilFunc]) := by kernel_rfl
theorem cof65 : Try.prog.cellsOf 65 = 1 := by kernel_rfl
theorem asz67 : asz Try.prog 67 = some 1 := by kernel_rfl
theorem aby67 : abytes Try.prog 67 = some 8 := by kernel_rfl
theorem azc67 : azc Try.prog 67 = some ([.nilFunc]) := by kernel_rfl
theorem cof67 : Try.prog.cellsOf 67 = 1 := by kernel_rfl
theorem asz68 : asz Try.prog 68 = some 7 := by kernel_rfl
theorem aby68 : abytes Try.prog 68 = some 56 := by kernel_rfl
theorem azc68 : azc Try.prog 68 = some ([.pointer none, .int .i64 0, .int .i64 0, .int .i64 0, .int .i64 0, .int .i64 0, .bool false]) := by kernel_rfl
theorem cof68 : Try.prog.cellsOf 68 = 7 := by kernel_rfl
theorem afo68_0 : afo Try.prog 68 0 = some 0 := by kernel_rfl
theorem afo68_1 : afo Try.prog 68 1 = some 1 := by kernel_rfl
theorem afo68_2 : afo Try.prog 68 2 = some 2 := by kernel_rfl
theorem afo68_3 : afo Try.prog 68 3 = some 3 := by kernel_rfl
theorem afo68_4 : afo Try.prog 68 4 = some 4 := by kernel_rfl
theorem afo68_5 : afo Try.prog 68 5 = some 5 := by kernel_rfl
theorem afo68_6 : afo Try.prog 68 6 = some 6 := by kernel_rfl
theorem apl68 : aplaces Try.prog 68 = some [(0, 1), (1, 1), (2, 1), (3, 1), (4, 1), (5, 1), (6, 1)] := by kernel_rfl
theorem asz69 : asz Try.prog 69 = some 7 := by kernel_rfl
theorem aby69 : abytes Try.prog 69 = some 56 := by kernel_rfl
theorem azc69 : azc Try.prog 69 = some ([.pointer none, .int .i64 0, .int .i64 0, .int .i64 0, .int .i64 0, .int .i64 0, .bool false]) := by kernel_rfl
theorem cof69 : Try.prog.cellsOf 69 = 7 := by kernel_rfl
theorem afo69_0 : afo Try.prog 69 0 = some 0 := by kernel_rfl
theorem afo69_1 : afo Try.prog 69 1 = some 1 := by kernel_rfl
theorem afo69_2 : afo Try.prog 69 2 = some 2 := by kernel_rfl
theorem afo69_3 : afo Try.prog 69 3 = some 3 := by kernel_rfl
theorem afo69_4 : afo Try.prog 69 4 = some 4 := by kernel_rfl
theorem afo69_5 : afo Try.prog 69 5 = some 5 := by kernel_rfl
theorem afo69_6 : afo Try.prog 69 6 = some 6 := by kernel_rfl
theorem apl69 : aplaces Try.prog 69 = some [(0, 1), (1, 1), (2, 1), (3, 1), (4, 1), (5, 1), (6, 1)] := by kernel_rfl
theorem asz70 : asz Try.prog 70 = some 1 := by kernel_rfl
theorem aby70 : abytes Try.prog 70 = some 8 := by kernel_rfl
theorem azc70 : azc Try.prog 70 = some ([.nilFunc]) := by kernel_rfl
theorem cof70 : Try.prog.cellsOf 70 = 1 := by kernel_rfl
theorem asz71 : asz Try.prog 71 = some 1 := by kernel_rfl
theorem aby71 : abytes Try.prog 71 = some 8 := by kernel_rfl
theorem azc71 : azc Try.prog 71 = some ([.nilFunc]) := by kernel_rfl
theorem cof71 : Try.prog.cellsOf 71 = 1 := by kernel_rfl
theorem asz73 : asz Try.prog 73 = some 1 := by kernel_rfl
theorem aby73 : abytes Try.prog 73 = some 8 := by kernel_rfl
theorem azc73 : azc Try.prog 73 = some ([.nilFunc]) := by kernel_rfl
theorem cof73 : Try.prog.cellsOf 73 = 1 := by kernel_rfl
theorem asz74 : asz Try.prog 74 = some 1 := by kernel_rfl
theorem aby74 : abytes Try.prog 74 = some 8 := by kernel_rfl
theorem azc74 : azc Try.prog 74 = some ([.nilFunc]) := by kernel_rfl
theorem cof74 : Try.prog.cellsOf 74 = 1 := by kernel_rfl
theorem asz75 : asz Try.prog 75 = some 2 := by kernel_rfl
theorem aby75 : abytes Try.prog 75 = some 32 := by kernel_rfl
theorem azc75 : azc Try.prog 75 = some ([.int .i64 0, .slice none 0 0]) := by kernel_rfl
theorem cof75 : Try.prog.cellsOf 75 = 2 := by kernel_rfl
theorem afo75_0 : afo Try.prog 75 0 = some 0 := by kernel_rfl
theorem afo75_1 : afo Try.prog 75 1 = some 1 := by kernel_rfl
theorem apl75 : aplaces Try.prog 75 = some [(0, 1), (1, 1)] := by kernel_rfl
theorem asz76 : asz Try.prog 76 = some 2 := by kernel_rfl
theorem aby76 : abytes Try.prog 76 = some 32 := by kernel_rfl
theorem azc76 : azc Try.prog 76 = some ([.int .i64 0, .slice none 0 0]) := by kernel_rfl
theorem cof76 : Try.prog.cellsOf 76 = 2 := by kernel_rfl
theorem afo76_0 : afo Try.prog 76 0 = some 0 := by kernel_rfl
theorem afo76_1 : afo Try.prog 76 1 = some 1 := by kernel_rfl
theorem apl76 : aplaces Try.prog 76 = some [(0, 1), (1, 1)] := by kernel_rfl
theorem asz77 : asz Try.prog 77 = some 1 := by kernel_rfl
theorem aby77 : abytes Try.prog 77 = some 8 := by kernel_rfl
theorem azc77 : azc Try.prog 77 = some ([.nilFunc]) := by kernel_rfl
theorem cof77 : Try.prog.cellsOf 77 = 1 := by kernel_rfl
theorem asz78 : asz Try.prog 78 = some 1 := by kernel_rfl
theorem aby78 : abytes Try.prog 78 = some 8 := by kernel_rfl
theorem azc78 : azc Try.prog 78 = some ([.nilFunc]) := by kernel_rfl
theorem cof78 : Try.prog.cellsOf 78 = 1 := by kernel_rfl
theorem asz79 : asz Try.prog 79 = some 1 := by kernel_rfl
theorem aby79 : abytes Try.prog 79 = some 8 := by kernel_rfl
theorem azc79 : azc Try.prog 79 = some ([.nilFunc]) := by kernel_rfl
theorem cof79 : Try.prog.cellsOf 79 = 1 := by kernel_rfl
theorem asz80 : asz Try.prog 80 = some 1 := by kernel_rfl
theorem aby80 : abytes Try.prog 80 = some 8 := by kernel_rfl
theorem azc80 : azc Try.prog 80 = some ([.nilFunc]) := by kernel_rfl
theorem cof80 : Try.prog.cellsOf 80 = 1 := by kernel_rfl
theorem asz81 : asz Try.prog 81 = some 1 := by kernel_rfl
theorem aby81 : abytes Try.prog 81 = some 8 := by kernel_rfl
theorem azc81 : azc Try.prog 81 = some ([.nilFunc]) := by kernel_rfl
theorem cof81 : Try.prog.cellsOf 81 = 1 := by kernel_rfl
theorem asz82 : asz Try.prog 82 = some 1 := by kernel_rfl
theorem aby82 : abytes Try.prog 82 = some 8 := by kernel_rfl
theorem azc82 : azc Try.prog 82 = some ([.nilFunc]) := by kernel_rfl
theorem cof82 : Try.prog.cellsOf 82 = 1 := by kernel_rfl
theorem asz83 : asz Try.prog 83 = some 1 := by kernel_rfl
theorem aby83 : abytes Try.prog 83 = some 8 := by kernel_rfl
theorem azc83 : azc Try.prog 83 = some ([.nilFunc]) := by kernel_rfl
theorem cof83 : Try.prog.cellsOf 83 = 1 := by kernel_rfl
theorem asz84 : asz Try.prog 84 = some 1 := by kernel_rfl
theorem aby84 : abytes Try.prog 84 = some 8 := by kernel_rfl
theorem azc84 : azc Try.prog 84 = some ([.nilFunc]) := by kernel_rfl
theorem cof84 : Try.prog.cellsOf 84 = 1 := by kernel_rfl
theorem asz85 : asz Try.prog 85 = some 1 := by kernel_rfl
theorem aby85 : abytes Try.prog 85 = some 8 := by kernel_rfl
theorem azc85 : azc Try.prog 85 = some ([.nilFunc]) := by kernel_rfl
theorem cof85 : Try.prog.cellsOf 85 = 1 := by kernel_rfl
theorem asz86 : asz Try.prog 86 = some 1 := by kernel_rfl
theorem aby86 : abytes Try.prog 86 = some 8 := by kernel_rfl
theorem azc86 : azc Try.prog 86 = some ([.nilFunc]) := by kernel_rfl
theorem cof86 : Try.prog.cellsOf 86 = 1 := by kernel_rfl
theorem asz88 : asz Try.prog 88 = some 1 := by kernel_rfl
theorem aby88 : abytes Try.prog 88 = some 8 := by kernel_rfl
theorem azc88 : azc Try.prog 88 = some ([.nilFunc]) := by kernel_rfl
theorem cof88 : Try.prog.cellsOf 88 = 1 := by kernel_rfl
theorem asz89 : asz Try.prog 89 = some 1 := by kernel_rfl
theorem aby89 : abytes Try.prog 89 = some 8 := by kernel_rfl
theorem azc89 : azc Try.prog 89 = some ([.nilFunc]) := by kernel_rfl
theorem cof89 : Try.prog.cellsOf 89 = 1 := by kernel_rfl
theorem asz90 : asz Try.prog 90 = some 1 := by kernel_rfl
theorem aby90 : abytes Try.prog 90 = some 8 := by kernel_rfl
theorem azc90 : azc Try.prog 90 = some ([.nilFunc]) := by kernel_rfl
theorem cof90 : Try.prog.cellsOf 90 = 1 := by kernel_rfl
theorem asz91 : asz Try.prog 91 = some 1 := by kernel_rfl
theorem aby91 : abytes Try.prog 91 = some 8 := by kernel_rfl
theorem azc91 : azc Try.prog 91 = some ([.nilFunc]) := by kernel_rfl
theorem cof91 : Try.prog.cellsOf 91 = 1 := by kernel_rfl
theorem asz92 : asz Try.prog 92 = some 1 := by kernel_rfl
theorem aby92 : abytes Try.prog 92 = some 8 := by kernel_rfl
theorem azc92 : azc Try.prog 92 = some ([.nilFunc]) := by kernel_rfl
theorem cof92 : Try.prog.cellsOf 92 = 1 := by kernel_rfl
theorem asz93 : asz Try.prog 93 = some 1 := by kernel_rfl
theorem aby93 : abytes Try.prog 93 = some 8 := by kernel_rfl
theorem azc93 : azc Try.prog 93 = some ([.int .u64 0]) := by kernel_rfl
theorem cof93 : Try.prog.cellsOf 93 = 1 := by kernel_rfl
theorem asz94 : asz Try.prog 94 = some 16 := by kernel_rfl
theorem aby94 : abytes Try.prog 94 = some 64 := by kernel_rfl
theorem azc94 : azc Try.prog 94 = some (List.replicate 16 (.int .u32 0)) := by kernel_rfl
theorem cof94 : Try.prog.cellsOf 94 = 16 := by kernel_rfl
theorem asz95 : asz Try.prog 95 = some 1 := by kernel_rfl
theorem aby95 : abytes Try.prog 95 = some 8 := by kernel_rfl
theorem azc95 : azc Try.prog 95 = some ([.nilFunc]) := by kernel_rfl
theorem cof95 : Try.prog.cellsOf 95 = 1 := by kernel_rfl
theorem asz96 : asz Try.prog 96 = some 1 := by kernel_rfl
theorem aby96 : abytes Try.prog 96 = some 8 := by kernel_rfl
theorem azc96 : azc Try.prog 96 = some ([.nilFunc]) := by kernel_rfl
theorem cof96 : Try.prog.cellsOf 96 = 1 := by kernel_rfl
theorem asz97 : asz Try.prog 97 = some 4 := by kernel_rfl
theorem aby97 : abytes Try.prog 97 = some 40 := by kernel_rfl
theorem azc97 : azc Try.prog 97 = some ([.pointer none, .pointer none, .pointer none, .string ⟨#[]⟩]) := by kernel_rfl
theorem cof97 : Try.prog.cellsOf 97 = 4 := by kernel_rfl
theorem afo97_0 : afo Try.prog 97 0 = some 0 := by kernel_rfl
theorem afo97_1 : afo Try.prog 97 1 = some 1 := by kernel_rfl
theorem afo97_2 : afo Try.prog 97 2 = some 2 := by kernel_rfl
theorem afo97_3 : afo Try.prog 97 3 = some 3 := by kernel_rfl
theorem apl97 : aplaces Try.prog 97 = some [(0, 1), (1, 1), (2, 1), (3, 1)] := by kernel_rfl
theorem asz98 : asz Try.prog 98 = some 4 := by kernel_rfl
theorem aby98 : abytes Try.prog 98 = some 40 := by kernel_rfl
theorem azc98 : azc Try.prog 98 = some ([.pointer none, .pointer none, .pointer none, .string ⟨#[]⟩]) := by kernel_rfl
theorem cof98 : Try.prog.cellsOf 98 = 4 := by kernel_rfl
theorem afo98_0 : afo Try.prog 98 0 = some 0 := by kernel_rfl
theorem afo98_1 : afo Try.prog 98 1 = some 1 := by kernel_rfl
theorem afo98_2 : afo Try.prog 98 2 = some 2 := by kernel_rfl
theorem afo98_3 : afo Try.prog 98 3 = some 3 := by kernel_rfl
theorem apl98 : aplaces Try.prog 98 = some [(0, 1), (1, 1), (2, 1), (3, 1)] := by kernel_rfl
theorem asz99 : asz Try.prog 99 = some 0 := by kernel_rfl
theorem aby99 : abytes Try.prog 99 = some 0 := by kernel_rfl
theorem azc99 : azc Try.prog 99 = some ([]) := by kernel_rfl
theorem cof99 : Try.prog.cellsOf 99 = 0 := by kernel_rfl
theorem asz100 : asz Try.prog 100 = some 0 := by kernel_rfl
theorem aby100 : abytes Try.prog 100 = some 0 := by kernel_rfl
theorem azc100 : azc Try.prog 100 = some ([]) := by kernel_rfl
theorem cof100 : Try.prog.cellsOf 100 = 0 := by kernel_rfl
theorem apl100 : aplaces Try.prog 100 = some [(0, 0)] := by kernel_rfl
theorem asz101 : asz Try.prog 101 = some 0 := by kernel_rfl
theorem aby101 : abytes Try.prog 101 = some 0 := by kernel_rfl
theorem azc101 : azc Try.prog 101 = some ([]) := by kernel_rfl
theorem cof101 : Try.prog.cellsOf 101 = 0 := by kernel_rfl
theorem apl101 : aplaces Try.prog 101 = some [(0, 0)] := by kernel_rfl
theorem asz102 : asz Try.prog 102 = some 1 := by kernel_rfl
theorem aby102 : abytes Try.prog 102 = some 1 := by kernel_rfl
theorem azc102 : azc Try.prog 102 = some ([.int .u8 0]) := by kernel_rfl
theorem cof102 : Try.prog.cellsOf 102 = 1 := by kernel_rfl
theorem asz103 : asz Try.prog 103 = some 1 := by kernel_rfl
theorem aby103 : abytes Try.prog 103 = some 1 := by kernel_rfl
theorem azc103 : azc Try.prog 103 = some ([.int .u8 0]) := by kernel_rfl
theorem cof103 : Try.prog.cellsOf 103 = 1 := by kernel_rfl
theorem asz104 : asz Try.prog 104 = some 1 := by kernel_rfl
theorem aby104 : abytes Try.prog 104 = some 8 := by kernel_rfl
theorem azc104 : azc Try.prog 104 = some ([.nilFunc]) := by kernel_rfl
theorem cof104 : Try.prog.cellsOf 104 = 1 := by kernel_rfl
theorem asz105 : asz Try.prog 105 = some 1 := by kernel_rfl
theorem aby105 : abytes Try.prog 105 = some 8 := by kernel_rfl
theorem azc105 : azc Try.prog 105 = some ([.pointer none]) := by kernel_rfl
theorem cof105 : Try.prog.cellsOf 105 = 1 := by kernel_rfl
theorem asz106 : asz Try.prog 106 = some 1 := by kernel_rfl
theorem aby106 : abytes Try.prog 106 = some 4 := by kernel_rfl
theorem azc106 : azc Try.prog 106 = some ([.int .i32 0]) := by kernel_rfl
theorem cof106 : Try.prog.cellsOf 106 = 1 := by kernel_rfl
theorem asz107 : asz Try.prog 107 = some 1 := by kernel_rfl
theorem aby107 : abytes Try.prog 107 = some 4 := by kernel_rfl
theorem azc107 : azc Try.prog 107 = some ([.int .i32 0]) := by kernel_rfl
theorem cof107 : Try.prog.cellsOf 107 = 1 := by kernel_rfl
theorem asz108 : asz Try.prog 108 = some 11 := by kernel_rfl
theorem aby108 : abytes Try.prog 108 = some 48 := by kernel_rfl
theorem azc108 : azc Try.prog 108 = some ([.int .u64 0, .int .u64 0, .int .u32 0, .int .u8 0, .int .u8 0, .int .u8 0, .int .u8 0, .nilFunc, .pointer none, .int .i32 0, .int .i32 0]) := by kernel_rfl
theorem cof108 : Try.prog.cellsOf 108 = 11 := by kernel_rfl
theorem afo108_0 : afo Try.prog 108 0 = some 0 := by kernel_rfl
theorem afo108_1 : afo Try.prog 108 1 = some 1 := by kernel_rfl
theorem afo108_2 : afo Try.prog 108 2 = some 2 := by kernel_rfl
theorem afo108_3 : afo Try.prog 108 3 = some 3 := by kernel_rfl
theorem afo108_4 : afo Try.prog 108 4 = some 4 := by kernel_rfl
theorem afo108_5 : afo Try.prog 108 5 = some 5 := by kernel_rfl
theorem afo108_6 : afo Try.prog 108 6 = some 6 := by kernel_rfl
theorem afo108_7 : afo Try.prog 108 7 = some 7 := by kernel_rfl
theorem afo108_8 : afo Try.prog 108 8 = some 8 := by kernel_rfl
theorem afo108_9 : afo Try.prog 108 9 = some 9 := by kernel_rfl
theorem afo108_10 : afo Try.prog 108 10 = some 10 := by kernel_rfl
theorem apl108 : aplaces Try.prog 108 = some [(0, 1), (1, 1), (2, 1), (3, 1), (4, 1), (5, 1), (6, 1), (7, 1), (8, 1), (9, 1), (10, 1)] := by kernel_rfl
theorem asz109 : asz Try.prog 109 = some 11 := by kernel_rfl
theorem aby109 : abytes Try.prog 109 = some 48 := by kernel_rfl
theorem azc109 : azc Try.prog 109 = some ([.int .u64 0, .int .u64 0, .int .u32 0, .int .u8 0, .int .u8 0, .int .u8 0, .int .u8 0, .nilFunc, .pointer none, .int .i32 0, .int .i32 0]) := by kernel_rfl
theorem cof109 : Try.prog.cellsOf 109 = 11 := by kernel_rfl
theorem afo109_0 : afo Try.prog 109 0 = some 0 := by kernel_rfl
theorem afo109_1 : afo Try.prog 109 1 = some 1 := by kernel_rfl
theorem afo109_2 : afo Try.prog 109 2 = some 2 := by kernel_rfl
theorem afo109_3 : afo Try.prog 109 3 = some 3 := by kernel_rfl
theorem afo109_4 : afo Try.prog 109 4 = some 4 := by kernel_rfl
theorem afo109_5 : afo Try.prog 109 5 = some 5 := by kernel_rfl
theorem afo109_6 : afo Try.prog 109 6 = some 6 := by kernel_rfl
theorem afo109_7 : afo Try.prog 109 7 = some 7 := by kernel_rfl
theorem afo109_8 : afo Try.prog 109 8 = some 8 := by kernel_rfl
theorem afo109_9 : afo Try.prog 109 9 = some 9 := by kernel_rfl
theorem afo109_10 : afo Try.prog 109 10 = some 10 := by kernel_rfl
theorem apl109 : aplaces Try.prog 109 = some [(0, 1), (1, 1), (2, 1), (3, 1), (4, 1), (5, 1), (6, 1), (7, 1), (8, 1), (9, 1), (10, 1)] := by kernel_rfl
noncomputable def C (base : Nat) (w0 : World) (G : Nat) : Cx := ⟨Try.prog, base, w0, G, fun _ => false, fun _ => false⟩
theorem C_ex (base : Nat) (w0 : World) (G : Nat) (t : TypeId) : (C base w0 G).ex t = (false) := (rfl)
theorem C_P (base : Nat) (w0 : World) (G : Nat) : (C base w0 G).P = Try.prog := (rfl)
theorem C_G (base : Nat) (w0 : World) (G : Nat) : (C base w0 G).G = G := (rfl)
theorem mixed : Try.prog.follows .mixedOrders = true := by kernel_rfl
end Go.Proofs.Ytiooigkcliomlaa
