/- What the types are: closed facts, by a program. -/
import Derived.Test.YtfmpfgcdbpjpgaaAbsU
import Derived.Test.YtfmpfgcdbpjpgaaRows
import Derived.KernelRfl
namespace Go.Proofs.Ytfmpfgcdbpjpgaa
open Go.Abs
theorem asz1 : asz Try.prog 1 = some 1 := by kernel_rfl
theorem aby1 : abytes Try.prog 1 = some 8 := by kernel_rfl
theorem azc1 : azc Try.prog 1 = some ([.nilFunc]) := by kernel_rfl
theorem cof1 : Try.prog.cellsOf 1 = 1 := by kernel_rfl
theorem asz2 : asz Try.prog 2 = some 1 := by kernel_rfl
theorem aby2 : abytes Try.prog 2 = some 8 := by kernel_rfl
theorem azc2 : azc Try.prog 2 = some ([.int .i64 0]) := by kernel_rfl
theorem cof2 : Try.prog.cellsOf 2 = 1 := by kernel_rfl
theorem asz3 : asz Try.prog 3 = some 1 := by kernel_rfl
theorem aby3 : abytes Try.prog 3 = some 8 := by kernel_rfl
theorem azc3 : azc Try.prog 3 = some ([.int .i64 0]) := by kernel_rfl
theorem cof3 : Try.prog.cellsOf 3 = 1 := by kernel_rfl
theorem asz4 : asz Try.prog 4 = some 1 := by kernel_rfl
theorem aby4 : abytes Try.prog 4 = some 1 := by kernel_rfl
theorem azc4 : azc Try.prog 4 = some ([.bool false]) := by kernel_rfl
theorem cof4 : Try.prog.cellsOf 4 = 1 := by kernel_rfl
theorem asz5 : asz Try.prog 5 = some 1 := by kernel_rfl
theorem aby5 : abytes Try.prog 5 = some 1 := by kernel_rfl
theorem azc5 : azc Try.prog 5 = some ([.int .u8 0]) := by kernel_rfl
theorem cof5 : Try.prog.cellsOf 5 = 1 := by kernel_rfl
theorem asz6 : asz Try.prog 6 = some 1 := by kernel_rfl
theorem aby6 : abytes Try.prog 6 = some 1 := by kernel_rfl
theorem azc6 : azc Try.prog 6 = some ([.int .u8 0]) := by kernel_rfl
theorem cof6 : Try.prog.cellsOf 6 = 1 := by kernel_rfl
theorem asz7 : asz Try.prog 7 = some 4 := by kernel_rfl
theorem aby7 : abytes Try.prog 7 = some 24 := by kernel_rfl
theorem azc7 : azc Try.prog 7 = some ([.int .i64 0, .int .i64 0, .bool false, .int .u8 0]) := by kernel_rfl
theorem cof7 : Try.prog.cellsOf 7 = 4 := by kernel_rfl
theorem afo7_0 : afo Try.prog 7 0 = some 0 := by kernel_rfl
theorem afo7_1 : afo Try.prog 7 1 = some 1 := by kernel_rfl
theorem afo7_2 : afo Try.prog 7 2 = some 2 := by kernel_rfl
theorem afo7_3 : afo Try.prog 7 3 = some 3 := by kernel_rfl
theorem apl7 : aplaces Try.prog 7 = some [(0, 1), (1, 1), (2, 1), (3, 1)] := by kernel_rfl
theorem asz8 : asz Try.prog 8 = some 4 := by kernel_rfl
theorem aby8 : abytes Try.prog 8 = some 24 := by kernel_rfl
theorem azc8 : azc Try.prog 8 = some ([.int .i64 0, .int .i64 0, .bool false, .int .u8 0]) := by kernel_rfl
theorem cof8 : Try.prog.cellsOf 8 = 4 := by kernel_rfl
theorem afo8_0 : afo Try.prog 8 0 = some 0 := by kernel_rfl
theorem afo8_1 : afo Try.prog 8 1 = some 1 := by kernel_rfl
theorem afo8_2 : afo Try.prog 8 2 = some 2 := by kernel_rfl
theorem afo8_3 : afo Try.prog 8 3 = some 3 := by kernel_rfl
theorem apl8 : aplaces Try.prog 8 = some [(0, 1), (1, 1), (2, 1), (3, 1)] := by kernel_rfl
theorem asz9 : asz Try.prog 9 = some 1 := by kernel_rfl
theorem aby9 : abytes Try.prog 9 = some 16 := by kernel_rfl
theorem azc9 : azc Try.prog 9 = some ([.string ⟨#[]⟩]) := by kernel_rfl
theorem cof9 : Try.prog.cellsOf 9 = 1 := by kernel_rfl
theorem asz10 : asz Try.prog 10 = some 1 := by kernel_rfl
theorem aby10 : abytes Try.prog 10 = some 16 := by kernel_rfl
theorem azc10 : azc Try.prog 10 = some ([.string ⟨#[]⟩]) := by kernel_rfl
theorem cof10 : Try.prog.cellsOf 10 = 1 := by kernel_rfl
theorem asz11 : asz Try.prog 11 = some 1 := by kernel_rfl
theorem aby11 : abytes Try.prog 11 = some 16 := by kernel_rfl
theorem azc11 : azc Try.prog 11 = some ([.string ⟨#[]⟩]) := by kernel_rfl
theorem cof11 : Try.prog.cellsOf 11 = 1 := by kernel_rfl
theorem asz12 : asz Try.prog 12 = some 1 := by kernel_rfl
theorem aby12 : abytes Try.prog 12 = some 8 := by kernel_rfl
theorem azc12 : azc Try.prog 12 = some ([.int .u64 0]) := by kernel_rfl
theorem cof12 : Try.prog.cellsOf 12 = 1 := by kernel_rfl
theorem asz13 : asz Try.prog 13 = some 2 := by kernel_rfl
theorem aby13 : abytes Try.prog 13 = some 24 := by kernel_rfl
theorem azc13 : azc Try.prog 13 = some ([.string ⟨#[]⟩, .int .u64 0]) := by kernel_rfl
theorem cof13 : Try.prog.cellsOf 13 = 2 := by kernel_rfl
theorem afo13_0 : afo Try.prog 13 0 = some 0 := by kernel_rfl
theorem afo13_1 : afo Try.prog 13 1 = some 1 := by kernel_rfl
theorem apl13 : aplaces Try.prog 13 = some [(0, 1), (1, 1)] := by kernel_rfl
theorem asz14 : asz Try.prog 14 = some 2 := by kernel_rfl
theorem aby14 : abytes Try.prog 14 = some 24 := by kernel_rfl
theorem azc14 : azc Try.prog 14 = some ([.string ⟨#[]⟩, .int .u64 0]) := by kernel_rfl
theorem cof14 : Try.prog.cellsOf 14 = 2 := by kernel_rfl
theorem afo14_0 : afo Try.prog 14 0 = some 0 := by kernel_rfl
theorem afo14_1 : afo Try.prog 14 1 = some 1 := by kernel_rfl
theorem apl14 : aplaces Try.prog 14 = some [(0, 1), (1, 1)] := by kernel_rfl
theorem asz15 : asz Try.prog 15 = some 1 := by kernel_rfl
theorem aby15 : abytes Try.prog 15 = some 8 := by kernel_rfl
theorem azc15 : azc Try.prog 15 = some ([.pointer none]) := by kernel_rfl
theorem cof15 : Try.prog.cellsOf 15 = 1 := by kernel_rfl
theorem asz16 : asz Try.prog 16 = some 1 := by kernel_rfl
theorem aby16 : abytes Try.prog 16 = some 8 := by kernel_rfl
theorem azc16 : azc Try.prog 16 = some ([.pointer none]) := by kernel_rfl
theorem cof16 : Try.prog.cellsOf 16 = 1 := by kernel_rfl
theorem asz17 : asz Try.prog 17 = some 1 := by kernel_rfl
theorem aby17 : abytes Try.prog 17 = some 8 := by kernel_rfl
theorem azc17 : azc Try.prog 17 = some ([.pointer none]) := by kernel_rfl
theorem cof17 : Try.prog.cellsOf 17 = 1 := by kernel_rfl
theorem asz18 : asz Try.prog 18 = some 1 := by kernel_rfl
theorem aby18 : abytes Try.prog 18 = some 8 := by kernel_rfl
theorem azc18 : azc Try.prog 18 = some ([.pointer none]) := by kernel_rfl
theorem cof18 : Try.prog.cellsOf 18 = 1 := by kernel_rfl
theorem afo18_0 : afo Try.prog 18 0 = some 0 := by kernel_rfl
theorem apl18 : aplaces Try.prog 18 = some [(0, 1)] := by kernel_rfl
theorem asz19 : asz Try.prog 19 = some 1 := by kernel_rfl
theorem aby19 : abytes Try.prog 19 = some 8 := by kernel_rfl
theorem azc19 : azc Try.prog 19 = some ([.pointer none]) := by kernel_rfl
theorem cof19 : Try.prog.cellsOf 19 = 1 := by kernel_rfl
theorem afo19_0 : afo Try.prog 19 0 = some 0 := by kernel_rfl
theorem apl19 : aplaces Try.prog 19 = some [(0, 1)] := by kernel_rfl
theorem asz20 : asz Try.prog 20 = some 1 := by kernel_rfl
theorem aby20 : abytes Try.prog 20 = some 16 := by kernel_rfl
theorem azc20 : azc Try.prog 20 = some ([.nilIface]) := by kernel_rfl
theorem cof20 : Try.prog.cellsOf 20 = 1 := by kernel_rfl
theorem asz21 : asz Try.prog 21 = some 1 := by kernel_rfl
theorem aby21 : abytes Try.prog 21 = some 4 := by kernel_rfl
theorem azc21 : azc Try.prog 21 = some ([.int .i32 0]) := by kernel_rfl
theorem cof21 : Try.prog.cellsOf 21 = 1 := by kernel_rfl
theorem asz22 : asz Try.prog 22 = some 1 := by kernel_rfl
theorem aby22 : abytes Try.prog 22 = some 8 := by kernel_rfl
theorem azc22 : azc Try.prog 22 = some ([.nilFunc]) := by kernel_rfl
theorem cof22 : Try.prog.cellsOf 22 = 1 := by kernel_rfl
theorem asz23 : asz Try.prog 23 = some 1 := by kernel_rfl
theorem aby23 : abytes Try.prog 23 = some 8 := by kernel_rfl
theorem azc23 : azc Try.prog 23 = some ([.pointer none]) := by kernel_rfl
theorem cof23 : Try.prog.cellsOf 23 = 1 := by kernel_rfl
theorem asz24 : asz Try.prog 24 = some 1 := by kernel_rfl
theorem aby24 : abytes Try.prog 24 = some 8 := by kernel_rfl
theorem azc24 : azc Try.prog 24 = some ([.int .i64 0]) := by kernel_rfl
theorem cof24 : Try.prog.cellsOf 24 = 1 := by kernel_rfl
theorem asz26 : asz Try.prog 26 = some 1 := by kernel_rfl
theorem aby26 : abytes Try.prog 26 = some 8 := by kernel_rfl
theorem azc26 : azc Try.prog 26 = some ([.nilFunc]) := by kernel_rfl
theorem cof26 : Try.prog.cellsOf 26 = 1 := by kernel_rfl
theorem asz27 : asz Try.prog 27 = some 1 := by kernel_rfl
theorem aby27 : abytes Try.prog 27 = some 8 := by kernel_rfl
theorem azc27 : azc Try.prog 27 = some ([.nilFunc]) := by kernel_rfl
theorem cof27 : Try.prog.cellsOf 27 = 1 := by kernel_rfl
theorem asz28 : asz Try.prog 28 = some 1 := by kernel_rfl
theorem aby28 : abytes Try.prog 28 = some 24 := by kernel_rfl
theorem azc28 : azc Try.prog 28 = some ([.slice none 0 0]) := by kernel_rfl
theorem cof28 : Try.prog.cellsOf 28 = 1 := by kernel_rfl
theorem asz29 : asz Try.prog 29 = some 1 := by kernel_rfl
theorem aby29 : abytes Try.prog 29 = some 8 := by kernel_rfl
theorem azc29 : azc Try.prog 29 = some ([.nilFunc]) := by kernel_rfl
theorem cof29 : Try.prog.cellsOf 29 = 1 := by kernel_rfl
theorem asz30 : asz Try.prog 30 = some 1 := by kernel_rfl
theorem aby30 : abytes Try.prog 30 = some 8 := by kernel_rfl
theorem azc30 : azc Try.prog 30 = some ([.nilFunc]) := by kernel_rfl
theorem cof30 : Try.prog.cellsOf 30 = 1 := by kernel_rfl
theorem asz31 : asz Try.prog 31 = some 1 := by kernel_rfl
theorem aby31 : abytes Try.prog 31 = some 8 := by kernel_rfl
theorem azc31 : azc Try.prog 31 = some ([.nilFunc]) := by kernel_rfl
theorem cof31 : Try.prog.cellsOf 31 = 1 := by kernel_rfl
theorem asz33 : asz Try.prog 33 = some 1 := by kernel_rfl
theorem aby33 : abytes Try.prog 33 = some 8 := by kernel_rfl
theorem azc33 : azc Try.prog 33 = some ([.nilFunc]) := by kernel_rfl
theorem cof33 : Try.prog.cellsOf 33 = 1 := by kernel_rfl
theorem asz34 : asz Try.prog 34 = some 1 := by kernel_rfl
theorem aby34 : abytes Try.prog 34 = some 8 := by kernel_rfl
theorem azc34 : azc Try.prog 34 = some ([.nilFunc]) := by kernel_rfl
theorem cof34 : Try.prog.cellsOf 34 = 1 := by kernel_rfl
theorem asz35 : asz Try.prog 35 = some 1 := by kernel_rfl
theorem aby35 : abytes Try.prog 35 = some 24 := by kernel_rfl
theorem azc35 : azc Try.prog 35 = some ([.slice none 0 0]) := by kernel_rfl
theorem cof35 : Try.prog.cellsOf 35 = 1 := by kernel_rfl
theorem asz36 : asz Try.prog 36 = some 2 := by kernel_rfl
theorem aby36 : abytes Try.prog 36 = some 16 := by kernel_rfl
theorem azc36 : azc Try.prog 36 = some ([.int .i64 0, .int .i64 0]) := by kernel_rfl
theorem cof36 : Try.prog.cellsOf 36 = 2 := by kernel_rfl
theorem asz37 : asz Try.prog 37 = some 5 := by kernel_rfl
theorem aby37 : abytes Try.prog 37 = some 56 := by kernel_rfl
theorem azc37 : azc Try.prog 37 = some ([.int .i64 0, .int .i64 0, .int .i64 0, .int .u8 0, .slice none 0 0]) := by kernel_rfl
theorem cof37 : Try.prog.cellsOf 37 = 5 := by kernel_rfl
theorem afo37_0 : afo Try.prog 37 0 = some 0 := by kernel_rfl
theorem afo37_1 : afo Try.prog 37 1 = some 1 := by kernel_rfl
theorem afo37_2 : afo Try.prog 37 2 = some 2 := by kernel_rfl
theorem afo37_3 : afo Try.prog 37 3 = some 3 := by kernel_rfl
theorem afo37_4 : afo Try.prog 37 4 = some 4 := by kernel_rfl
theorem apl37 : aplaces Try.prog 37 = some [(0, 1), (1, 1), (2, 1), (3, 1), (4, 1)] := by kernel_rfl
theorem asz38 : asz Try.prog 38 = some 5 := by kernel_rfl
theorem aby38 : abytes Try.prog 38 = some 56 := by kernel_rfl
theorem azc38 : azc Try.prog 38 = some ([.int .i64 0, .int .i64 0, .int .i64 0, .int .u8 0, .slice none 0 0]) := by kernel_rfl
theorem cof38 : Try.prog.cellsOf 38 = 5 := by kernel_rfl
theorem afo38_0 : afo Try.prog 38 0 = some 0 := by kernel_rfl
theorem afo38_1 : afo Try.prog 38 1 = some 1 := by kernel_rfl
theorem afo38_2 : afo Try.prog 38 2 = some 2 := by kernel_rfl
theorem afo38_3 : afo Try.prog 38 3 = some 3 := by kernel_rfl
theorem afo38_4 : afo Try.prog 38 4 = some 4 := by kernel_rfl
theorem apl38 : aplaces Try.prog 38 = some [(0, 1), (1, 1), (2, 1), (3, 1), (4, 1)] := by kernel_rfl
theorem asz39 : asz Try.prog 39 = some 1 := by kernel_rfl
theorem aby39 : abytes Try.prog 39 = some 8 := by kernel_rfl
theorem azc39 : azc Try.prog 39 = some ([.nilFunc]) := by kernel_rfl
theorem cof39 : Try.prog.cellsOf 39 = 1 := by kernel_rfl
theorem asz40 : asz Try.prog 40 = some 1 := by kernel_rfl
theorem aby40 : abytes Try.prog 40 = some 24 := by kernel_rfl
theorem azc40 : azc Try.prog 40 = some ([.slice none 0 0]) := by kernel_rfl
theorem cof40 : Try.prog.cellsOf 40 = 1 := by kernel_rfl
theorem asz41 : asz Try.prog 41 = some 1 := by kernel_rfl
theorem aby41 : abytes Try.prog 41 = some 24 := by kernel_rfl
theorem azc41 : azc Try.prog 41 = some ([.slice none 0 0]) := by kernel_rfl
theorem cof41 : Try.prog.cellsOf 41 = 1 := by kernel_rfl
theorem asz42 : asz Try.prog 42 = some 1 := by kernel_rfl
theorem aby42 : abytes Try.prog 42 = some 8 := by kernel_rfl
theorem azc42 : azc Try.prog 42 = some ([.nilFunc]) := by kernel_rfl
theorem cof42 : Try.prog.cellsOf 42 = 1 := by kernel_rfl
theorem asz43 : asz Try.prog 43 = some 1 := by kernel_rfl
theorem aby43 : abytes Try.prog 43 = some 8 := by kernel_rfl
theorem azc43 : azc Try.prog 43 = some ([.nilFunc]) := by kernel_rfl
theorem cof43 : Try.prog.cellsOf 43 = 1 := by kernel_rfl
theorem asz44 : asz Try.prog 44 = some 1 := by kernel_rfl
theorem aby44 : abytes Try.prog 44 = some 8 := by kernel_rfl
theorem azc44 : azc Try.prog 44 = some ([.nilFunc]) := by kernel_rfl
theorem cof44 : Try.prog.cellsOf 44 = 1 := by kernel_rfl
theorem asz45 : asz Try.prog 45 = some 1 := by kernel_rfl
theorem aby45 : abytes Try.prog 45 = some 8 := by kernel_rfl
theorem azc45 : azc Try.prog 45 = some ([.pointer none]) := by kernel_rfl
theorem cof45 : Try.prog.cellsOf 45 = 1 := by kernel_rfl
theorem asz46 : asz Try.prog 46 = some 1 := by kernel_rfl
theorem aby46 : abytes Try.prog 46 = some 8 := by kernel_rfl
theorem azc46 : azc Try.prog 46 = some ([.nilFunc]) := by kernel_rfl
theorem cof46 : Try.prog.cellsOf 46 = 1 := by kernel_rfl
theorem asz47 : asz Try.prog 47 = some 1 := by kernel_rfl
theorem aby47 : abytes Try.prog 47 = some 8 := by kernel_rfl
theorem azc47 : azc Try.prog 47 = some ([.nilFunc]) := by kernel_rfl
theorem cof47 : Try.prog.cellsOf 47 = 1 := by kernel_rfl
theorem asz48 : asz Try.prog 48 = some 1 := by kernel_rfl
theorem aby48 : abytes Try.prog 48 = some 24 := by kernel_rfl
theorem azc48 : azc Try.prog 48 = some ([.slice none 0 0]) := by kernel_rfl
theorem cof48 : Try.prog.cellsOf 48 = 1 := by kernel_rfl
theorem asz49 : asz Try.prog 49 = some 3 := by kernel_rfl
theorem aby49 : abytes Try.prog 49 = some 56 := by kernel_rfl
theorem azc49 : azc Try.prog 49 = some ([.slice none 0 0, .slice none 0 0, .int .i64 0]) := by kernel_rfl
theorem cof49 : Try.prog.cellsOf 49 = 3 := by kernel_rfl
theorem afo49_0 : afo Try.prog 49 0 = some 0 := by kernel_rfl
theorem afo49_1 : afo Try.prog 49 1 = some 1 := by kernel_rfl
theorem afo49_2 : afo Try.prog 49 2 = some 2 := by kernel_rfl
theorem apl49 : aplaces Try.prog 49 = some [(0, 1), (1, 1), (2, 1)] := by kernel_rfl
theorem asz50 : asz Try.prog 50 = some 3 := by kernel_rfl
theorem aby50 : abytes Try.prog 50 = some 56 := by kernel_rfl
theorem azc50 : azc Try.prog 50 = some ([.slice none 0 0, .slice none 0 0, .int .i64 0]) := by kernel_rfl
theorem cof50 : Try.prog.cellsOf 50 = 3 := by kernel_rfl
theorem afo50_0 : afo Try.prog 50 0 = some 0 := by kernel_rfl
theorem afo50_1 : afo Try.prog 50 1 = some 1 := by kernel_rfl
theorem afo50_2 : afo Try.prog 50 2 = some 2 := by kernel_rfl
theorem apl50 : aplaces Try.prog 50 = some [(0, 1), (1, 1), (2, 1)] := by kernel_rfl
theorem asz51 : asz Try.prog 51 = some 1 := by kernel_rfl
theorem aby51 : abytes Try.prog 51 = some 8 := by kernel_rfl
theorem azc51 : azc Try.prog 51 = some ([.nilFunc]) := by kernel_rfl
theorem cof51 : Try.prog.cellsOf 51 = 1 := by kernel_rfl
theorem asz52 : asz Try.prog 52 = some 1 := by kernel_rfl
theorem aby52 : abytes Try.prog 52 = some 8 := by kernel_rfl
theorem azc52 : azc Try.prog 52 = some ([.nilFunc]) := by kernel_rfl
theorem cof52 : Try.prog.cellsOf 52 = 1 := by kernel_rfl
theorem asz53 : asz Try.prog 53 = some 1 := by kernel_rfl
theorem aby53 : abytes Try.prog 53 = some 24 := by kernel_rfl
theorem azc53 : azc Try.prog 53 = some ([.slice none 0 0]) := by kernel_rfl
theorem cof53 : Try.prog.cellsOf 53 = 1 := by kernel_rfl
theorem asz54 : asz Try.prog 54 = some 3 := by kernel_rfl
theorem aby54 : abytes Try.prog 54 = some 56 := by kernel_rfl
theorem azc54 : azc Try.prog 54 = some ([.slice none 0 0, .slice none 0 0, .int .i64 0]) := by kernel_rfl
theorem cof54 : Try.prog.cellsOf 54 = 3 := by kernel_rfl
theorem afo54_0 : afo Try.prog 54 0 = some 0 := by kernel_rfl
theorem afo54_1 : afo Try.prog 54 1 = some 1 := by kernel_rfl
theorem afo54_2 : afo Try.prog 54 2 = some 2 := by kernel_rfl
theorem apl54 : aplaces Try.prog 54 = some [(0, 1), (1, 1), (2, 1)] := by kernel_rfl
theorem asz55 : asz Try.prog 55 = some 3 := by kernel_rfl
theorem aby55 : abytes Try.prog 55 = some 56 := by kernel_rfl
theorem azc55 : azc Try.prog 55 = some ([.slice none 0 0, .slice none 0 0, .int .i64 0]) := by kernel_rfl
theorem cof55 : Try.prog.cellsOf 55 = 3 := by kernel_rfl
theorem afo55_0 : afo Try.prog 55 0 = some 0 := by kernel_rfl
theorem afo55_1 : afo Try.prog 55 1 = some 1 := by kernel_rfl
theorem afo55_2 : afo Try.prog 55 2 = some 2 := by kernel_rfl
theorem apl55 : aplaces Try.prog 55 = some [(0, 1), (1, 1), (2, 1)] := by kernel_rfl
theorem asz56 : asz Try.prog 56 = some 1 := by kernel_rfl
theorem aby56 : abytes Try.prog 56 = some 8 := by kernel_rfl
theorem azc56 : azc Try.prog 56 = some ([.nilFunc]) := by kernel_rfl
theorem cof56 : Try.prog.cellsOf 56 = 1 := by kernel_rfl
theorem asz57 : asz Try.prog 57 = some 2 := by kernel_rfl
theorem aby57 : abytes Try.prog 57 = some 32 := by kernel_rfl
theorem azc57 : azc Try.prog 57 = some ([.int .i64 0, .slice none 0 0]) := by kernel_rfl
theorem cof57 : Try.prog.cellsOf 57 = 2 := by kernel_rfl
theorem afo57_0 : afo Try.prog 57 0 = some 0 := by kernel_rfl
theorem afo57_1 : afo Try.prog 57 1 = some 1 := by kernel_rfl
theorem apl57 : aplaces Try.prog 57 = some [(0, 1), (1, 1)] := by kernel_rfl
theorem asz58 : asz Try.prog 58 = some 2 := by kernel_rfl
theorem aby58 : abytes Try.prog 58 = some 32 := by kernel_rfl
theorem azc58 : azc Try.prog 58 = some ([.int .i64 0, .slice none 0 0]) := by kernel_rfl
theorem cof58 : Try.prog.cellsOf 58 = 2 := by kernel_rfl
theorem afo58_0 : afo Try.prog 58 0 = some 0 := by kernel_rfl
theorem afo58_1 : afo Try.prog 58 1 = some 1 := by kernel_rfl
theorem apl58 : aplaces Try.prog 58 = some [(0, 1), (1, 1)] := by kernel_rfl
theorem asz59 : asz Try.prog 59 = some 2 := by kernel_rfl
theorem aby59 : abytes Try.prog 59 = some 32 := by kernel_rfl
theorem azc59 : azc Try.prog 59 = some ([.int .i64 0, .slice none 0 0]) := by kernel_rfl
theorem cof59 : Try.prog.cellsOf 59 = 2 := by kernel_rfl
theorem afo59_0 : afo Try.prog 59 0 = some 0 := by kernel_rfl
theorem afo59_1 : afo Try.prog 59 1 = some 1 := by kernel_rfl
theorem apl59 : aplaces Try.prog 59 = some [(0, 1), (1, 1)] := by kernel_rfl
theorem asz60 : asz Try.prog 60 = some 2 := by kernel_rfl
theorem aby60 : abytes Try.prog 60 = some 32 := by kernel_rfl
theorem azc60 : azc Try.prog 60 = some ([.int .i64 0, .slice none 0 0]) := by kernel_rfl
theorem cof60 : Try.prog.cellsOf 60 = 2 := by kernel_rfl
theorem afo60_0 : afo Try.prog 60 0 = some 0 := by kernel_rfl
theorem afo60_1 : afo Try.prog 60 1 = some 1 := by kernel_rfl
theorem apl60 : aplaces Try.prog 60 = some [(0, 1), (1, 1)] := by kernel_rfl
theorem asz61 : asz Try.prog 61 = some 1 := by kernel_rfl
theorem aby61 : abytes Try.prog 61 = some 8 := by kernel_rfl
theorem azc61 : azc Try.prog 61 = some ([.nilFunc]) := by kernel_rfl
theorem cof61 : Try.prog.cellsOf 61 = 1 := by kernel_rfl
theorem asz62 : asz Try.prog 62 = some 1 := by kernel_rfl
theorem aby62 : abytes Try.prog 62 = some 8 := by kernel_rfl
theorem azc62 : azc Try.prog 62 = some ([.nilFunc]) := by kernel_rfl
theorem cof62 : Try.prog.cellsOf 62 = 1 := by kernel_rfl
theorem asz65 : asz Try.prog 65 = some 0 := by kernel_rfl
theorem aby65 : abytes Try.prog 65 = some 0 := by kernel_rfl
theorem azc65 : azc Try.prog 65 = some ([]) := by kernel_rfl
theorem cof65 : Try.prog.cellsOf 65 = 0 := by kernel_rfl
theorem asz66 : asz Try.prog 66 = some 0 := by kernel_rfl
theorem aby66 : abytes Try.prog 66 = some 0 := by kernel_rfl
theorem azc66 : azc Try.prog 66 = some ([]) := by kernel_rfl
theorem cof66 : Try.prog.cellsOf 66 = 0 := by kernel_rfl
theorem apl66 : aplaces Try.prog 66 = some [(0, 0)] := by kernel_rfl
theorem asz67 : asz Try.prog 67 = some 0 := by kernel_rfl
theorem aby67 : abytes Try.prog 67 = some 0 := by kernel_rfl
theorem azc67 : azc Try.prog 67 = some ([]) := by kernel_rfl
theorem cof67 : Try.prog.cellsOf 67 = 0 := by kernel_rfl
theorem apl67 : aplaces Try.prog 67 = some [(0, 0)] := by kernel_rfl
theorem asz68 : asz Try.prog 68 = some 1 := by kernel_rfl
theorem aby68 : abytes Try.prog 68 = some 4 := by kernel_rfl
theorem azc68 : azc Try.prog 68 = some ([.int .u32 0]) := by kernel_rfl
theorem cof68 : Try.prog.cellsOf 68 = 1 := by kernel_rfl
theorem asz69 : asz Try.prog 69 = some 1 := by kernel_rfl
theorem aby69 : abytes Try.prog 69 = some 1 := by kernel_rfl
theorem azc69 : azc Try.prog 69 = some ([.int .u8 0]) := by kernel_rfl
theorem cof69 : Try.prog.cellsOf 69 = 1 := by kernel_rfl
theorem asz70 : asz Try.prog 70 = some 1 := by kernel_rfl
theorem aby70 : abytes Try.prog 70 = some 1 := by kernel_rfl
theorem azc70 : azc Try.prog 70 = some ([.int .u8 0]) := by kernel_rfl
theorem cof70 : Try.prog.cellsOf 70 = 1 := by kernel_rfl
theorem asz71 : asz Try.prog 71 = some 1 := by kernel_rfl
theorem aby71 : abytes Try.prog 71 = some 8 := by kernel_rfl
theorem azc71 : azc Try.prog 71 = some ([.nilFunc]) := by kernel_rfl
theorem cof71 : Try.prog.cellsOf 71 = 1 := by kernel_rfl
theorem asz72 : asz Try.prog 72 = some 1 := by kernel_rfl
theorem aby72 : abytes Try.prog 72 = some 8 := by kernel_rfl
theorem azc72 : azc Try.prog 72 = some ([.pointer none]) := by kernel_rfl
theorem cof72 : Try.prog.cellsOf 72 = 1 := by kernel_rfl
theorem asz73 : asz Try.prog 73 = some 1 := by kernel_rfl
theorem aby73 : abytes Try.prog 73 = some 4 := by kernel_rfl
theorem azc73 : azc Try.prog 73 = some ([.int .i32 0]) := by kernel_rfl
theorem cof73 : Try.prog.cellsOf 73 = 1 := by kernel_rfl
theorem asz74 : asz Try.prog 74 = some 1 := by kernel_rfl
theorem aby74 : abytes Try.prog 74 = some 4 := by kernel_rfl
theorem azc74 : azc Try.prog 74 = some ([.int .i32 0]) := by kernel_rfl
theorem cof74 : Try.prog.cellsOf 74 = 1 := by kernel_rfl
noncomputable def C (base : Nat) (w0 : World) (G : Nat) : Cx := ⟨Try.prog, base, w0, G⟩
theorem C_P (base : Nat) (w0 : World) (G : Nat) : (C base w0 G).P = Try.prog := (rfl)
theorem C_G (base : Nat) (w0 : World) (G : Nat) : (C base w0 G).G = G := (rfl)
theorem mixed : Try.prog.follows .mixedOrders = true := by kernel_rfl
end Go.Proofs.Ytfmpfgcdbpjpgaa
