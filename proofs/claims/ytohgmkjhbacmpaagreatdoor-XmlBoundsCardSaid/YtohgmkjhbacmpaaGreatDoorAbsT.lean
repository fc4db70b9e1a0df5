/- What the types are: closed facts, by a program. -/
import Derived.Test.YtohgmkjhbacmpaaGreatDoorAbsU
import Derived.Test.YtohgmkjhbacmpaaGreatDoorRows
import Derived.KernelRfl
import Derived.Attr
namespace Go.Proofs.YtohgmkjhbacmpaaGreatDoor
open Go.Abs
theorem asz3 : asz Tryz.prog 3 = some 1 := by kernel_rfl
theorem aby3 : aP Tryz.prog 3 = some 8 := by kernel_rfl
theorem azc3 : azc Tryz.prog 3 = some ([.int .i64 0]) := by kernel_rfl
theorem asz4 : asz Tryz.prog 4 = some 1 := by kernel_rfl
theorem asz5 : asz Tryz.prog 5 = some 1 := by kernel_rfl
theorem aby5 : aP Tryz.prog 5 = some 1 := by kernel_rfl
theorem azc5 : azc Tryz.prog 5 = some ([.int .u8 0]) := by kernel_rfl
theorem cof5 : Tryz.prog.cellsOf 5 = 1 := by kernel_rfl
theorem asz9 : asz Tryz.prog 9 = some 1 := by kernel_rfl
theorem aby9 : aP Tryz.prog 9 = some 16 := by kernel_rfl
theorem azc9 : azc Tryz.prog 9 = some ([.string ⟨#[]⟩]) := by kernel_rfl
theorem cof9 : Tryz.prog.cellsOf 9 = 1 := by kernel_rfl
theorem zw : asz Tryz.prog 21 = some 1 := by kernel_rfl
theorem zx : asz Tryz.prog 22 = some 1 := by kernel_rfl
theorem eD : asz Tryz.prog 24 = some 1 := by kernel_rfl
theorem gY : asz Tryz.prog 26 = some 1 := by kernel_rfl
theorem kY : azc Tryz.prog 26 = some ([.slice none 0 0]) := by kernel_rfl
theorem jd : afo Tryz.prog 26 0 = some 0 := by kernel_rfl
theorem rC : fQ Tryz.prog 26 = some [(0, 1)] := by kernel_rfl
theorem oW : asz Tryz.prog 27 = some 1 := by kernel_rfl
theorem EA : azc Tryz.prog 27 = some ([.int .i64 0]) := by kernel_rfl
theorem oZ : asz Tryz.prog 30 = some 1 := by kernel_rfl
theorem kZ : asz Tryz.prog 31 = some 1 := by kernel_rfl
theorem jC : asz Tryz.prog 32 = some 1 := by kernel_rfl
theorem cO : asz Tryz.prog 34 = some 9 := by kernel_rfl
theorem F5 : aP Tryz.prog 34 = some 152 := by kernel_rfl
theorem o7 : azc Tryz.prog 34 = some ([.int .i64 0, .int .i64 0, .slice none 0 0, .string ⟨#[]⟩, .string ⟨#[]⟩, .string ⟨#[]⟩, .slice none 0 0, .slice none 0 0, .string ⟨#[]⟩]) := by kernel_rfl
theorem nW : afo Tryz.prog 34 0 = some 0 := by kernel_rfl
theorem lg : afo Tryz.prog 34 1 = some 1 := by kernel_rfl
theorem nX : afo Tryz.prog 34 2 = some 2 := by kernel_rfl
theorem zy : afo Tryz.prog 34 3 = some 3 := by kernel_rfl
theorem zA : afo Tryz.prog 34 4 = some 4 := by kernel_rfl
theorem DX : afo Tryz.prog 34 5 = some 5 := by kernel_rfl
theorem fT : afo Tryz.prog 34 6 = some 6 := by kernel_rfl
theorem fU : afo Tryz.prog 34 7 = some 7 := by kernel_rfl
theorem zB : afo Tryz.prog 34 8 = some 8 := by kernel_rfl
theorem vW : fQ Tryz.prog 34 = some [(0, 1), (1, 1), (2, 1), (3, 1), (4, 1), (5, 1), (6, 1), (7, 1), (8, 1)] := by kernel_rfl
theorem gZ : asz Tryz.prog 52 = some 4 := by kernel_rfl
theorem EB : aP Tryz.prog 52 = some 64 := by kernel_rfl
theorem nC : azc Tryz.prog 52 = some ([.string ⟨#[]⟩, .string ⟨#[]⟩, .string ⟨#[]⟩, .string ⟨#[]⟩]) := by kernel_rfl
theorem nY : afo Tryz.prog 52 0 = some 0 := by kernel_rfl
theorem DY : afo Tryz.prog 52 1 = some 1 := by kernel_rfl
theorem zC : afo Tryz.prog 52 2 = some 2 := by kernel_rfl
theorem DZ : afo Tryz.prog 52 3 = some 3 := by kernel_rfl
theorem EC : fQ Tryz.prog 52 = some [(0, 1), (1, 1), (2, 1), (3, 1)] := by kernel_rfl
theorem fM : asz Tryz.prog 57 = some 1 := by kernel_rfl
theorem F6 : asz Tryz.prog 59 = some 4 := by kernel_rfl
theorem F7 : azc Tryz.prog 59 = some ([.string ⟨#[]⟩, .slice none 0 0, .slice none 0 0, .bool false]) := by kernel_rfl
theorem aF : afo Tryz.prog 59 0 = some 0 := by kernel_rfl
theorem dJ : afo Tryz.prog 59 1 = some 1 := by kernel_rfl
theorem bL : afo Tryz.prog 59 2 = some 2 := by kernel_rfl
theorem lq : afo Tryz.prog 59 3 = some 3 := by kernel_rfl
theorem F8 : fQ Tryz.prog 59 = some [(0, 1), (1, 1), (2, 1), (3, 1)] := by kernel_rfl
theorem jT : asz Tryz.prog 62 = some 2 := by kernel_rfl
theorem ED : aP Tryz.prog 62 = some 32 := by kernel_rfl
theorem nD : azc Tryz.prog 62 = some ([.string ⟨#[]⟩, .string ⟨#[]⟩]) := by kernel_rfl
theorem tN : afo Tryz.prog 62 0 = some 0 := by kernel_rfl
theorem tO : afo Tryz.prog 62 1 = some 1 := by kernel_rfl
theorem EF : fQ Tryz.prog 62 = some [(0, 1), (1, 1)] := by kernel_rfl
theorem jU : asz Tryz.prog 75 = some 2 := by kernel_rfl
theorem rD : azc Tryz.prog 75 = some ([.int .i32 0, .int .i32 0]) := by kernel_rfl
theorem tQ : afo Tryz.prog 75 0 = some 0 := by kernel_rfl
theorem tT : afo Tryz.prog 75 1 = some 1 := by kernel_rfl
theorem Ch : fQ Tryz.prog 75 = some [(0, 1), (1, 1)] := by kernel_rfl
theorem jV : asz Tryz.prog 83 = some 2 := by kernel_rfl
theorem F9 : aP Tryz.prog 83 = some 24 := by kernel_rfl
theorem Ci : azc Tryz.prog 83 = some ([.int .i64 0, .string ⟨#[]⟩]) := by kernel_rfl
theorem tV : afo Tryz.prog 83 0 = some 0 := by kernel_rfl
theorem zD : afo Tryz.prog 83 1 = some 1 := by kernel_rfl
theorem Ga : fQ Tryz.prog 83 = some [(0, 1), (1, 1)] := by kernel_rfl
theorem Cj : asz Tryz.prog 96 = some 1 := by kernel_rfl
theorem vX : asz Tryz.prog 98 = some 2 := by kernel_rfl
theorem EG : azc Tryz.prog 98 = some ([.pointer none, .slice none 0 0]) := by kernel_rfl
theorem tX : afo Tryz.prog 98 0 = some 0 := by kernel_rfl
theorem nZ : afo Tryz.prog 98 1 = some 1 := by kernel_rfl
noncomputable def C (base : Nat) (w0 : World) (G : Nat) : Cx := ⟨Tryz.prog, base, w0, G, fun _ => false, fun _ => false⟩
theorem C_ex (base : Nat) (w0 : World) (G : Nat) (t : TypeId) : (C base w0 G).ex t = (false) := (rfl)
theorem C_P (base : Nat) (w0 : World) (G : Nat) : (C base w0 G).P = Tryz.prog := (rfl)
theorem C_G (base : Nat) (w0 : World) (G : Nat) : (C base w0 G).G = G := (rfl)
theorem mixed : Tryz.prog.follows .mixedOrders = true := by kernel_rfl
attribute [go_sem ↓] GP GM
attribute [go_sem] GQ bX C_ex acap dL u7 oo abin anum aun iO cond_true cond_false C_P C_G isTuple Value.cells setL ares jS oO eq_self if_true if_false Go.Abs.one undef gsl iG dM implies_true forall_const alen bC anil isC iw eP
end Go.Proofs.YtohgmkjhbacmpaaGreatDoor
