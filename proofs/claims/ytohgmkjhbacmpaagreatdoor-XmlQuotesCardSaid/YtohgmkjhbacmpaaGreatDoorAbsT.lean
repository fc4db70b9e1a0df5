/- What the types are: closed facts, by a program. -/
import Derived.Test.YtohgmkjhbacmpaaGreatDoorAbsU
import Derived.Test.YtohgmkjhbacmpaaGreatDoorRows
import Derived.KernelRfl
import Derived.Attr
namespace Go.Proofs.YtohgmkjhbacmpaaGreatDoor
open Go.Abs
theorem asz3 : asz Tryz.prog 3 = some 1 := by kernel_rfl
theorem aby3 : aV Tryz.prog 3 = some 8 := by kernel_rfl
theorem azc3 : azc Tryz.prog 3 = some ([.int .i64 0]) := by kernel_rfl
theorem asz4 : asz Tryz.prog 4 = some 1 := by kernel_rfl
theorem asz5 : asz Tryz.prog 5 = some 1 := by kernel_rfl
theorem aby5 : aV Tryz.prog 5 = some 1 := by kernel_rfl
theorem azc5 : azc Tryz.prog 5 = some ([.int .u8 0]) := by kernel_rfl
theorem cof5 : Tryz.prog.cellsOf 5 = 1 := by kernel_rfl
theorem asz9 : asz Tryz.prog 9 = some 1 := by kernel_rfl
theorem aby9 : aV Tryz.prog 9 = some 16 := by kernel_rfl
theorem azc9 : azc Tryz.prog 9 = some ([.string ⟨#[]⟩]) := by kernel_rfl
theorem cof9 : Tryz.prog.cellsOf 9 = 1 := by kernel_rfl
theorem oN : asz Tryz.prog 21 = some 1 := by kernel_rfl
theorem BJ : asz Tryz.prog 22 = some 1 := by kernel_rfl
theorem gQ : asz Tryz.prog 24 = some 1 := by kernel_rfl
theorem kN : asz Tryz.prog 26 = some 1 := by kernel_rfl
theorem mF : azc Tryz.prog 26 = some ([.slice none 0 0]) := by kernel_rfl
theorem pW : afo Tryz.prog 26 0 = some 0 := by kernel_rfl
theorem um : gV Tryz.prog 26 = some [(0, 1)] := by kernel_rfl
theorem qL : asz Tryz.prog 27 = some 1 := by kernel_rfl
theorem HY : azc Tryz.prog 27 = some ([.int .i64 0]) := by kernel_rfl
theorem oO : asz Tryz.prog 30 = some 1 := by kernel_rfl
theorem iO : asz Tryz.prog 31 = some 1 := by kernel_rfl
theorem iA : asz Tryz.prog 32 = some 1 := by kernel_rfl
theorem dH : asz Tryz.prog 34 = some 9 := by kernel_rfl
theorem Jt : aV Tryz.prog 34 = some 152 := by kernel_rfl
theorem qM : azc Tryz.prog 34 = some ([.int .i64 0, .int .i64 0, .slice none 0 0, .string ⟨#[]⟩, .string ⟨#[]⟩, .string ⟨#[]⟩, .slice none 0 0, .slice none 0 0, .string ⟨#[]⟩]) := by kernel_rfl
theorem mG : afo Tryz.prog 34 0 = some 0 := by kernel_rfl
theorem kr : afo Tryz.prog 34 1 = some 1 := by kernel_rfl
theorem mH : afo Tryz.prog 34 2 = some 2 := by kernel_rfl
theorem vW : afo Tryz.prog 34 3 = some 3 := by kernel_rfl
theorem vX : afo Tryz.prog 34 4 = some 4 := by kernel_rfl
theorem BK : afo Tryz.prog 34 5 = some 5 := by kernel_rfl
theorem dF : afo Tryz.prog 34 6 = some 6 := by kernel_rfl
theorem dK : afo Tryz.prog 34 7 = some 7 := by kernel_rfl
theorem pX : afo Tryz.prog 34 8 = some 8 := by kernel_rfl
theorem yB : gV Tryz.prog 34 = some [(0, 1), (1, 1), (2, 1), (3, 1), (4, 1), (5, 1), (6, 1), (7, 1), (8, 1)] := by kernel_rfl
theorem gI : asz Tryz.prog 52 = some 4 := by kernel_rfl
theorem HZ : aV Tryz.prog 52 = some 64 := by kernel_rfl
theorem oP : azc Tryz.prog 52 = some ([.string ⟨#[]⟩, .string ⟨#[]⟩, .string ⟨#[]⟩, .string ⟨#[]⟩]) := by kernel_rfl
theorem pY : afo Tryz.prog 52 0 = some 0 := by kernel_rfl
theorem Gx : afo Tryz.prog 52 1 = some 1 := by kernel_rfl
theorem BL : afo Tryz.prog 52 2 = some 2 := by kernel_rfl
theorem vY : afo Tryz.prog 52 3 = some 3 := by kernel_rfl
theorem H6 : gV Tryz.prog 52 = some [(0, 1), (1, 1), (2, 1), (3, 1)] := by kernel_rfl
theorem gT : asz Tryz.prog 57 = some 1 := by kernel_rfl
theorem Ju : asz Tryz.prog 59 = some 4 := by kernel_rfl
theorem Jv : azc Tryz.prog 59 = some ([.string ⟨#[]⟩, .slice none 0 0, .slice none 0 0, .bool false]) := by kernel_rfl
theorem aF : afo Tryz.prog 59 0 = some 0 := by kernel_rfl
theorem eH : afo Tryz.prog 59 1 = some 1 := by kernel_rfl
theorem cK : afo Tryz.prog 59 2 = some 2 := by kernel_rfl
theorem mI : afo Tryz.prog 59 3 = some 3 := by kernel_rfl
theorem Jw : gV Tryz.prog 59 = some [(0, 1), (1, 1), (2, 1), (3, 1)] := by kernel_rfl
theorem jS : asz Tryz.prog 62 = some 2 := by kernel_rfl
theorem H7 : aV Tryz.prog 62 = some 32 := by kernel_rfl
theorem oQ : azc Tryz.prog 62 = some ([.string ⟨#[]⟩, .string ⟨#[]⟩]) := by kernel_rfl
theorem vZ : afo Tryz.prog 62 0 = some 0 := by kernel_rfl
theorem wh : afo Tryz.prog 62 1 = some 1 := by kernel_rfl
theorem H8 : gV Tryz.prog 62 = some [(0, 1), (1, 1)] := by kernel_rfl
theorem kP : asz Tryz.prog 75 = some 2 := by kernel_rfl
theorem uo : azc Tryz.prog 75 = some ([.int .i32 0, .int .i32 0]) := by kernel_rfl
theorem wm : afo Tryz.prog 75 0 = some 0 := by kernel_rfl
theorem wo : afo Tryz.prog 75 1 = some 1 := by kernel_rfl
theorem EJ : gV Tryz.prog 75 = some [(0, 1), (1, 1)] := by kernel_rfl
theorem kQ : asz Tryz.prog 83 = some 2 := by kernel_rfl
theorem Jy : aV Tryz.prog 83 = some 24 := by kernel_rfl
theorem EK : azc Tryz.prog 83 = some ([.int .i64 0, .string ⟨#[]⟩]) := by kernel_rfl
theorem wu : afo Tryz.prog 83 0 = some 0 := by kernel_rfl
theorem BM : afo Tryz.prog 83 1 = some 1 := by kernel_rfl
theorem Jz : gV Tryz.prog 83 = some [(0, 1), (1, 1)] := by kernel_rfl
theorem EL : asz Tryz.prog 96 = some 1 := by kernel_rfl
theorem yC : asz Tryz.prog 98 = some 2 := by kernel_rfl
theorem H9 : azc Tryz.prog 98 = some ([.pointer none, .slice none 0 0]) := by kernel_rfl
theorem wB : afo Tryz.prog 98 0 = some 0 := by kernel_rfl
theorem p8 : afo Tryz.prog 98 1 = some 1 := by kernel_rfl
noncomputable def C (base : Nat) (w0 : World) (G : Nat) : Cx := ⟨Tryz.prog, base, w0, G, fun _ => false, fun _ => false⟩
theorem C_ex (base : Nat) (w0 : World) (G : Nat) (t : TypeId) : (C base w0 G).ex t = (false) := (rfl)
theorem C_P (base : Nat) (w0 : World) (G : Nat) : (C base w0 G).P = Tryz.prog := (rfl)
theorem C_G (base : Nat) (w0 : World) (G : Nat) : (C base w0 G).G = G := (rfl)
theorem mixed : Tryz.prog.follows .mixedOrders = true := by kernel_rfl
attribute [go_sem ↓] GP GM
attribute [go_sem] GQ dI C_ex acap eP xH qc abin anum aun jl cond_true cond_false C_P C_G isTuple Value.cells setL ares kM qF eq_self if_true if_false Go.Abs.one undef gsl jf eT implies_true forall_const alen bV anil isC iW gP
end Go.Proofs.YtohgmkjhbacmpaaGreatDoor
