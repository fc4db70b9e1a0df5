/- What the types are: closed facts, by a program. -/
import Derived.Test.YtohgmkjhbacmpaaGreatDoorAbsU
import Derived.Test.YtohgmkjhbacmpaaGreatDoorRows
import Derived.KernelRfl
import Derived.Attr
namespace Go.Proofs.YtohgmkjhbacmpaaGreatDoor
open Go.Abs
theorem asz3 : asz Tryz.prog 3 = some 1 := by kernel_rfl
theorem aby3 : aX Tryz.prog 3 = some 8 := by kernel_rfl
theorem azc3 : azc Tryz.prog 3 = some ([.int .i64 0]) := by kernel_rfl
theorem asz4 : asz Tryz.prog 4 = some 1 := by kernel_rfl
theorem asz5 : asz Tryz.prog 5 = some 1 := by kernel_rfl
theorem aby5 : aX Tryz.prog 5 = some 1 := by kernel_rfl
theorem azc5 : azc Tryz.prog 5 = some ([.int .u8 0]) := by kernel_rfl
theorem cof5 : Tryz.prog.cellsOf 5 = 1 := by kernel_rfl
theorem asz9 : asz Tryz.prog 9 = some 1 := by kernel_rfl
theorem aby9 : aX Tryz.prog 9 = some 16 := by kernel_rfl
theorem azc9 : azc Tryz.prog 9 = some ([.string ⟨#[]⟩]) := by kernel_rfl
theorem cof9 : Tryz.prog.cellsOf 9 = 1 := by kernel_rfl
theorem BP : asz Tryz.prog 21 = some 1 := by kernel_rfl
theorem BQ : asz Tryz.prog 22 = some 1 := by kernel_rfl
theorem dK : asz Tryz.prog 24 = some 1 := by kernel_rfl
theorem j4 : asz Tryz.prog 26 = some 1 := by kernel_rfl
theorem kF : azc Tryz.prog 26 = some ([.slice none 0 0]) := by kernel_rfl
theorem eX : afo Tryz.prog 26 0 = some 0 := by kernel_rfl
theorem uG : iy Tryz.prog 26 = some [(0, 1)] := by kernel_rfl
theorem qX : asz Tryz.prog 27 = some 1 := by kernel_rfl
theorem H6 : azc Tryz.prog 27 = some ([.int .i64 0]) := by kernel_rfl
theorem kG : asz Tryz.prog 30 = some 1 := by kernel_rfl
theorem j5 : asz Tryz.prog 31 = some 1 := by kernel_rfl
theorem iL : asz Tryz.prog 32 = some 1 := by kernel_rfl
theorem dx : asz Tryz.prog 34 = some 9 := by kernel_rfl
theorem Jv : aX Tryz.prog 34 = some 152 := by kernel_rfl
theorem pG : azc Tryz.prog 34 = some ([.int .i64 0, .int .i64 0, .slice none 0 0, .string ⟨#[]⟩, .string ⟨#[]⟩, .string ⟨#[]⟩, .slice none 0 0, .slice none 0 0, .string ⟨#[]⟩]) := by kernel_rfl
theorem iY : afo Tryz.prog 34 0 = some 0 := by kernel_rfl
theorem fT : afo Tryz.prog 34 1 = some 1 := by kernel_rfl
theorem iZ : afo Tryz.prog 34 2 = some 2 := by kernel_rfl
theorem wo : afo Tryz.prog 34 3 = some 3 := by kernel_rfl
theorem wu : afo Tryz.prog 34 4 = some 4 := by kernel_rfl
theorem BR : afo Tryz.prog 34 5 = some 5 := by kernel_rfl
theorem d9 : afo Tryz.prog 34 6 = some 6 := by kernel_rfl
theorem dL : afo Tryz.prog 34 7 = some 7 := by kernel_rfl
theorem wz : afo Tryz.prog 34 8 = some 8 := by kernel_rfl
theorem yH : iy Tryz.prog 34 = some [(0, 1), (1, 1), (2, 1), (3, 1), (4, 1), (5, 1), (6, 1), (7, 1), (8, 1)] := by kernel_rfl
theorem iM : asz Tryz.prog 52 = some 4 := by kernel_rfl
theorem H7 : aX Tryz.prog 52 = some 64 := by kernel_rfl
theorem pI : azc Tryz.prog 52 = some ([.string ⟨#[]⟩, .string ⟨#[]⟩, .string ⟨#[]⟩, .string ⟨#[]⟩]) := by kernel_rfl
theorem qw : afo Tryz.prog 52 0 = some 0 := by kernel_rfl
theorem GA : afo Tryz.prog 52 1 = some 1 := by kernel_rfl
theorem BS : afo Tryz.prog 52 2 = some 2 := by kernel_rfl
theorem GD : afo Tryz.prog 52 3 = some 3 := by kernel_rfl
theorem H8 : iy Tryz.prog 52 = some [(0, 1), (1, 1), (2, 1), (3, 1)] := by kernel_rfl
theorem ig : asz Tryz.prog 57 = some 1 := by kernel_rfl
theorem Jw : asz Tryz.prog 59 = some 4 := by kernel_rfl
theorem Jy : azc Tryz.prog 59 = some ([.string ⟨#[]⟩, .slice none 0 0, .slice none 0 0, .bool false]) := by kernel_rfl
theorem aJ : afo Tryz.prog 59 0 = some 0 := by kernel_rfl
theorem eY : afo Tryz.prog 59 1 = some 1 := by kernel_rfl
theorem cK : afo Tryz.prog 59 2 = some 2 := by kernel_rfl
theorem mZ : afo Tryz.prog 59 3 = some 3 := by kernel_rfl
theorem Jz : iy Tryz.prog 59 = some [(0, 1), (1, 1), (2, 1), (3, 1)] := by kernel_rfl
theorem kH : asz Tryz.prog 62 = some 2 := by kernel_rfl
theorem H9 : aX Tryz.prog 62 = some 32 := by kernel_rfl
theorem pJ : azc Tryz.prog 62 = some ([.string ⟨#[]⟩, .string ⟨#[]⟩]) := by kernel_rfl
theorem wB : afo Tryz.prog 62 0 = some 0 := by kernel_rfl
theorem wC : afo Tryz.prog 62 1 = some 1 := by kernel_rfl
theorem Ia : iy Tryz.prog 62 = some [(0, 1), (1, 1)] := by kernel_rfl
theorem lH : asz Tryz.prog 75 = some 2 := by kernel_rfl
theorem uH : azc Tryz.prog 75 = some ([.int .i32 0, .int .i32 0]) := by kernel_rfl
theorem wD : afo Tryz.prog 75 0 = some 0 := by kernel_rfl
theorem wE : afo Tryz.prog 75 1 = some 1 := by kernel_rfl
theorem ES : iy Tryz.prog 75 = some [(0, 1), (1, 1)] := by kernel_rfl
theorem lI : asz Tryz.prog 83 = some 2 := by kernel_rfl
theorem JA : aX Tryz.prog 83 = some 24 := by kernel_rfl
theorem ET : azc Tryz.prog 83 = some ([.int .i64 0, .string ⟨#[]⟩]) := by kernel_rfl
theorem wF : afo Tryz.prog 83 0 = some 0 := by kernel_rfl
theorem BU : afo Tryz.prog 83 1 = some 1 := by kernel_rfl
theorem JB : iy Tryz.prog 83 = some [(0, 1), (1, 1)] := by kernel_rfl
theorem EU : asz Tryz.prog 96 = some 1 := by kernel_rfl
theorem yI : asz Tryz.prog 98 = some 2 := by kernel_rfl
theorem Ib : azc Tryz.prog 98 = some ([.pointer none, .slice none 0 0]) := by kernel_rfl
theorem wG : afo Tryz.prog 98 0 = some 0 := by kernel_rfl
theorem qx : afo Tryz.prog 98 1 = some 1 := by kernel_rfl
noncomputable def C (base : Nat) (w0 : World) (G : Nat) : Cx := ⟨Tryz.prog, base, w0, G, fun _ => false, fun _ => false⟩
theorem C_ex (base : Nat) (w0 : World) (G : Nat) (t : TypeId) : (C base w0 G).ex t = (false) := (rfl)
theorem C_P (base : Nat) (w0 : World) (G : Nat) : (C base w0 G).P = Tryz.prog := (rfl)
theorem C_G (base : Nat) (w0 : World) (G : Nat) : (C base w0 G).G = G := (rfl)
theorem mixed : Tryz.prog.follows .mixedOrders = true := by kernel_rfl
attribute [go_sem ↓] GP GM
attribute [go_sem] GQ dI C_ex acap fq xO qA abin anum aun jF cond_true cond_false C_P C_G isTuple Value.cells setL ares lG qQ eq_self if_true if_false Go.Abs.one undef gsl jr fu implies_true forall_const alen bQ anil isC jg gZ
end Go.Proofs.YtohgmkjhbacmpaaGreatDoor
