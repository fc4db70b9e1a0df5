/- What the types are: closed facts, by a program. -/
import Derived.Test.YtigjbehgfjjlkaaGreatDoorAbsU
import Derived.Test.YtigjbehgfjjlkaaGreatDoorRows
import Derived.KernelRfl
import Derived.Attr
namespace Go.Proofs.YtigjbehgfjjlkaaGreatDoor
open Go.Abs
theorem asz3 : asz Tryz.prog 3 = some 1 := by kernel_rfl
theorem aby3 : bq Tryz.prog 3 = some 8 := by kernel_rfl
theorem azc3 : azc Tryz.prog 3 = some ([.int .i64 0]) := by kernel_rfl
theorem asz4 : asz Tryz.prog 4 = some 1 := by kernel_rfl
theorem asz5 : asz Tryz.prog 5 = some 1 := by kernel_rfl
theorem aby5 : bq Tryz.prog 5 = some 1 := by kernel_rfl
theorem azc5 : azc Tryz.prog 5 = some ([.int .u8 0]) := by kernel_rfl
theorem cof5 : Tryz.prog.cellsOf 5 = 1 := by kernel_rfl
theorem asz9 : asz Tryz.prog 9 = some 1 := by kernel_rfl
theorem aby9 : bq Tryz.prog 9 = some 16 := by kernel_rfl
theorem azc9 : azc Tryz.prog 9 = some ([.string ⟨#[]⟩]) := by kernel_rfl
theorem cof9 : Tryz.prog.cellsOf 9 = 1 := by kernel_rfl
theorem Et : asz Tryz.prog 21 = some 1 := by kernel_rfl
theorem eT : asz Tryz.prog 22 = some 1 := by kernel_rfl
theorem gT : asz Tryz.prog 24 = some 1 := by kernel_rfl
theorem mh : azc Tryz.prog 24 = some ([.slice none 0 0]) := by kernel_rfl
theorem jg : afo Tryz.prog 24 0 = some 0 := by kernel_rfl
theorem wP : jf Tryz.prog 24 = some [(0, 1)] := by kernel_rfl
theorem tZ : asz Tryz.prog 27 = some 1 := by kernel_rfl
theorem Km : azc Tryz.prog 27 = some ([.int .i64 0]) := by kernel_rfl
theorem wQ : asz Tryz.prog 31 = some 1 := by kernel_rfl
theorem iM : asz Tryz.prog 47 = some 1 := by kernel_rfl
theorem LX : bq Tryz.prog 47 = some 24 := by kernel_rfl
theorem LY : azc Tryz.prog 47 = some ([.slice none 0 0]) := by kernel_rfl
theorem iO : asz Tryz.prog 52 = some 1 := by kernel_rfl
theorem fI : asz Tryz.prog 53 = some 1 := by kernel_rfl
theorem aU : asz Tryz.prog 55 = some 9 := by kernel_rfl
theorem LZ : bq Tryz.prog 55 = some 152 := by kernel_rfl
theorem nH : azc Tryz.prog 55 = some ([.int .i64 0, .int .i64 0, .slice none 0 0, .string ⟨#[]⟩, .string ⟨#[]⟩, .string ⟨#[]⟩, .slice none 0 0, .slice none 0 0, .string ⟨#[]⟩]) := by kernel_rfl
theorem fD : afo Tryz.prog 55 0 = some 0 := by kernel_rfl
theorem fE : afo Tryz.prog 55 1 = some 1 := by kernel_rfl
theorem kZ : afo Tryz.prog 55 2 = some 2 := by kernel_rfl
theorem o9 : afo Tryz.prog 55 3 = some 3 := by kernel_rfl
theorem pq : afo Tryz.prog 55 4 = some 4 := by kernel_rfl
theorem Eu : afo Tryz.prog 55 5 = some 5 := by kernel_rfl
theorem dB : afo Tryz.prog 55 6 = some 6 := by kernel_rfl
theorem bT : afo Tryz.prog 55 7 = some 7 := by kernel_rfl
theorem mW : afo Tryz.prog 55 8 = some 8 := by kernel_rfl
theorem Av : jf Tryz.prog 55 = some [(0, 1), (1, 1), (2, 1), (3, 1), (4, 1), (5, 1), (6, 1), (7, 1), (8, 1)] := by kernel_rfl
theorem iP : asz Tryz.prog 59 = some 4 := by kernel_rfl
theorem Kn : bq Tryz.prog 59 = some 64 := by kernel_rfl
theorem pz : azc Tryz.prog 59 = some ([.string ⟨#[]⟩, .string ⟨#[]⟩, .string ⟨#[]⟩, .string ⟨#[]⟩]) := by kernel_rfl
theorem mX : afo Tryz.prog 59 0 = some 0 := by kernel_rfl
theorem yP : afo Tryz.prog 59 1 = some 1 := by kernel_rfl
theorem Ev : afo Tryz.prog 59 2 = some 2 := by kernel_rfl
theorem Ew : afo Tryz.prog 59 3 = some 3 := by kernel_rfl
theorem Ko : jf Tryz.prog 59 = some [(0, 1), (1, 1), (2, 1), (3, 1)] := by kernel_rfl
theorem jA : asz Tryz.prog 61 = some 2 := by kernel_rfl
theorem Kq : bq Tryz.prog 61 = some 32 := by kernel_rfl
theorem nI : azc Tryz.prog 61 = some ([.string ⟨#[]⟩, .string ⟨#[]⟩]) := by kernel_rfl
theorem pE : afo Tryz.prog 61 0 = some 0 := by kernel_rfl
theorem pF : afo Tryz.prog 61 1 = some 1 := by kernel_rfl
theorem Kr : jf Tryz.prog 61 = some [(0, 1), (1, 1)] := by kernel_rfl
theorem HV : asz Tryz.prog 62 = some 1 := by kernel_rfl
theorem wR : asz Tryz.prog 64 = some 2 := by kernel_rfl
theorem Ey : azc Tryz.prog 64 = some ([.pointer none, .slice none 0 0]) := by kernel_rfl
theorem yQ : afo Tryz.prog 64 0 = some 0 := by kernel_rfl
theorem mY : afo Tryz.prog 64 1 = some 1 := by kernel_rfl
theorem Ez : asz Tryz.prog 67 = some 1 := by kernel_rfl
theorem je : asz Tryz.prog 74 = some 1 := by kernel_rfl
theorem L6 : asz Tryz.prog 76 = some 4 := by kernel_rfl
theorem L8 : azc Tryz.prog 76 = some ([.string ⟨#[]⟩, .slice none 0 0, .slice none 0 0, .bool false]) := by kernel_rfl
theorem aK : afo Tryz.prog 76 0 = some 0 := by kernel_rfl
theorem fP : afo Tryz.prog 76 1 = some 1 := by kernel_rfl
theorem dD : afo Tryz.prog 76 2 = some 2 := by kernel_rfl
theorem pG : afo Tryz.prog 76 3 = some 3 := by kernel_rfl
theorem L9 : jf Tryz.prog 76 = some [(0, 1), (1, 1), (2, 1), (3, 1)] := by kernel_rfl
theorem jZ : asz Tryz.prog 101 = some 2 := by kernel_rfl
theorem qM : azc Tryz.prog 101 = some ([.int .i32 0, .int .i32 0]) := by kernel_rfl
theorem ug : afo Tryz.prog 101 0 = some 0 := by kernel_rfl
theorem uh : afo Tryz.prog 101 1 = some 1 := by kernel_rfl
theorem CW : jf Tryz.prog 101 = some [(0, 1), (1, 1)] := by kernel_rfl
theorem j3 : asz Tryz.prog 109 = some 2 := by kernel_rfl
theorem K6 : bq Tryz.prog 109 = some 24 := by kernel_rfl
theorem CX : azc Tryz.prog 109 = some ([.int .i64 0, .string ⟨#[]⟩]) := by kernel_rfl
theorem uj : afo Tryz.prog 109 0 = some 0 := by kernel_rfl
theorem Aw : afo Tryz.prog 109 1 = some 1 := by kernel_rfl
theorem K7 : jf Tryz.prog 109 = some [(0, 1), (1, 1)] := by kernel_rfl
noncomputable def C (base : Nat) (w0 : World) (G : Nat) : Cx := ⟨Tryz.prog, base, w0, G, fun _ => false, fun _ => false⟩
theorem C_ex (base : Nat) (w0 : World) (G : Nat) (t : TypeId) : (C base w0 G).ex t = (false) := (rfl)
theorem C_P (base : Nat) (w0 : World) (G : Nat) : (C base w0 G).P = Tryz.prog := (rfl)
theorem C_G (base : Nat) (w0 : World) (G : Nat) : (C base w0 G).G = G := (rfl)
theorem mixed : Tryz.prog.follows .mixedOrders = true := by kernel_rfl
attribute [go_sem ↓] GP GM
attribute [go_sem] GQ d9 C_ex acap fT zT sQ abin anum aun kR cond_true cond_false C_P C_G isTuple Value.cells setL ares nG tQ eq_self if_true if_false Go.Abs.one undef gsl kD fU implies_true forall_const alen bW anil isC jY jd
end Go.Proofs.YtigjbehgfjjlkaaGreatDoor
