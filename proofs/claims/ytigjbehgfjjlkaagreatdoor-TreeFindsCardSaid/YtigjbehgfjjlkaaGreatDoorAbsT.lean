/- What the types are: closed facts, by a program. -/
import Derived.Test.YtigjbehgfjjlkaaGreatDoorAbsU
import Derived.Test.YtigjbehgfjjlkaaGreatDoorRows
import Derived.KernelRfl
import Derived.Attr
namespace Go.Proofs.YtigjbehgfjjlkaaGreatDoor
open Go.Abs
theorem asz3 : asz Tryz.prog 3 = some 1 := by kernel_rfl
theorem aby3 : bq Tryz.prog 3 = some 8 := by kernel_rfl
theorem azc3 : azc Tryz.prog 3 = some ([.int .i64 0]) := by kernel_rfl
theorem asz4 : asz Tryz.prog 4 = some 1 := by kernel_rfl
theorem asz5 : asz Tryz.prog 5 = some 1 := by kernel_rfl
theorem aby5 : bq Tryz.prog 5 = some 1 := by kernel_rfl
theorem azc5 : azc Tryz.prog 5 = some ([.int .u8 0]) := by kernel_rfl
theorem cof5 : Tryz.prog.cellsOf 5 = 1 := by kernel_rfl
theorem asz9 : asz Tryz.prog 9 = some 1 := by kernel_rfl
theorem aby9 : bq Tryz.prog 9 = some 16 := by kernel_rfl
theorem azc9 : azc Tryz.prog 9 = some ([.string ⟨#[]⟩]) := by kernel_rfl
theorem cof9 : Tryz.prog.cellsOf 9 = 1 := by kernel_rfl
theorem BP : asz Tryz.prog 21 = some 1 := by kernel_rfl
theorem aQ : asz Tryz.prog 22 = some 1 := by kernel_rfl
theorem cB : asz Tryz.prog 24 = some 1 := by kernel_rfl
theorem rP : azc Tryz.prog 24 = some ([.slice none 0 0]) := by kernel_rfl
theorem aM : afo Tryz.prog 24 0 = some 0 := by kernel_rfl
theorem uR : iU Tryz.prog 24 = some [(0, 1)] := by kernel_rfl
theorem rQ : asz Tryz.prog 27 = some 1 := by kernel_rfl
theorem GN : azc Tryz.prog 27 = some ([.int .i64 0]) := by kernel_rfl
theorem uS : asz Tryz.prog 31 = some 1 := by kernel_rfl
theorem iA : afo Tryz.prog 37 0 = some 0 := by kernel_rfl
theorem iB : afo Tryz.prog 37 1 = some 1 := by kernel_rfl
theorem iC : afo Tryz.prog 37 2 = some 2 := by kernel_rfl
theorem iD : afo Tryz.prog 37 3 = some 3 := by kernel_rfl
theorem dw : asz Tryz.prog 47 = some 1 := by kernel_rfl
theorem IW : bq Tryz.prog 47 = some 24 := by kernel_rfl
theorem IY : azc Tryz.prog 47 = some ([.slice none 0 0]) := by kernel_rfl
theorem bH : asz Tryz.prog 52 = some 1 := by kernel_rfl
theorem bE : asz Tryz.prog 53 = some 1 := by kernel_rfl
theorem aB : asz Tryz.prog 55 = some 9 := by kernel_rfl
theorem IZ : bq Tryz.prog 55 = some 152 := by kernel_rfl
theorem jQ : azc Tryz.prog 55 = some ([.int .i64 0, .int .i64 0, .slice none 0 0, .string ⟨#[]⟩, .string ⟨#[]⟩, .string ⟨#[]⟩, .slice none 0 0, .slice none 0 0, .string ⟨#[]⟩]) := by kernel_rfl
theorem bC : afo Tryz.prog 55 0 = some 0 := by kernel_rfl
theorem bg : afo Tryz.prog 55 1 = some 1 := by kernel_rfl
theorem dY : afo Tryz.prog 55 2 = some 2 := by kernel_rfl
theorem gK : afo Tryz.prog 55 3 = some 3 := by kernel_rfl
theorem gL : afo Tryz.prog 55 4 = some 4 := by kernel_rfl
theorem Gb : afo Tryz.prog 55 5 = some 5 := by kernel_rfl
theorem aP : afo Tryz.prog 55 6 = some 6 := by kernel_rfl
theorem aR : afo Tryz.prog 55 7 = some 7 := by kernel_rfl
theorem fD : afo Tryz.prog 55 8 = some 8 := by kernel_rfl
theorem yI : iU Tryz.prog 55 = some [(0, 1), (1, 1), (2, 1), (3, 1), (4, 1), (5, 1), (6, 1), (7, 1), (8, 1)] := by kernel_rfl
theorem dD : asz Tryz.prog 59 = some 4 := by kernel_rfl
theorem GR : bq Tryz.prog 59 = some 64 := by kernel_rfl
theorem kN : azc Tryz.prog 59 = some ([.string ⟨#[]⟩, .string ⟨#[]⟩, .string ⟨#[]⟩, .string ⟨#[]⟩]) := by kernel_rfl
theorem dI : afo Tryz.prog 59 0 = some 0 := by kernel_rfl
theorem eX : afo Tryz.prog 59 1 = some 1 := by kernel_rfl
theorem BQ : afo Tryz.prog 59 2 = some 2 := by kernel_rfl
theorem fE : afo Tryz.prog 59 3 = some 3 := by kernel_rfl
theorem GU : iU Tryz.prog 59 = some [(0, 1), (1, 1), (2, 1), (3, 1)] := by kernel_rfl
theorem fq : asz Tryz.prog 61 = some 2 := by kernel_rfl
theorem GX : bq Tryz.prog 61 = some 32 := by kernel_rfl
theorem kW : azc Tryz.prog 61 = some ([.string ⟨#[]⟩, .string ⟨#[]⟩]) := by kernel_rfl
theorem fF : afo Tryz.prog 61 0 = some 0 := by kernel_rfl
theorem fG : afo Tryz.prog 61 1 = some 1 := by kernel_rfl
theorem GY : iU Tryz.prog 61 = some [(0, 1), (1, 1)] := by kernel_rfl
theorem ED : asz Tryz.prog 62 = some 1 := by kernel_rfl
theorem uT : asz Tryz.prog 64 = some 2 := by kernel_rfl
theorem BR : azc Tryz.prog 64 = some ([.pointer none, .slice none 0 0]) := by kernel_rfl
theorem wF : afo Tryz.prog 64 0 = some 0 := by kernel_rfl
theorem lM : afo Tryz.prog 64 1 = some 1 := by kernel_rfl
theorem qb : asz Tryz.prog 67 = some 1 := by kernel_rfl
theorem iR : asz Tryz.prog 74 = some 1 := by kernel_rfl
theorem I4 : asz Tryz.prog 76 = some 4 := by kernel_rfl
theorem I5 : azc Tryz.prog 76 = some ([.string ⟨#[]⟩, .slice none 0 0, .slice none 0 0, .bool false]) := by kernel_rfl
theorem aN : afo Tryz.prog 76 0 = some 0 := by kernel_rfl
theorem fH : afo Tryz.prog 76 1 = some 1 := by kernel_rfl
theorem dF : afo Tryz.prog 76 2 = some 2 := by kernel_rfl
theorem nN : afo Tryz.prog 76 3 = some 3 := by kernel_rfl
theorem I6 : iU Tryz.prog 76 = some [(0, 1), (1, 1), (2, 1), (3, 1)] := by kernel_rfl
theorem jB : asz Tryz.prog 101 = some 2 := by kernel_rfl
theorem oZ : azc Tryz.prog 101 = some ([.int .i32 0, .int .i32 0]) := by kernel_rfl
theorem rR : afo Tryz.prog 101 0 = some 0 := by kernel_rfl
theorem rT : afo Tryz.prog 101 1 = some 1 := by kernel_rfl
theorem Az : iU Tryz.prog 101 = some [(0, 1), (1, 1)] := by kernel_rfl
theorem jC : asz Tryz.prog 109 = some 2 := by kernel_rfl
theorem Ib : bq Tryz.prog 109 = some 24 := by kernel_rfl
theorem AA : azc Tryz.prog 109 = some ([.int .i64 0, .string ⟨#[]⟩]) := by kernel_rfl
theorem rU : afo Tryz.prog 109 0 = some 0 := by kernel_rfl
theorem yJ : afo Tryz.prog 109 1 = some 1 := by kernel_rfl
theorem Ic : iU Tryz.prog 109 = some [(0, 1), (1, 1)] := by kernel_rfl
noncomputable def C (base : Nat) (w0 : World) (G : Nat) : Cx := ⟨Tryz.prog, base, w0, G, fun _ => false, fun _ => false⟩
theorem C_ex (base : Nat) (w0 : World) (G : Nat) (t : TypeId) : (C base w0 G).ex t = (false) := (rfl)
theorem C_P (base : Nat) (w0 : World) (G : Nat) : (C base w0 G).P = Tryz.prog := (rfl)
theorem C_G (base : Nat) (w0 : World) (G : Nat) : (C base w0 G).G = G := (rfl)
theorem mixed : Tryz.prog.follows .mixedOrders = true := by kernel_rfl
attribute [go_sem ↓] GP GM
attribute [go_sem] GQ dX C_ex acap fM xM qR abin anum aun jZ cond_true cond_false C_P C_G isTuple Value.cells setL ares lY rG eq_self if_true if_false Go.Abs.one undef gsl jL fO implies_true forall_const alen cu anil isC jA iQ
end Go.Proofs.YtigjbehgfjjlkaaGreatDoor
