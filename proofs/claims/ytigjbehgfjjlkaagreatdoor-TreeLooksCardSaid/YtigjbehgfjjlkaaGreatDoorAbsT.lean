/- What the types are: closed facts, by a program. -/
import Derived.Test.YtigjbehgfjjlkaaGreatDoorAbsU
import Derived.Test.YtigjbehgfjjlkaaGreatDoorRows
import Derived.KernelRfl
import Derived.Attr
namespace Go.Proofs.YtigjbehgfjjlkaaGreatDoor
open Go.Abs
theorem asz3 : asz Tryz.prog 3 = some 1 := by kernel_rfl
theorem aby3 : bE Tryz.prog 3 = some 8 := by kernel_rfl
theorem azc3 : azc Tryz.prog 3 = some ([.int .i64 0]) := by kernel_rfl
theorem asz4 : asz Tryz.prog 4 = some 1 := by kernel_rfl
theorem asz5 : asz Tryz.prog 5 = some 1 := by kernel_rfl
theorem aby5 : bE Tryz.prog 5 = some 1 := by kernel_rfl
theorem azc5 : azc Tryz.prog 5 = some ([.int .u8 0]) := by kernel_rfl
theorem cof5 : Tryz.prog.cellsOf 5 = 1 := by kernel_rfl
theorem asz9 : asz Tryz.prog 9 = some 1 := by kernel_rfl
theorem aby9 : bE Tryz.prog 9 = some 16 := by kernel_rfl
theorem azc9 : azc Tryz.prog 9 = some ([.string ⟨#[]⟩]) := by kernel_rfl
theorem cof9 : Tryz.prog.cellsOf 9 = 1 := by kernel_rfl
theorem Cq : asz Tryz.prog 21 = some 1 := by kernel_rfl
theorem aU : asz Tryz.prog 22 = some 1 := by kernel_rfl
theorem bW : asz Tryz.prog 24 = some 1 := by kernel_rfl
theorem sj : azc Tryz.prog 24 = some ([.slice none 0 0]) := by kernel_rfl
theorem aQ : afo Tryz.prog 24 0 = some 0 := by kernel_rfl
theorem vw : jd Tryz.prog 24 = some [(0, 1)] := by kernel_rfl
theorem su : asz Tryz.prog 27 = some 1 := by kernel_rfl
theorem Hq : azc Tryz.prog 27 = some ([.int .i64 0]) := by kernel_rfl
theorem vB : asz Tryz.prog 31 = some 1 := by kernel_rfl
theorem gK : afo Tryz.prog 37 0 = some 0 := by kernel_rfl
theorem gL : afo Tryz.prog 37 1 = some 1 := by kernel_rfl
theorem gM : afo Tryz.prog 37 2 = some 2 := by kernel_rfl
theorem gN : afo Tryz.prog 37 3 = some 3 := by kernel_rfl
theorem bK : asz Tryz.prog 47 = some 1 := by kernel_rfl
theorem Ji : bE Tryz.prog 47 = some 24 := by kernel_rfl
theorem Jj : azc Tryz.prog 47 = some ([.slice none 0 0]) := by kernel_rfl
theorem bL : asz Tryz.prog 52 = some 1 := by kernel_rfl
theorem bZ : asz Tryz.prog 53 = some 1 := by kernel_rfl
theorem aC : asz Tryz.prog 55 = some 9 := by kernel_rfl
theorem Jk : bE Tryz.prog 55 = some 152 := by kernel_rfl
theorem jZ : azc Tryz.prog 55 = some ([.int .i64 0, .int .i64 0, .slice none 0 0, .string ⟨#[]⟩, .string ⟨#[]⟩, .string ⟨#[]⟩, .slice none 0 0, .slice none 0 0, .string ⟨#[]⟩]) := by kernel_rfl
theorem aN : afo Tryz.prog 55 0 = some 0 := by kernel_rfl
theorem aY : afo Tryz.prog 55 1 = some 1 := by kernel_rfl
theorem dR : afo Tryz.prog 55 2 = some 2 := by kernel_rfl
theorem gP : afo Tryz.prog 55 3 = some 3 := by kernel_rfl
theorem bX : afo Tryz.prog 55 4 = some 4 := by kernel_rfl
theorem gQ : afo Tryz.prog 55 5 = some 5 := by kernel_rfl
theorem aS : afo Tryz.prog 55 6 = some 6 := by kernel_rfl
theorem aZ : afo Tryz.prog 55 7 = some 7 := by kernel_rfl
theorem eD : afo Tryz.prog 55 8 = some 8 := by kernel_rfl
theorem yY : jd Tryz.prog 55 = some [(0, 1), (1, 1), (2, 1), (3, 1), (4, 1), (5, 1), (6, 1), (7, 1), (8, 1)] := by kernel_rfl
theorem dL : asz Tryz.prog 59 = some 4 := by kernel_rfl
theorem Hr : bE Tryz.prog 59 = some 64 := by kernel_rfl
theorem kY : azc Tryz.prog 59 = some ([.string ⟨#[]⟩, .string ⟨#[]⟩, .string ⟨#[]⟩, .string ⟨#[]⟩]) := by kernel_rfl
theorem dS : afo Tryz.prog 59 0 = some 0 := by kernel_rfl
theorem fB : afo Tryz.prog 59 1 = some 1 := by kernel_rfl
theorem Cr : afo Tryz.prog 59 2 = some 2 := by kernel_rfl
theorem fH : afo Tryz.prog 59 3 = some 3 := by kernel_rfl
theorem Ht : jd Tryz.prog 59 = some [(0, 1), (1, 1), (2, 1), (3, 1)] := by kernel_rfl
theorem iM : asz Tryz.prog 61 = some 2 := by kernel_rfl
theorem Hu : bE Tryz.prog 61 = some 32 := by kernel_rfl
theorem mF : azc Tryz.prog 61 = some ([.string ⟨#[]⟩, .string ⟨#[]⟩]) := by kernel_rfl
theorem jC : afo Tryz.prog 61 0 = some 0 := by kernel_rfl
theorem jD : afo Tryz.prog 61 1 = some 1 := by kernel_rfl
theorem Hw : jd Tryz.prog 61 = some [(0, 1), (1, 1)] := by kernel_rfl
theorem EX : asz Tryz.prog 62 = some 1 := by kernel_rfl
theorem vC : asz Tryz.prog 64 = some 2 := by kernel_rfl
theorem yZ : azc Tryz.prog 64 = some ([.pointer none, .slice none 0 0]) := by kernel_rfl
theorem wW : afo Tryz.prog 64 0 = some 0 := by kernel_rfl
theorem lY : afo Tryz.prog 64 1 = some 1 := by kernel_rfl
theorem qx : asz Tryz.prog 67 = some 1 := by kernel_rfl
theorem iX : asz Tryz.prog 74 = some 1 := by kernel_rfl
theorem Jl : asz Tryz.prog 76 = some 4 := by kernel_rfl
theorem Jm : azc Tryz.prog 76 = some ([.string ⟨#[]⟩, .slice none 0 0, .slice none 0 0, .bool false]) := by kernel_rfl
theorem aR : afo Tryz.prog 76 0 = some 0 := by kernel_rfl
theorem fI : afo Tryz.prog 76 1 = some 1 := by kernel_rfl
theorem dM : afo Tryz.prog 76 2 = some 2 := by kernel_rfl
theorem nT : afo Tryz.prog 76 3 = some 3 := by kernel_rfl
theorem Jo : jd Tryz.prog 76 = some [(0, 1), (1, 1), (2, 1), (3, 1)] := by kernel_rfl
theorem jJ : asz Tryz.prog 101 = some 2 := by kernel_rfl
theorem pF : azc Tryz.prog 101 = some ([.int .i32 0, .int .i32 0]) := by kernel_rfl
theorem sw : afo Tryz.prog 101 0 = some 0 := by kernel_rfl
theorem sD : afo Tryz.prog 101 1 = some 1 := by kernel_rfl
theorem Ba : jd Tryz.prog 101 = some [(0, 1), (1, 1)] := by kernel_rfl
theorem jK : asz Tryz.prog 109 = some 2 := by kernel_rfl
theorem Iy : bE Tryz.prog 109 = some 24 := by kernel_rfl
theorem Bb : azc Tryz.prog 109 = some ([.int .i64 0, .string ⟨#[]⟩]) := by kernel_rfl
theorem sF : afo Tryz.prog 109 0 = some 0 := by kernel_rfl
theorem y5 : afo Tryz.prog 109 1 = some 1 := by kernel_rfl
theorem Iz : jd Tryz.prog 109 = some [(0, 1), (1, 1)] := by kernel_rfl
noncomputable def C (base : Nat) (w0 : World) (G : Nat) : Cx := ⟨Tryz.prog, base, w0, G, fun _ => false, fun _ => false⟩
theorem C_ex (base : Nat) (w0 : World) (G : Nat) (t : TypeId) : (C base w0 G).ex t = (false) := (rfl)
theorem C_P (base : Nat) (w0 : World) (G : Nat) : (C base w0 G).P = Tryz.prog := (rfl)
theorem C_G (base : Nat) (w0 : World) (G : Nat) : (C base w0 G).G = G := (rfl)
theorem mixed : Tryz.prog.follows .mixedOrders = true := by kernel_rfl
attribute [go_sem ↓] GP GM
attribute [go_sem] GQ eG C_ex acap fO yu rz abin anum aun kC cond_true cond_false C_P C_G isTuple Value.cells setL ares mE rV eq_self if_true if_false Go.Abs.one undef gsl jT fP implies_true forall_const alen dz anil isC jI iH
end Go.Proofs.YtigjbehgfjjlkaaGreatDoor
