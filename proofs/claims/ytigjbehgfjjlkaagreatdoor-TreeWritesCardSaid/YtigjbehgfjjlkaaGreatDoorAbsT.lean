/- What the types are: closed facts, by a program. -/
import Derived.Test.YtigjbehgfjjlkaaGreatDoorAbsU
import Derived.Test.YtigjbehgfjjlkaaGreatDoorRows
import Derived.KernelRfl
import Derived.Attr
namespace Go.Proofs.YtigjbehgfjjlkaaGreatDoor
open Go.Abs
theorem asz3 : asz Tryz.prog 3 = some 1 := by kernel_rfl
theorem aby3 : aX Tryz.prog 3 = some 8 := by kernel_rfl
theorem azc3 : azc Tryz.prog 3 = some ([.int .i64 0]) := by kernel_rfl
theorem asz4 : asz Tryz.prog 4 = some 1 := by kernel_rfl
theorem asz5 : asz Tryz.prog 5 = some 1 := by kernel_rfl
theorem aby5 : aX Tryz.prog 5 = some 1 := by kernel_rfl
theorem azc5 : azc Tryz.prog 5 = some ([.int .u8 0]) := by kernel_rfl
theorem cof5 : Tryz.prog.cellsOf 5 = 1 := by kernel_rfl
theorem asz9 : asz Tryz.prog 9 = some 1 := by kernel_rfl
theorem aby9 : aX Tryz.prog 9 = some 16 := by kernel_rfl
theorem azc9 : azc Tryz.prog 9 = some ([.string ⟨#[]⟩]) := by kernel_rfl
theorem cof9 : Tryz.prog.cellsOf 9 = 1 := by kernel_rfl
theorem Bu : asz Tryz.prog 21 = some 1 := by kernel_rfl
theorem bq : asz Tryz.prog 22 = some 1 := by kernel_rfl
theorem eZ : asz Tryz.prog 24 = some 1 := by kernel_rfl
theorem rC : azc Tryz.prog 24 = some ([.slice none 0 0]) := by kernel_rfl
theorem bC : afo Tryz.prog 24 0 = some 0 := by kernel_rfl
theorem uF : iO Tryz.prog 24 = some [(0, 1)] := by kernel_rfl
theorem rD : asz Tryz.prog 27 = some 1 := by kernel_rfl
theorem Gf : azc Tryz.prog 27 = some ([.int .i64 0]) := by kernel_rfl
theorem uG : asz Tryz.prog 31 = some 1 := by kernel_rfl
theorem dx : asz Tryz.prog 47 = some 1 := by kernel_rfl
theorem Ie : aX Tryz.prog 47 = some 24 := by kernel_rfl
theorem Ig : azc Tryz.prog 47 = some ([.slice none 0 0]) := by kernel_rfl
theorem bP : asz Tryz.prog 52 = some 1 := by kernel_rfl
theorem bF : asz Tryz.prog 53 = some 1 := by kernel_rfl
theorem aB : asz Tryz.prog 55 = some 9 := by kernel_rfl
theorem Ih : aX Tryz.prog 55 = some 152 := by kernel_rfl
theorem jM : azc Tryz.prog 55 = some ([.int .i64 0, .int .i64 0, .slice none 0 0, .string ⟨#[]⟩, .string ⟨#[]⟩, .string ⟨#[]⟩, .slice none 0 0, .slice none 0 0, .string ⟨#[]⟩]) := by kernel_rfl
theorem aS : afo Tryz.prog 55 0 = some 0 := by kernel_rfl
theorem bA : afo Tryz.prog 55 1 = some 1 := by kernel_rfl
theorem dW : afo Tryz.prog 55 2 = some 2 := by kernel_rfl
theorem eT : afo Tryz.prog 55 3 = some 3 := by kernel_rfl
theorem dQ : afo Tryz.prog 55 4 = some 4 := by kernel_rfl
theorem FH : afo Tryz.prog 55 5 = some 5 := by kernel_rfl
theorem aL : afo Tryz.prog 55 6 = some 6 := by kernel_rfl
theorem aM : afo Tryz.prog 55 7 = some 7 := by kernel_rfl
theorem dB : afo Tryz.prog 55 8 = some 8 := by kernel_rfl
theorem yx : iO Tryz.prog 55 = some [(0, 1), (1, 1), (2, 1), (3, 1), (4, 1), (5, 1), (6, 1), (7, 1), (8, 1)] := by kernel_rfl
theorem fq : asz Tryz.prog 59 = some 4 := by kernel_rfl
theorem Gg : aX Tryz.prog 59 = some 64 := by kernel_rfl
theorem nG : azc Tryz.prog 59 = some ([.string ⟨#[]⟩, .string ⟨#[]⟩, .string ⟨#[]⟩, .string ⟨#[]⟩]) := by kernel_rfl
theorem fG : afo Tryz.prog 59 0 = some 0 := by kernel_rfl
theorem iP : afo Tryz.prog 59 1 = some 1 := by kernel_rfl
theorem Bv : afo Tryz.prog 59 2 = some 2 := by kernel_rfl
theorem jk : afo Tryz.prog 59 3 = some 3 := by kernel_rfl
theorem Gh : iO Tryz.prog 59 = some [(0, 1), (1, 1), (2, 1), (3, 1)] := by kernel_rfl
theorem fu : asz Tryz.prog 61 = some 2 := by kernel_rfl
theorem Gi : aX Tryz.prog 61 = some 32 := by kernel_rfl
theorem kR : azc Tryz.prog 61 = some ([.string ⟨#[]⟩, .string ⟨#[]⟩]) := by kernel_rfl
theorem fH : afo Tryz.prog 61 0 = some 0 := by kernel_rfl
theorem fI : afo Tryz.prog 61 1 = some 1 := by kernel_rfl
theorem Gj : iO Tryz.prog 61 = some [(0, 1), (1, 1)] := by kernel_rfl
theorem Ec : asz Tryz.prog 62 = some 1 := by kernel_rfl
theorem uH : asz Tryz.prog 64 = some 2 := by kernel_rfl
theorem Bw : azc Tryz.prog 64 = some ([.pointer none, .slice none 0 0]) := by kernel_rfl
theorem wh : afo Tryz.prog 64 0 = some 0 := by kernel_rfl
theorem lu : afo Tryz.prog 64 1 = some 1 := by kernel_rfl
theorem pU : asz Tryz.prog 67 = some 1 := by kernel_rfl
theorem iL : asz Tryz.prog 74 = some 1 := by kernel_rfl
theorem Ii : asz Tryz.prog 76 = some 4 := by kernel_rfl
theorem Ij : azc Tryz.prog 76 = some ([.string ⟨#[]⟩, .slice none 0 0, .slice none 0 0, .bool false]) := by kernel_rfl
theorem aJ : afo Tryz.prog 76 0 = some 0 := by kernel_rfl
theorem fJ : afo Tryz.prog 76 1 = some 1 := by kernel_rfl
theorem dz : afo Tryz.prog 76 2 = some 2 := by kernel_rfl
theorem nH : afo Tryz.prog 76 3 = some 3 := by kernel_rfl
theorem Ik : iO Tryz.prog 76 = some [(0, 1), (1, 1), (2, 1), (3, 1)] := by kernel_rfl
theorem jw : asz Tryz.prog 101 = some 2 := by kernel_rfl
theorem oQ : azc Tryz.prog 101 = some ([.int .i32 0, .int .i32 0]) := by kernel_rfl
theorem rE : afo Tryz.prog 101 0 = some 0 := by kernel_rfl
theorem rF : afo Tryz.prog 101 1 = some 1 := by kernel_rfl
theorem Aj : iO Tryz.prog 101 = some [(0, 1), (1, 1)] := by kernel_rfl
theorem jy : asz Tryz.prog 109 = some 2 := by kernel_rfl
theorem GZ : aX Tryz.prog 109 = some 24 := by kernel_rfl
theorem Ak : azc Tryz.prog 109 = some ([.int .i64 0, .string ⟨#[]⟩]) := by kernel_rfl
theorem rG : afo Tryz.prog 109 0 = some 0 := by kernel_rfl
theorem yA : afo Tryz.prog 109 1 = some 1 := by kernel_rfl
theorem G5 : iO Tryz.prog 109 = some [(0, 1), (1, 1)] := by kernel_rfl
noncomputable def C (base : Nat) (w0 : World) (G : Nat) : Cx := ⟨Tryz.prog, base, w0, G, fun _ => false, fun _ => false⟩
theorem C_ex (base : Nat) (w0 : World) (G : Nat) (t : TypeId) : (C base w0 G).ex t = (false) := (rfl)
theorem C_P (base : Nat) (w0 : World) (G : Nat) : (C base w0 G).P = Tryz.prog := (rfl)
theorem C_G (base : Nat) (w0 : World) (G : Nat) : (C base w0 G).G = G := (rfl)
theorem mixed : Tryz.prog.follows .mixedOrders = true := by kernel_rfl
attribute [go_sem ↓] GP GM
attribute [go_sem] GQ dU C_ex acap fO xC qI abin anum aun jV cond_true cond_false C_P C_G isTuple Value.cells setL ares lM q8 eq_self if_true if_false Go.Abs.one undef gsl jH fP implies_true forall_const alen bX anil isC jv iK
end Go.Proofs.YtigjbehgfjjlkaaGreatDoor
