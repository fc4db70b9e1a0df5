/- What the types are: closed facts, by a program. -/
import Derived.Test.YtohgmkjhbacmpaaGreatDoorAbsU
import Derived.Test.YtohgmkjhbacmpaaGreatDoorRows
import Derived.KernelRfl
import Derived.Attr
namespace Go.Proofs.YtohgmkjhbacmpaaGreatDoor
open Go.Abs
theorem asz3 : asz Tryz.prog 3 = some 1 := by kernel_rfl
theorem aby3 : aY Tryz.prog 3 = some 8 := by kernel_rfl
theorem azc3 : azc Tryz.prog 3 = some ([.int .i64 0]) := by kernel_rfl
theorem asz4 : asz Tryz.prog 4 = some 1 := by kernel_rfl
theorem asz5 : asz Tryz.prog 5 = some 1 := by kernel_rfl
theorem aby5 : aY Tryz.prog 5 = some 1 := by kernel_rfl
theorem azc5 : azc Tryz.prog 5 = some ([.int .u8 0]) := by kernel_rfl
theorem cof5 : Tryz.prog.cellsOf 5 = 1 := by kernel_rfl
theorem asz9 : asz Tryz.prog 9 = some 1 := by kernel_rfl
theorem aby9 : aY Tryz.prog 9 = some 16 := by kernel_rfl
theorem azc9 : azc Tryz.prog 9 = some ([.string ⟨#[]⟩]) := by kernel_rfl
theorem cof9 : Tryz.prog.cellsOf 9 = 1 := by kernel_rfl
theorem Df : asz Tryz.prog 21 = some 1 := by kernel_rfl
theorem Dg : asz Tryz.prog 22 = some 1 := by kernel_rfl
theorem iJ : asz Tryz.prog 24 = some 1 := by kernel_rfl
theorem kg : asz Tryz.prog 26 = some 1 := by kernel_rfl
theorem kG : azc Tryz.prog 26 = some ([.slice none 0 0]) := by kernel_rfl
theorem xH : afo Tryz.prog 26 0 = some 0 := by kernel_rfl
theorem vH : ig Tryz.prog 26 = some [(0, 1)] := by kernel_rfl
theorem rU : asz Tryz.prog 27 = some 1 := by kernel_rfl
theorem Jq : azc Tryz.prog 27 = some ([.int .i64 0]) := by kernel_rfl
theorem qc : asz Tryz.prog 30 = some 1 := by kernel_rfl
theorem ko : asz Tryz.prog 31 = some 1 := by kernel_rfl
theorem iK : asz Tryz.prog 32 = some 1 := by kernel_rfl
theorem dW : asz Tryz.prog 34 = some 9 := by kernel_rfl
theorem KL : aY Tryz.prog 34 = some 152 := by kernel_rfl
theorem rV : azc Tryz.prog 34 = some ([.int .i64 0, .int .i64 0, .slice none 0 0, .string ⟨#[]⟩, .string ⟨#[]⟩, .string ⟨#[]⟩, .slice none 0 0, .slice none 0 0, .string ⟨#[]⟩]) := by kernel_rfl
theorem nD : afo Tryz.prog 34 0 = some 0 := by kernel_rfl
theorem kY : afo Tryz.prog 34 1 = some 1 := by kernel_rfl
theorem nE : afo Tryz.prog 34 2 = some 2 := by kernel_rfl
theorem xI : afo Tryz.prog 34 3 = some 3 := by kernel_rfl
theorem xJ : afo Tryz.prog 34 4 = some 4 := by kernel_rfl
theorem Dh : afo Tryz.prog 34 5 = some 5 := by kernel_rfl
theorem eO : afo Tryz.prog 34 6 = some 6 := by kernel_rfl
theorem dQ : afo Tryz.prog 34 7 = some 7 := by kernel_rfl
theorem xK : afo Tryz.prog 34 8 = some 8 := by kernel_rfl
theorem zI : ig Tryz.prog 34 = some [(0, 1), (1, 1), (2, 1), (3, 1), (4, 1), (5, 1), (6, 1), (7, 1), (8, 1)] := by kernel_rfl
theorem Di : afo Tryz.prog 40 0 = some 0 := by kernel_rfl
theorem Dj : afo Tryz.prog 40 1 = some 1 := by kernel_rfl
theorem Iz : afo Tryz.prog 40 2 = some 2 := by kernel_rfl
theorem IB : afo Tryz.prog 40 3 = some 3 := by kernel_rfl
theorem Jr : asz Tryz.prog 42 = some 1 := by kernel_rfl
theorem iL : asz Tryz.prog 52 = some 4 := by kernel_rfl
theorem Js : aY Tryz.prog 52 = some 64 := by kernel_rfl
theorem qg : azc Tryz.prog 52 = some ([.string ⟨#[]⟩, .string ⟨#[]⟩, .string ⟨#[]⟩, .string ⟨#[]⟩]) := by kernel_rfl
theorem qN : afo Tryz.prog 52 0 = some 0 := by kernel_rfl
theorem IC : afo Tryz.prog 52 1 = some 1 := by kernel_rfl
theorem Dk : afo Tryz.prog 52 2 = some 2 := by kernel_rfl
theorem IE : afo Tryz.prog 52 3 = some 3 := by kernel_rfl
theorem Jt : ig Tryz.prog 52 = some [(0, 1), (1, 1), (2, 1), (3, 1)] := by kernel_rfl
theorem gW : asz Tryz.prog 57 = some 1 := by kernel_rfl
theorem KM : asz Tryz.prog 59 = some 4 := by kernel_rfl
theorem KN : azc Tryz.prog 59 = some ([.string ⟨#[]⟩, .slice none 0 0, .slice none 0 0, .bool false]) := by kernel_rfl
theorem aI : afo Tryz.prog 59 0 = some 0 := by kernel_rfl
theorem fq : afo Tryz.prog 59 1 = some 1 := by kernel_rfl
theorem dn : afo Tryz.prog 59 2 = some 2 := by kernel_rfl
theorem nG : afo Tryz.prog 59 3 = some 3 := by kernel_rfl
theorem KO : ig Tryz.prog 59 = some [(0, 1), (1, 1), (2, 1), (3, 1)] := by kernel_rfl
theorem kH : asz Tryz.prog 62 = some 2 := by kernel_rfl
theorem Ju : aY Tryz.prog 62 = some 32 := by kernel_rfl
theorem qh : azc Tryz.prog 62 = some ([.string ⟨#[]⟩, .string ⟨#[]⟩]) := by kernel_rfl
theorem xL : afo Tryz.prog 62 0 = some 0 := by kernel_rfl
theorem xM : afo Tryz.prog 62 1 = some 1 := by kernel_rfl
theorem Jv : ig Tryz.prog 62 = some [(0, 1), (1, 1)] := by kernel_rfl
theorem lQ : asz Tryz.prog 75 = some 2 := by kernel_rfl
theorem vI : azc Tryz.prog 75 = some ([.int .i32 0, .int .i32 0]) := by kernel_rfl
theorem xO : afo Tryz.prog 75 0 = some 0 := by kernel_rfl
theorem xP : afo Tryz.prog 75 1 = some 1 := by kernel_rfl
theorem Gh : ig Tryz.prog 75 = some [(0, 1), (1, 1)] := by kernel_rfl
theorem lS : asz Tryz.prog 83 = some 2 := by kernel_rfl
theorem KP : aY Tryz.prog 83 = some 24 := by kernel_rfl
theorem Gi : azc Tryz.prog 83 = some ([.int .i64 0, .string ⟨#[]⟩]) := by kernel_rfl
theorem xQ : afo Tryz.prog 83 0 = some 0 := by kernel_rfl
theorem Dl : afo Tryz.prog 83 1 = some 1 := by kernel_rfl
theorem KQ : ig Tryz.prog 83 = some [(0, 1), (1, 1)] := by kernel_rfl
theorem Gj : asz Tryz.prog 96 = some 1 := by kernel_rfl
theorem zJ : asz Tryz.prog 98 = some 2 := by kernel_rfl
theorem Jw : azc Tryz.prog 98 = some ([.pointer none, .slice none 0 0]) := by kernel_rfl
theorem xR : afo Tryz.prog 98 0 = some 0 := by kernel_rfl
theorem qO : afo Tryz.prog 98 1 = some 1 := by kernel_rfl
noncomputable def C (base : Nat) (w0 : World) (G : Nat) : Cx := ⟨Tryz.prog, base, w0, G, fun _ => false, fun _ => false⟩
theorem C_ex (base : Nat) (w0 : World) (G : Nat) (t : TypeId) : (C base w0 G).ex t = (false) := (rfl)
theorem C_P (base : Nat) (w0 : World) (G : Nat) : (C base w0 G).P = Tryz.prog := (rfl)
theorem C_G (base : Nat) (w0 : World) (G : Nat) : (C base w0 G).G = G := (rfl)
theorem mixed : Tryz.prog.follows .mixedOrders = true := by kernel_rfl
attribute [go_sem ↓] GP GM
attribute [go_sem] GQ dN C_ex acap fA yY qX abin anum aun jH cond_true cond_false C_P C_G isTuple Value.cells setL ares lN rO eq_self if_true if_false Go.Abs.one undef gsl jw fB implies_true forall_const alen bW anil isC jh gM
end Go.Proofs.YtohgmkjhbacmpaaGreatDoor
