/- The document's example. No conditions but on the library's tables. -/
import Derived.Test.YtohgmkjhbacmpaaGreatDoorXmGD
import Derived.Lib.MapLaws
set_option linter.unusedVariables false
set_option linter.unusedSimpArgs false
namespace Go.Proofs.YtohgmkjhbacmpaaGreatDoor
open Go Go.Abs Go.RowKit Go.Xml
variable {base : Nat} {w0 : World} {G : Nat}
def awTx : Tx := [60, 97, 32, 120, 61, 34, 49, 38, 35, 57, 59, 50, 34, 62, 60, 33, 45, 45, 99, 45, 45, 62, 116, 60, 47, 97, 62]
def awNs : List Nd := [⟨1, -1, [1, 2], [], [97], [], [⟨[], [120], [], [49, 9, 50]⟩], [], []⟩, ⟨3, 0, [], [], [], [], [], [], [99]⟩, ⟨2, 0, [], [], [], [], [], [], [116]⟩]
theorem za : eB awTx = .ok awNs := by kernel_rfl
set_option maxRecDepth 10000 in
theorem awB {st : St} : aI Tryz.prog st 22 27 [(0, .int .u8 60), (1, .int .u8 97), (2, .int .u8 32), (3, .int .u8 120), (4, .int .u8 61), (5, .int .u8 34), (6, .int .u8 49), (7, .int .u8 38), (8, .int .u8 35), (9, .int .u8 57), (10, .int .u8 59), (11, .int .u8 50), (12, .int .u8 34), (13, .int .u8 62), (14, .int .u8 60), (15, .int .u8 33), (16, .int .u8 45), (17, .int .u8 45), (18, .int .u8 99), (19, .int .u8 45), (20, .int .u8 45), (21, .int .u8 62), (22, .int .u8 116), (23, .int .u8 60), (24, .int .u8 47), (25, .int .u8 97), (26, .int .u8 62)] = some (.slice (some ⟨st.n, 0, none⟩) 27 27, st.new (.cells (nl (nb8 awTx)) 5 true)) := by
  simp [aI, Tryz.underlying22, asz5, azc5, gP, zeros, isTuple, Value.cells, setL, List.replicate, nl, nb8, awTx]
  try rfl
theorem A9 {st : St} {B o n c : Nat} {sp : Option Nat} {cs : List Value} (h : st.H B = some (.cells cs 5 true)) (hc : 0 < c) : bS Tryz.prog st 22 22 (.slice (some ⟨B, o, sp⟩) n c) = some (.slice (some ⟨B, o, sp⟩) n c, st) := by
  simp [bS, Tryz.underlying22, Tryz.underlying5, h, isU8, hc]
set_option maxRecDepth 10000 in
theorem rO (st : St) (r : Hp) (hM : dL w0) (hT : bZ w0) (hO : Own st r) (k q : Value → St → Prop) (hk : ∀ st', Own st' r → k (.bool true) st') : ay (C base w0 3) 8 [] st k q := by
  refine ay.of (cx := C base w0 3) mixed Tryz.func8 rfl (by kernel_rfl) (by simp [Tryz.ntmps8]) ?_
  simp only [Tryz.results8]
  simp -implicitDefEqProofs only [go_sem, ↓aj, ↓ah, ak, Nat.reduceBEq, ↓reduceIte, reduceCtorEq, Nat.reduceEqDiff, Nat.reduceAdd, Nat.reduceLeDiff, Int.reduceEq, Int.reduceLT, Int.reduceLE, Int.reduceAdd, Int.reduceToNat, Int.reduceNeg, Nat.reduceMul, Nat.reduceSub, Int.reduceBNe, Int.reduceBEq, asz5, azc5, Tryz.underlying22, Tryz.underlying5, awB]
  have ho1 := hO.new (.cells (nl (nb8 awTx)) 5 true)
  have hlen : awTx.length = 27 := rfl
  have hX : Nb ((st.n, Ob.cells (nl (nb8 awTx)) 5 true) :: r) (.slice (some ⟨st.n, 0, none⟩) 27 27) (nb8 awTx) := ⟨by
    have := Bs.whole (c := 27) (sp := none) (l := (nb8 awTx).map fun n : Nat => (n : Int)) (List.mem_cons_self (a := (st.n, Ob.cells (nl (nb8 awTx)) 5 true)) (l := r))
    exact this, qK awTx⟩
  have hS : Sl Tryz.prog ((st.n, Ob.cells (nl (nb8 awTx)) 5 true) :: r) (.slice (some ⟨st.n, 0, none⟩) 27 27) 1 := .inr ⟨st.n, 0, none, 27, 27, rfl, Nat.le_refl _, .inl rfl⟩
  simp -implicitDefEqProofs only [go_sem, ↓aj, ↓ah, ak, Nat.reduceBEq, ↓reduceIte, reduceCtorEq, Nat.reduceEqDiff, Nat.reduceAdd, Nat.reduceLeDiff, Int.reduceEq, Int.reduceLT, Int.reduceLE, Int.reduceAdd, Int.reduceToNat, Int.reduceNeg, Nat.reduceMul, Nat.reduceSub, Int.reduceBNe, Int.reduceBEq, A9 (o := 0) (n := 27) (c := 27) (sp := none) ho1.head (by decide)]
  refine au.enter Tryz.func9 rfl (by kernel_rfl) (jX _ _ _ awTx hM hT hX hS (by rw [hlen]; decide) ho1 _ _ (fun ns v h st' hp hD hO2 => ?_) (fun e st' hp hO2 => ?_))
  rotate_left
  · rw [za] at hp; cases hp
  rw [za] at hp
  injection hp with hp
  subst hp
  obtain ⟨cs, hn, hx, rfl, hgv, hnds⟩ := hD
  obtain ⟨c1, cs1, h1, h1', rfl, rfl, ⟨kv1, av1, dv1, hk1, ha1, hd1, rfl, rfl, gk1, ga1, gd1⟩, c2, cs2, h2, h2', rfl, rfl, ⟨kv2, av2, dv2, hk2, ha2, hd2, rfl, rfl, gk2, ga2, gd2⟩, c3, cs3, h3, h3', rfl, rfl, ⟨kv3, av3, dv3, hk3, ha3, hd3, rfl, rfl, gk3, ga3, gd3⟩, rfl, rfl⟩ := hnds
  rcases hgv with ⟨_, h, _⟩ | ⟨B, rfl, rfl, _⟩
  · cases h
  rcases ga1 with ⟨_, h, _⟩ | ⟨A, rfl, rfl, _⟩
  · cases h
  simp -implicitDefEqProofs only [go_sem, ↓aj, ↓ah, ak, Nat.reduceBEq, ↓reduceIte, reduceCtorEq, Nat.reduceEqDiff, Nat.reduceAdd, Nat.reduceLeDiff, Int.reduceEq, Int.reduceLT, Int.reduceLE, Int.reduceAdd, Int.reduceToNat, Int.reduceNeg, Nat.reduceMul, Nat.reduceSub, Int.reduceBNe, Int.reduceBEq, cO, mF, kN, Tryz.underlying26, Tryz.underlying27, cut1, List.length_cons, List.length_nil, List.set_cons_zero, Option.map_some]
  have e3 : awNs.length = 3 := rfl
  have mB : (B, Ob.cells [.int .i64 1, .int .i64 (-1), kv1, .string (tx []), .string (tx [97]), .string (tx []), .slice (some ⟨A, 0, some 0⟩) 1 1, dv1, .string (tx []), .int .i64 3, .int .i64 0, kv2, .string (tx []), .string (tx []), .string (tx []), av2, dv2, .string (tx [99]), .int .i64 2, .int .i64 0, kv3, .string (tx []), .string (tx []), .string (tx []), av3, dv3, .string (tx [116])] 34 true) ∈ ([(B, Ob.cells [.int .i64 1, .int .i64 (-1), kv1, .string (tx []), .string (tx [97]), .string (tx []), .slice (some ⟨A, 0, some 0⟩) 1 1, dv1, .string (tx []), .int .i64 3, .int .i64 0, kv2, .string (tx []), .string (tx []), .string (tx []), av2, dv2, .string (tx [99]), .int .i64 2, .int .i64 0, kv3, .string (tx []), .string (tx []), .string (tx []), av3, dv3, .string (tx [116])] 34 true)] : Hp) := List.mem_singleton.2 rfl
  have hcB := hO2.get (List.mem_append_left _ (List.mem_append_left _ mB))
  have nB := hO2.fresh (List.mem_append_left _ (List.mem_append_left _ mB))
  have mA : (A, Ob.cells [.string (tx []), .string (tx [120]), .string (tx []), .string (tx [49, 9, 50])] 52 true) ∈ ([(A, Ob.cells [.string (tx []), .string (tx [120]), .string (tx []), .string (tx [49, 9, 50])] 52 true)] : Hp) := List.mem_singleton.2 rfl
  have hcA := hO2.get (List.mem_append_left _ (List.mem_append_right _ (List.mem_append_left _ (List.mem_append_right _ (List.mem_append_left _ mA)))))
  have nA := hO2.fresh (List.mem_append_left _ (List.mem_append_right _ (List.mem_append_left _ (List.mem_append_right _ (List.mem_append_left _ mA)))))
  have ho3 := (hO2.new (.cells [.slice none 0 0] 26 true)).set rfl (.cells [.slice (some ⟨B, 0, some 0⟩) 3 3] 26 true) rfl
  have t0 : (⟨#[97]⟩ : ByteArray) = tx [97] := rfl
  have t1 : (⟨#[49, 9, 50]⟩ : ByteArray) = tx [49, 9, 50] := rfl
  have t2 : (⟨#[99]⟩ : ByteArray) = tx [99] := rfl
  have t3 : (⟨#[116]⟩ : ByteArray) = tx [116] := rfl
  simp -implicitDefEqProofs only [go_sem, ↓aj, ↓ah, ak, Nat.reduceBEq, ↓reduceIte, reduceCtorEq, Nat.reduceEqDiff, Nat.reduceAdd, Nat.reduceLeDiff, Int.reduceEq, Int.reduceLT, Int.reduceLE, Int.reduceAdd, Int.reduceToNat, Int.reduceNeg, Nat.reduceMul, Nat.reduceSub, Int.reduceBNe, Int.reduceBEq, e3, t0, t1, t2, t3, hcB, hcA, nB, nA, aA, decide_true, pW, mG, vX, dF, pX, vY, asz9, asz3, iO, gI, dH, gQ, Tryz.underlying9, Tryz.underlying3, Tryz.underlying31, Tryz.underlying52, Tryz.underlying34, Tryz.underlying24, cut1, List.length_cons, List.length_nil, List.set_cons_zero, Option.map_some, List.getElem?_cons_succ, List.getElem?_cons_zero]
  exact hk _ ho3.tail.right.tail
end Go.Proofs.YtohgmkjhbacmpaaGreatDoor
set_option linter.unusedVariables false
set_option linter.unusedSimpArgs false
namespace Go.Proofs.YtohgmkjhbacmpaaGreatDoor
open Go Go.Abs Go.RowKit Go.Xml
variable {base : Nat} {w0 : World} {G : Nat}
theorem BU {b : Bool} {x y : Prop} (h1 : b = true → x) (h2 : b = false → y) : dJ (.bool b) true (stop x .mk) (stop y .mk) := ⟨h1, h2⟩
theorem BX {b : Bool} {x y : Prop} (h1 : b = false → x) (h2 : b = true → y) : dJ (.bool b) false (stop x .mk) (stop y .mk) := ⟨h1, h2⟩
theorem Fb {a b : Int} {x y : Prop} (h1 : (a == b) = true → x) (h2 : (a == b) = false → y) : dJ (.bool (a == b)) true (stop x .mk) (stop y .mk) := BU h1 h2
theorem Fe {a b : Int} {x y : Prop} (h1 : (a == b) = false → x) (h2 : (a == b) = true → y) : dJ (.bool (a == b)) false (stop x .mk) (stop y .mk) := BX h1 h2
theorem Fg {p : Prop} [Decidable p] {x y : Prop} (h1 : p → x) (h2 : ¬ p → y) : dJ (.bool (decide p)) true (stop x .mk) (stop y .mk) := ⟨fun h => h1 (of_decide_eq_true h), fun h => h2 (of_decide_eq_false h)⟩
theorem Fh {p : Prop} [Decidable p] {x y : Prop} (h1 : ¬ p → x) (h2 : p → y) : dJ (.bool (decide p)) false (stop x .mk) (stop y .mk) := ⟨fun h => h1 (of_decide_eq_false h), fun h => h2 (of_decide_eq_true h)⟩
theorem lJ (c : Nat) (b : Bool) (h : ((c : Int) = 9 ∨ (c : Int) = 10 ∨ (c : Int) = 13 ∨ (32 ≤ (c : Int) ∧ (c : Int) ≤ 55295) ∨ (57344 ≤ (c : Int) ∧ (c : Int) ≤ 65533) ∨ (65536 ≤ (c : Int) ∧ (c : Int) ≤ 1114111)) ↔ b = true) : aR c = b := by
  have : aR c = true ↔ b = true := by
    rw [← h]
    unfold aR
    simp only [Bool.or_eq_true, Bool.and_eq_true, decide_eq_true_eq]
    omega
  exact Bool.eq_iff_iff.2 this
set_option maxRecDepth 10000 in
theorem Ba (st : St) (c : Nat) (k q : Value → St → Prop) (hk : k (.bool (aR c)) st) : ay (C base w0 G) 15 [.int .i64 c] st k q := by
  refine ay.of (cx := C base w0 G) mixed Tryz.func15 rfl (by kernel_rfl) (by simp [Tryz.ntmps15]) ?_
  simp only [Tryz.results15]
  simp -implicitDefEqProofs only [go_sem, ↓aj, ↓ah, ak, Nat.reduceBEq, ↓reduceIte, reduceCtorEq, Nat.reduceEqDiff, Nat.reduceAdd, Nat.reduceLeDiff, Int.reduceEq, Int.reduceLT, Int.reduceLE, Int.reduceAdd, Int.reduceToNat, Int.reduceNeg, Nat.reduceMul, Nat.reduceSub, Int.reduceBNe, Int.reduceBEq]
  repeat' ((first | with_reducible refine Fb (fun h => ?_) (fun h => ?_) | with_reducible refine Fe (fun h => ?_) (fun h => ?_) | with_reducible refine Fg (fun h => ?_) (fun h => ?_) | with_reducible refine Fh (fun h => ?_) (fun h => ?_) | with_reducible refine BU (fun h => ?_) (fun h => ?_) | with_reducible refine BX (fun h => ?_) (fun h => ?_)) <;> simp -implicitDefEqProofs only [go_sem, ↓aj, ↓ah, ak, Nat.reduceBEq, ↓reduceIte, reduceCtorEq, Nat.reduceEqDiff, Nat.reduceAdd, Nat.reduceLeDiff, Int.reduceEq, Int.reduceLT, Int.reduceLE, Int.reduceAdd, Int.reduceToNat, Int.reduceNeg, Nat.reduceMul, Nat.reduceSub, Int.reduceBNe, Int.reduceBEq, *, decide_true, decide_false, Bool.not_true, Bool.not_false, Bool.true_and, Bool.false_and, Bool.true_or, Bool.false_or])
  all_goals try simp only [beq_iff_eq, beq_eq_false_iff_ne, decide_eq_true_eq, decide_eq_false_iff_not, Bool.not_true, Bool.not_false] at *
  all_goals first
    | (rw [lJ c true (by simp only [iff_true]; omega)] at hk; exact hk)
    | (rw [lJ c false (by simp only [Bool.false_eq_true, iff_false]; omega)] at hk; exact hk)
    | (rw [lJ c (decide ((c : Int) ≤ 1114111)) (by simp only [decide_eq_true_eq]; omega)] at hk; exact hk)
    | skip
end Go.Proofs.YtohgmkjhbacmpaaGreatDoor
set_option linter.unusedVariables false
set_option linter.unusedSimpArgs false
namespace Go.Proofs.YtohgmkjhbacmpaaGreatDoor
open Go Go.Abs Go.RowKit Go.Xml
variable {base : Nat} {w0 : World} {G : Nat}
end Go.Proofs.YtohgmkjhbacmpaaGreatDoor
set_option linter.unusedVariables false
set_option linter.unusedSimpArgs false
namespace Go.Proofs.YtohgmkjhbacmpaaGreatDoor
open Go Go.Abs Go.RowKit Go.Xml
end Go.Proofs.YtohgmkjhbacmpaaGreatDoor
set_option linter.unusedVariables false
set_option linter.unusedSimpArgs false
namespace Go.Proofs.YtohgmkjhbacmpaaGreatDoor
open Go Go.Abs Go.RowKit Go.Xml
variable {base : Nat} {w0 : World} {G : Nat}
end Go.Proofs.YtohgmkjhbacmpaaGreatDoor
