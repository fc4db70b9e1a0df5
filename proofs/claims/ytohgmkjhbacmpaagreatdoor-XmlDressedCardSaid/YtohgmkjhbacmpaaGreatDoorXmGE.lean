/- The document's example. No conditions but on the library's tables. -/
import Derived.Test.YtohgmkjhbacmpaaGreatDoorXmGD
import Derived.Lib.MapLaws
set_option linter.unusedVariables false
set_option linter.unusedSimpArgs false
namespace Go.Proofs.YtohgmkjhbacmpaaGreatDoor
open Go Go.Abs Go.RowKit Go.Xml
variable {base : Nat} {w0 : World} {G : Nat}
def awTx : Tx := [60, 97, 32, 120, 61, 34, 49, 38, 35, 57, 59, 50, 34, 62, 60, 33, 45, 45, 99, 45, 45, 62, 116, 60, 47, 97, 62]
def awNs : List Nd := [⟨1, -1, [1, 2], [], [97], [], [⟨[], [120], [], [49, 9, 50]⟩], [], []⟩, ⟨3, 0, [], [], [], [], [], [], [99]⟩, ⟨2, 0, [], [], [], [], [], [], [116]⟩]
theorem Ai : bL awTx = .ok awNs := by kernel_rfl
set_option maxRecDepth 10000 in
theorem awB {st : St} : aG Tryz.prog st 22 27 [(0, .int .u8 60), (1, .int .u8 97), (2, .int .u8 32), (3, .int .u8 120), (4, .int .u8 61), (5, .int .u8 34), (6, .int .u8 49), (7, .int .u8 38), (8, .int .u8 35), (9, .int .u8 57), (10, .int .u8 59), (11, .int .u8 50), (12, .int .u8 34), (13, .int .u8 62), (14, .int .u8 60), (15, .int .u8 33), (16, .int .u8 45), (17, .int .u8 45), (18, .int .u8 99), (19, .int .u8 45), (20, .int .u8 45), (21, .int .u8 62), (22, .int .u8 116), (23, .int .u8 60), (24, .int .u8 47), (25, .int .u8 97), (26, .int .u8 62)] = some (.slice (some ⟨st.n, 0, none⟩) 27 27, st.new (.cells (nl (nb8 awTx)) 5 true)) := by
  simp [aG, Tryz.underlying22, asz5, azc5, gM, zeros, isTuple, Value.cells, setL, List.replicate, nl, nb8, awTx]
  try rfl
theorem Cq {st : St} {B o n c : Nat} {sp : Option Nat} {cs : List Value} (h : st.H B = some (.cells cs 5 true)) (hc : 0 < c) : bA Tryz.prog st 22 22 (.slice (some ⟨B, o, sp⟩) n c) = some (.slice (some ⟨B, o, sp⟩) n c, st) := by
  simp [bA, Tryz.underlying22, Tryz.underlying5, h, isU8, hc]
set_option maxRecDepth 10000 in
theorem mF (st : St) (r : Hp) (hM : dR w0) (hT : cO w0) (hO : Own st r) (k q : Value → St → Prop) (hk : ∀ st', Own st' r → k (.bool true) st') : ay (C base w0 3) 8 [] st k q := by
  refine ay.of (cx := C base w0 3) mixed Tryz.func8 rfl (by kernel_rfl) (by simp [Tryz.ntmps8]) ?_
  simp only [Tryz.results8]
  simp -implicitDefEqProofs only [go_sem, ↓aj, ↓ah, ak, Nat.reduceBEq, ↓reduceIte, reduceCtorEq, Nat.reduceEqDiff, Nat.reduceAdd, Nat.reduceLeDiff, Int.reduceEq, Int.reduceLT, Int.reduceLE, Int.reduceAdd, Int.reduceToNat, Int.reduceNeg, Nat.reduceMul, Nat.reduceSub, Int.reduceBNe, Int.reduceBEq, asz5, azc5, Tryz.underlying22, Tryz.underlying5, awB]
  have ho1 := hO.new (.cells (nl (nb8 awTx)) 5 true)
  have hlen : awTx.length = 27 := rfl
  have hX : Nb ((st.n, Ob.cells (nl (nb8 awTx)) 5 true) :: r) (.slice (some ⟨st.n, 0, none⟩) 27 27) (nb8 awTx) := ⟨by
    have := Bs.whole (c := 27) (sp := none) (l := (nb8 awTx).map fun n : Nat => (n : Int)) (List.mem_cons_self (a := (st.n, Ob.cells (nl (nb8 awTx)) 5 true)) (l := r))
    exact this, oP awTx⟩
  have hS : Sl Tryz.prog ((st.n, Ob.cells (nl (nb8 awTx)) 5 true) :: r) (.slice (some ⟨st.n, 0, none⟩) 27 27) 1 := .inr ⟨st.n, 0, none, 27, 27, rfl, Nat.le_refl _, .inl rfl⟩
  simp -implicitDefEqProofs only [go_sem, ↓aj, ↓ah, ak, Nat.reduceBEq, ↓reduceIte, reduceCtorEq, Nat.reduceEqDiff, Nat.reduceAdd, Nat.reduceLeDiff, Int.reduceEq, Int.reduceLT, Int.reduceLE, Int.reduceAdd, Int.reduceToNat, Int.reduceNeg, Nat.reduceMul, Nat.reduceSub, Int.reduceBNe, Int.reduceBEq, Cq (o := 0) (n := 27) (c := 27) (sp := none) ho1.head (by decide)]
  refine au.enter Tryz.func9 rfl (by kernel_rfl) (kN _ _ _ awTx hM hT hX hS (by rw [hlen]; decide) ho1 _ _ (fun ns v h st' hp hD hO2 => ?_) (fun e st' hp hO2 => ?_))
  rotate_left
  · rw [Ai] at hp; cases hp
  rw [Ai] at hp
  injection hp with hp
  subst hp
  obtain ⟨cs, hn, hx, rfl, hgv, hnds⟩ := hD
  obtain ⟨c1, cs1, h1, h1', rfl, rfl, ⟨kv1, av1, dv1, hk1, ha1, hd1, rfl, rfl, gk1, ga1, gd1⟩, c2, cs2, h2, h2', rfl, rfl, ⟨kv2, av2, dv2, hk2, ha2, hd2, rfl, rfl, gk2, ga2, gd2⟩, c3, cs3, h3, h3', rfl, rfl, ⟨kv3, av3, dv3, hk3, ha3, hd3, rfl, rfl, gk3, ga3, gd3⟩, rfl, rfl⟩ := hnds
  rcases hgv with ⟨_, h, _⟩ | ⟨B, rfl, rfl, _⟩
  · cases h
  rcases ga1 with ⟨_, h, _⟩ | ⟨A, rfl, rfl, _⟩
  · cases h
  simp -implicitDefEqProofs only [go_sem, ↓aj, ↓ah, ak, Nat.reduceBEq, ↓reduceIte, reduceCtorEq, Nat.reduceEqDiff, Nat.reduceAdd, Nat.reduceLeDiff, Int.reduceEq, Int.reduceLT, Int.reduceLE, Int.reduceAdd, Int.reduceToNat, Int.reduceNeg, Nat.reduceMul, Nat.reduceSub, Int.reduceBNe, Int.reduceBEq, bV, kG, kg, Tryz.underlying26, Tryz.underlying27, cut1, List.length_cons, List.length_nil, List.set_cons_zero, Option.map_some]
  have e3 : awNs.length = 3 := rfl
  have mB : (B, Ob.cells [.int .i64 1, .int .i64 (-1), kv1, .string (tx []), .string (tx [97]), .string (tx []), .slice (some ⟨A, 0, some 0⟩) 1 1, dv1, .string (tx []), .int .i64 3, .int .i64 0, kv2, .string (tx []), .string (tx []), .string (tx []), av2, dv2, .string (tx [99]), .int .i64 2, .int .i64 0, kv3, .string (tx []), .string (tx []), .string (tx []), av3, dv3, .string (tx [116])] 34 true) ∈ ([(B, Ob.cells [.int .i64 1, .int .i64 (-1), kv1, .string (tx []), .string (tx [97]), .string (tx []), .slice (some ⟨A, 0, some 0⟩) 1 1, dv1, .string (tx []), .int .i64 3, .int .i64 0, kv2, .string (tx []), .string (tx []), .string (tx []), av2, dv2, .string (tx [99]), .int .i64 2, .int .i64 0, kv3, .string (tx []), .string (tx []), .string (tx []), av3, dv3, .string (tx [116])] 34 true)] : Hp) := List.mem_singleton.2 rfl
  have hcB := hO2.get (List.mem_append_left _ (List.mem_append_left _ mB))
  have nB := hO2.fresh (List.mem_append_left _ (List.mem_append_left _ mB))
  have mA : (A, Ob.cells [.string (tx []), .string (tx [120]), .string (tx []), .string (tx [49, 9, 50])] 52 true) ∈ ([(A, Ob.cells [.string (tx []), .string (tx [120]), .string (tx []), .string (tx [49, 9, 50])] 52 true)] : Hp) := List.mem_singleton.2 rfl
  have hcA := hO2.get (List.mem_append_left _ (List.mem_append_right _ (List.mem_append_left _ (List.mem_append_right _ (List.mem_append_left _ mA)))))
  have nA := hO2.fresh (List.mem_append_left _ (List.mem_append_right _ (List.mem_append_left _ (List.mem_append_right _ (List.mem_append_left _ mA)))))
  have ho3 := (hO2.new (.cells [.slice none 0 0] 26 true)).set rfl (.cells [.slice (some ⟨B, 0, some 0⟩) 3 3] 26 true) rfl
  have t0 : (⟨#[97]⟩ : ByteArray) = tx [97] := rfl
  have t1 : (⟨#[49, 9, 50]⟩ : ByteArray) = tx [49, 9, 50] := rfl
  have t2 : (⟨#[99]⟩ : ByteArray) = tx [99] := rfl
  have t3 : (⟨#[116]⟩ : ByteArray) = tx [116] := rfl
  simp -implicitDefEqProofs only [go_sem, ↓aj, ↓ah, ak, Nat.reduceBEq, ↓reduceIte, reduceCtorEq, Nat.reduceEqDiff, Nat.reduceAdd, Nat.reduceLeDiff, Int.reduceEq, Int.reduceLT, Int.reduceLE, Int.reduceAdd, Int.reduceToNat, Int.reduceNeg, Nat.reduceMul, Nat.reduceSub, Int.reduceBNe, Int.reduceBEq, e3, t0, t1, t2, t3, hcB, hcA, nB, nA, aA, decide_true, xH, nD, xJ, eO, xK, IE, asz9, asz3, ko, iL, dW, iJ, Tryz.underlying9, Tryz.underlying3, Tryz.underlying31, Tryz.underlying52, Tryz.underlying34, Tryz.underlying24, cut1, List.length_cons, List.length_nil, List.set_cons_zero, Option.map_some, List.getElem?_cons_succ, List.getElem?_cons_zero]
  exact hk _ ho3.tail.right.tail
end Go.Proofs.YtohgmkjhbacmpaaGreatDoor
set_option linter.unusedVariables false
set_option linter.unusedSimpArgs false
namespace Go.Proofs.YtohgmkjhbacmpaaGreatDoor
open Go Go.Abs Go.RowKit Go.Xml
variable {base : Nat} {w0 : World} {G : Nat}
theorem nW {b : Bool} {x y : Prop} (h1 : b = true → x) (h2 : b = false → y) : dP (.bool b) true (stop x .mk) (stop y .mk) := ⟨h1, h2⟩
theorem nX {b : Bool} {x y : Prop} (h1 : b = false → x) (h2 : b = true → y) : dP (.bool b) false (stop x .mk) (stop y .mk) := ⟨h1, h2⟩
theorem nY {a b : Int} {x y : Prop} (h1 : (a == b) = true → x) (h2 : (a == b) = false → y) : dP (.bool (a == b)) true (stop x .mk) (stop y .mk) := nW h1 h2
theorem nZ {a b : Int} {x y : Prop} (h1 : (a == b) = false → x) (h2 : (a == b) = true → y) : dP (.bool (a == b)) false (stop x .mk) (stop y .mk) := nX h1 h2
theorem og {p : Prop} [Decidable p] {x y : Prop} (h1 : p → x) (h2 : ¬ p → y) : dP (.bool (decide p)) true (stop x .mk) (stop y .mk) := ⟨fun h => h1 (of_decide_eq_true h), fun h => h2 (of_decide_eq_false h)⟩
theorem oh {p : Prop} [Decidable p] {x y : Prop} (h1 : ¬ p → x) (h2 : p → y) : dP (.bool (decide p)) false (stop x .mk) (stop y .mk) := ⟨fun h => h1 (of_decide_eq_false h), fun h => h2 (of_decide_eq_true h)⟩
theorem mG (c : Nat) (b : Bool) (h : ((c : Int) = 9 ∨ (c : Int) = 10 ∨ (c : Int) = 13 ∨ (32 ≤ (c : Int) ∧ (c : Int) ≤ 55295) ∨ (57344 ≤ (c : Int) ∧ (c : Int) ≤ 65533) ∨ (65536 ≤ (c : Int) ∧ (c : Int) ≤ 1114111)) ↔ b = true) : cK c = b := by
  have : cK c = true ↔ b = true := by
    rw [← h]
    unfold cK
    simp only [Bool.or_eq_true, Bool.and_eq_true, decide_eq_true_eq]
    omega
  exact Bool.eq_iff_iff.2 this
set_option maxRecDepth 10000 in
theorem Cr (st : St) (c : Nat) (k q : Value → St → Prop) (hk : k (.bool (cK c)) st) : ay (C base w0 G) 15 [.int .i64 c] st k q := by
  refine ay.of (cx := C base w0 G) mixed Tryz.func15 rfl (by kernel_rfl) (by simp [Tryz.ntmps15]) ?_
  simp only [Tryz.results15]
  simp -implicitDefEqProofs only [go_sem, ↓aj, ↓ah, ak, Nat.reduceBEq, ↓reduceIte, reduceCtorEq, Nat.reduceEqDiff, Nat.reduceAdd, Nat.reduceLeDiff, Int.reduceEq, Int.reduceLT, Int.reduceLE, Int.reduceAdd, Int.reduceToNat, Int.reduceNeg, Nat.reduceMul, Nat.reduceSub, Int.reduceBNe, Int.reduceBEq]
  repeat' ((first | with_reducible refine nY (fun h => ?_) (fun h => ?_) | with_reducible refine nZ (fun h => ?_) (fun h => ?_) | with_reducible refine og (fun h => ?_) (fun h => ?_) | with_reducible refine oh (fun h => ?_) (fun h => ?_) | with_reducible refine nW (fun h => ?_) (fun h => ?_) | with_reducible refine nX (fun h => ?_) (fun h => ?_)) <;> simp -implicitDefEqProofs only [go_sem, ↓aj, ↓ah, ak, Nat.reduceBEq, ↓reduceIte, reduceCtorEq, Nat.reduceEqDiff, Nat.reduceAdd, Nat.reduceLeDiff, Int.reduceEq, Int.reduceLT, Int.reduceLE, Int.reduceAdd, Int.reduceToNat, Int.reduceNeg, Nat.reduceMul, Nat.reduceSub, Int.reduceBNe, Int.reduceBEq, *, decide_true, decide_false, Bool.not_true, Bool.not_false, Bool.true_and, Bool.false_and, Bool.true_or, Bool.false_or])
  all_goals try simp only [beq_iff_eq, beq_eq_false_iff_ne, decide_eq_true_eq, decide_eq_false_iff_not, Bool.not_true, Bool.not_false] at *
  all_goals first
    | (rw [mG c true (by simp only [iff_true]; omega)] at hk; exact hk)
    | (rw [mG c false (by simp only [Bool.false_eq_true, iff_false]; omega)] at hk; exact hk)
    | (rw [mG c (decide ((c : Int) ≤ 1114111)) (by simp only [decide_eq_true_eq]; omega)] at hk; exact hk)
    | skip
end Go.Proofs.YtohgmkjhbacmpaaGreatDoor
set_option linter.unusedVariables false
set_option linter.unusedSimpArgs false
namespace Go.Proofs.YtohgmkjhbacmpaaGreatDoor
open Go Go.Abs Go.RowKit Go.Xml
variable {base : Nat} {w0 : World} {G : Nat}
def kP : Nat → Tx → Option Nat
  | c, [] => some c
  | c, x :: l => if x.toNat < 128 ∨ x.toNat > 191 then none else kP (c * 64 + x.toNat - 128) l
def oneR (n least c : Nat) : Nat × Nat := if c < least ∨ (55296 ≤ c ∧ c ≤ 57343) ∨ 1114111 < c then (0, 0) else (c, n)
def oneT (n c least : Nat) (l : Tx) : Nat × Nat := if l.length < n then (0, 0) else match kP c ((l.drop 1).take (n - 1)) with
  | none => (0, 0)
  | some c => oneR n least c
def oneF : Tx → Nat × Nat
  | [] => (0, 0)
  | x :: l => if x.toNat < 128 then (x.toNat, 1)
    else if 192 ≤ x.toNat ∧ x.toNat < 224 then oneT 2 (x.toNat - 192) 128 (x :: l)
    else if 224 ≤ x.toNat ∧ x.toNat < 240 then oneT 3 (x.toNat - 224) 2048 (x :: l)
    else if 240 ≤ x.toNat ∧ x.toNat < 248 then oneT 4 (x.toNat - 240) 65536 (x :: l)
    else (0, 0)
def oneV (p : Nat × Nat) : Value := .tuple #[.int .i64 (p.1 : Nat), .int .i64 (p.2 : Nat)]
theorem dM {n i c : Nat} {l : Tx} (h1 : 1 ≤ i) (h2 : i < n) (hl : n ≤ l.length) : kP c ((l.drop i).take (n - i)) = if (l.getD i 0).toNat < 128 ∨ (l.getD i 0).toNat > 191 then none else kP (c * 64 + (l.getD i 0).toNat - 128) ((l.drop (i + 1)).take (n - (i + 1))) := by
  have hi : i < l.length := by omega
  rw [List.drop_eq_getElem_cons hi, show n - i = (n - (i + 1)) + 1 by omega, List.take_succ_cons, List.getD_eq_getElem?_getD, List.getElem?_eq_getElem hi]
  rfl
theorem iC {n c : Nat} {l : Tx} : kP c ((l.drop n).take (n - n)) = some c := by
  rw [Nat.sub_self, List.take_zero]; rfl
set_option maxRecDepth 10000 in
theorem ER (st : St) (r : Hp) (X : Value) (l : Tx) (hX : Nb r X (nb8 l)) (hl : l.length ≤ 1000000) (hO : Own st r) (k q : Value → St → Prop) (hk : k (oneV (oneF l)) st) : ay (C base w0 G) 22 [X] st k q := by
  refine ay.of (cx := C base w0 G) mixed Tryz.func22 rfl (by kernel_rfl) (by simp [Tryz.ntmps22]) ?_
  simp only [Tryz.results22]
  by_cases hne : l = []
  · subst hne
    obtain ⟨a, c, rfl⟩ := hX.isSlice
    simp -implicitDefEqProofs only [go_sem, ↓aj, ↓ah, ak, Nat.reduceBEq, ↓reduceIte, reduceCtorEq, Nat.reduceEqDiff, Nat.reduceAdd, Nat.reduceLeDiff, Int.reduceEq, Int.reduceLT, Int.reduceLE, Int.reduceAdd, Int.reduceToNat, Int.reduceNeg, Nat.reduceMul, Nat.reduceSub, Int.reduceBNe, Int.reduceBEq, Tryz.underlying22, show (((nb8 ([] : Tx)).length : Int) == 0) = true from rfl]
    exact hk
  obtain ⟨B, o, sp, cp, cs, ty, own, rfl, hm, hget⟩ := hX.at (fun h => hne (by cases l with | nil => rfl | cons x t => cases h))
  have hcB := hO.get hm
  rw [aB] at hget
  rw [aB]
  have hg : ∀ i, i < l.length → cs[o + i]? = some (.int .u8 ((l.getD i 0).toNat : Nat)) := fun i hi => by
    rw [hget i hi]
    simp [nb8, List.getD_eq_getElem?_getD, hi]
  obtain ⟨x, t, hxt⟩ : ∃ x t, l = x :: t := by
    cases l with
    | nil => exact absurd rfl hne
    | cons x t => exact ⟨x, t, rfl⟩
  have hx : cs[o]? = some (.int .u8 (x.toNat : Nat)) := by have := hg 0 (by rw [hxt]; simp); rw [hxt] at this; exact this
  have hF : oneF l = if x.toNat < 128 then (x.toNat, 1)
    else if 192 ≤ x.toNat ∧ x.toNat < 224 then oneT 2 (x.toNat - 192) 128 l
    else if 224 ≤ x.toNat ∧ x.toNat < 240 then oneT 3 (x.toNat - 224) 2048 l
    else if 240 ≤ x.toNat ∧ x.toNat < 248 then oneT 4 (x.toNat - 240) 65536 l
    else (0, 0) := by rw [hxt]; rfl
  have hxb : x.toNat < 256 := x.toNat_lt
  have hl0 : ((l.length : Int) == 0) = false := by rw [beq_eq_false_iff_ne]; rw [hxt]; simp; omega
  have hlp : 0 < l.length := by rw [hxt]; simp
  generalize x.toNat = b at *
  have w64 : IntKind.i64.wrap (b : Int) = b := aS ⟨by omega, by omega⟩
  have u3 := Tryz.underlying3
  by_cases h128 : b < 128
  · rw [if_pos h128] at hF
    rw [hF] at hk
    simp -implicitDefEqProofs only [go_sem, ↓aj, ↓ah, ak, Nat.reduceBEq, ↓reduceIte, reduceCtorEq, Nat.reduceEqDiff, Nat.reduceAdd, Nat.reduceLeDiff, Int.reduceEq, Int.reduceLT, Int.reduceLE, Int.reduceAdd, Int.reduceToNat, Int.reduceNeg, Nat.reduceMul, Nat.reduceSub, Int.reduceBNe, Int.reduceBEq, Tryz.underlying22, hl0, hcB, hx, Nat.add_zero, Tryz.underlying5, asz5, Tryz.underlying3, bA, w64, show (0 < (l.length : Int)) = True by simp; omega, show ((b : Int) < 128) = True by simp; omega, decide_true, true_and, Int.toNat_zero, Int.le_refl]
    exact hk
  rw [if_neg h128] at hF
  by_cases h192 : 192 ≤ b ∧ b < 224
  · rw [if_pos h192] at hF
    unfold oneT at hF
    by_cases hlen : l.length < 2
    · rw [if_pos hlen] at hF
      rw [hF] at hk
      simp -implicitDefEqProofs only [go_sem, ↓aj, ↓ah, ak, Nat.reduceBEq, ↓reduceIte, reduceCtorEq, Nat.reduceEqDiff, Nat.reduceAdd, Nat.reduceLeDiff, Int.reduceEq, Int.reduceLT, Int.reduceLE, Int.reduceAdd, Int.reduceToNat, Int.reduceNeg, Nat.reduceMul, Nat.reduceSub, Int.reduceBNe, Int.reduceBEq, Tryz.underlying22, hl0, hcB, hx, Nat.add_zero, Tryz.underlying5, asz5, Tryz.underlying3, bA, w64, show (0 < (l.length : Int)) = True by simp; omega, show ((b : Int) < 128) = False by simp; omega, show ((b : Int) ≥ 192) = True by simp; omega, show ((b : Int) < 224) = True by simp; omega, show ((l.length : Int) < 2) = True by simp; omega, decide_true, decide_false, true_and, Int.toNat_zero, Int.le_refl, aS (x := (b : Int) - 192) (by omega), show ((2 : Int) == 0) = false by rfl]
      exact hk
    · rw [if_neg hlen] at hF
      simp -implicitDefEqProofs only [go_sem, ↓aj, ↓ah, ak, Nat.reduceBEq, ↓reduceIte, reduceCtorEq, Nat.reduceEqDiff, Nat.reduceAdd, Nat.reduceLeDiff, Int.reduceEq, Int.reduceLT, Int.reduceLE, Int.reduceAdd, Int.reduceToNat, Int.reduceNeg, Nat.reduceMul, Nat.reduceSub, Int.reduceBNe, Int.reduceBEq, Tryz.underlying22, hl0, hcB, hx, Nat.add_zero, Tryz.underlying5, asz5, Tryz.underlying3, bA, w64, show (0 < (l.length : Int)) = True by simp; omega, show ((b : Int) < 128) = False by simp; omega, show ((b : Int) ≥ 192) = True by simp; omega, show ((b : Int) < 224) = True by simp; omega, show ((l.length : Int) < 2) = False by simp; omega, decide_true, decide_false, true_and, Int.toNat_zero, Int.le_refl, aS (x := (b : Int) - 192) (by omega), show ((2 : Int) == 0) = false by rfl]
      refine ⟨fun m ρ s => ∃ i c : Nat, m = 2 - i ∧ 1 ≤ i ∧ i ≤ 2 ∧ c ≤ 64 * 128 ^ i ∧ kP (b - 192) ((l.drop 1).take (2 - 1)) = kP c ((l.drop i).take (2 - i)) ∧ ρ 0 = .slice (some ⟨B, o, sp⟩) l.length cp ∧ ρ 4 = .int .i64 2 ∧ ρ 5 = .int .i64 c ∧ ρ 6 = .int .i64 128 ∧ ρ 7 = .int .i64 i ∧ s = st, ⟨_, 1, b - 192, rfl, Nat.le_refl _, by omega, by omega, rfl, rfl, rfl, by show Value.int .i64 _ = _; congr 1; omega, rfl, rfl, rfl⟩, ?_⟩
      rintro _ ρ s ⟨i, c, rfl, hi1, hi2, hcb, hc, h0, h4, h5, h6, h7, rfl⟩
      have hpow : 128 ^ i ≤ 268435456 := Nat.le_trans (Nat.pow_le_pow_right (by decide) hi2) (by decide)
      by_cases hlt : i < 2
      · have hgi := hg i (by omega)
        have hstep := dM (l := l) (c := c) hi1 hlt (by omega)
        have hyb : (l.getD i 0).toNat < 256 := (l.getD i 0).toNat_lt
        rw [hstep] at hc
        generalize (l.getD i 0).toNat = y at *
        have z0 : (0 ≤ (i : Int)) = True := by simp
        have zl : ((i : Int) < (l.length : Int)) = True := by simp; omega
        by_cases hy1 : y < 128
        · rw [if_pos (.inl hy1)] at hc
          rw [hF, hc] at hk
          simp -implicitDefEqProofs only [go_sem, ↓aj, ↓ah, ak, Nat.reduceBEq, ↓reduceIte, reduceCtorEq, Nat.reduceEqDiff, Nat.reduceAdd, Nat.reduceLeDiff, Int.reduceEq, Int.reduceLT, Int.reduceLE, Int.reduceAdd, Int.reduceToNat, Int.reduceNeg, Nat.reduceMul, Nat.reduceSub, Int.reduceBNe, Int.reduceBEq, h0, h4, h5, h6, h7, hcB, hgi, Tryz.underlying22, Tryz.underlying5, asz5, Nat.mul_one, show ((i : Int) < 2) = True by simp; omega, z0, zl, show ((y : Int) < 128) = True by simp; omega, decide_true, true_and, Int.toNat_natCast]
          exact hk
        by_cases hy2 : y > 191
        · rw [if_pos (.inr hy2)] at hc
          rw [hF, hc] at hk
          simp -implicitDefEqProofs only [go_sem, ↓aj, ↓ah, ak, Nat.reduceBEq, ↓reduceIte, reduceCtorEq, Nat.reduceEqDiff, Nat.reduceAdd, Nat.reduceLeDiff, Int.reduceEq, Int.reduceLT, Int.reduceLE, Int.reduceAdd, Int.reduceToNat, Int.reduceNeg, Nat.reduceMul, Nat.reduceSub, Int.reduceBNe, Int.reduceBEq, h0, h4, h5, h6, h7, hcB, hgi, Tryz.underlying22, Tryz.underlying5, asz5, Nat.mul_one, show ((i : Int) < 2) = True by simp; omega, z0, zl, show ((y : Int) < 128) = False by simp; omega, show ((y : Int) > 191) = True by simp; omega, decide_true, decide_false, true_and, Int.toNat_natCast]
          exact hk
        · rw [if_neg (by omega)] at hc
          simp -implicitDefEqProofs only [go_sem, ↓aj, ↓ah, ak, Nat.reduceBEq, ↓reduceIte, reduceCtorEq, Nat.reduceEqDiff, Nat.reduceAdd, Nat.reduceLeDiff, Int.reduceEq, Int.reduceLT, Int.reduceLE, Int.reduceAdd, Int.reduceToNat, Int.reduceNeg, Nat.reduceMul, Nat.reduceSub, Int.reduceBNe, Int.reduceBEq, h0, h4, h5, h6, h7, hcB, hgi, Tryz.underlying22, Tryz.underlying5, asz5, Tryz.underlying3, bA, Nat.mul_one, show ((i : Int) < 2) = True by simp; omega, z0, zl, show ((y : Int) < 128) = False by simp; omega, show ((y : Int) > 191) = False by simp; omega, decide_true, decide_false, true_and, Int.toNat_natCast, aS (x := (y : Int)) (by omega), aS (x := (c : Int) * 64) (by omega), aS (x := (c : Int) * 64 + (y : Int)) (by omega), aS (x := (c : Int) * 64 + (y : Int) - 128) (by omega), aS (x := (i : Int) + 1) (by omega)]
          have hp2 : 128 ^ (i + 1) = 128 ^ i * 128 := Nat.pow_succ ..
          have hp1 : 1 ≤ 128 ^ i := Nat.pow_pos (by decide)
          refine ⟨2 - (i + 1), by omega, i + 1, c * 64 + y - 128, rfl, by omega, by omega, by omega, hc, ?_⟩
          exact ⟨by congr 1; omega, rfl⟩
      · have hin : i = 2 := by omega
        subst hin
        rw [iC] at hc
        rw [hF, hc] at hk
        unfold oneR at hk
        dsimp only at hk
        simp -implicitDefEqProofs only [go_sem, ↓aj, ↓ah, ak, Nat.reduceBEq, ↓reduceIte, reduceCtorEq, Nat.reduceEqDiff, Nat.reduceAdd, Nat.reduceLeDiff, Int.reduceEq, Int.reduceLT, Int.reduceLE, Int.reduceAdd, Int.reduceToNat, Int.reduceNeg, Nat.reduceMul, Nat.reduceSub, Int.reduceBNe, Int.reduceBEq, h0, h4, h5, h6, h7, show (((2 : Nat) : Int) < 2) = False by simp, decide_false]
        clear hX hget hg hx hF hl0 hlp hcB w64 u3 hc hcb hpow hO hxt hm hne hlt hi1 hi2 hl hlen hxb
        clear h128
        try clear h192
        try clear h224
        try clear h240
        have hk2 := PLift.up hk
        clear hk
        repeat' ((first | with_reducible refine nY (fun h => ?_) (fun h => ?_) | with_reducible refine nZ (fun h => ?_) (fun h => ?_) | with_reducible refine og (fun h => ?_) (fun h => ?_) | with_reducible refine oh (fun h => ?_) (fun h => ?_) | with_reducible refine nW (fun h => ?_) (fun h => ?_) | with_reducible refine nX (fun h => ?_) (fun h => ?_)) <;> simp -implicitDefEqProofs only [go_sem, ↓aj, ↓ah, ak, Nat.reduceBEq, ↓reduceIte, reduceCtorEq, Nat.reduceEqDiff, Nat.reduceAdd, Nat.reduceLeDiff, Int.reduceEq, Int.reduceLT, Int.reduceLE, Int.reduceAdd, Int.reduceToNat, Int.reduceNeg, Nat.reduceMul, Nat.reduceSub, Int.reduceBNe, Int.reduceBEq, *, decide_true, decide_false, Bool.not_true, Bool.not_false, Bool.true_and, Bool.false_and, Bool.true_or, Bool.false_or])
        all_goals have hk := hk2.down
        all_goals clear hk2
        all_goals first | refine And.intro (fun h1 => ?_) (fun h1 => ?_) | skip
        all_goals try simp only [decide_eq_true_eq, decide_eq_false_iff_not] at *
        all_goals first
          | (rw [if_pos (by omega)] at hk; exact hk)
          | (rw [if_neg (by omega)] at hk; exact hk)
          | skip
  rw [if_neg h192] at hF
  by_cases h224 : 224 ≤ b ∧ b < 240
  · rw [if_pos h224] at hF
    unfold oneT at hF
    by_cases hlen : l.length < 3
    · rw [if_pos hlen] at hF
      rw [hF] at hk
      simp -implicitDefEqProofs only [go_sem, ↓aj, ↓ah, ak, Nat.reduceBEq, ↓reduceIte, reduceCtorEq, Nat.reduceEqDiff, Nat.reduceAdd, Nat.reduceLeDiff, Int.reduceEq, Int.reduceLT, Int.reduceLE, Int.reduceAdd, Int.reduceToNat, Int.reduceNeg, Nat.reduceMul, Nat.reduceSub, Int.reduceBNe, Int.reduceBEq, Tryz.underlying22, hl0, hcB, hx, Nat.add_zero, Tryz.underlying5, asz5, Tryz.underlying3, bA, w64, show (0 < (l.length : Int)) = True by simp; omega, show ((b : Int) < 128) = False by simp; omega, show ((b : Int) ≥ 192) = True by simp; omega, show ((b : Int) < 224) = False by simp; omega, show ((b : Int) ≥ 224) = True by simp; omega, show ((b : Int) < 240) = True by simp; omega, show ((l.length : Int) < 3) = True by simp; omega, decide_true, decide_false, true_and, Int.toNat_zero, Int.le_refl, aS (x := (b : Int) - 224) (by omega), show ((3 : Int) == 0) = false by rfl]
      exact hk
    · rw [if_neg hlen] at hF
      simp -implicitDefEqProofs only [go_sem, ↓aj, ↓ah, ak, Nat.reduceBEq, ↓reduceIte, reduceCtorEq, Nat.reduceEqDiff, Nat.reduceAdd, Nat.reduceLeDiff, Int.reduceEq, Int.reduceLT, Int.reduceLE, Int.reduceAdd, Int.reduceToNat, Int.reduceNeg, Nat.reduceMul, Nat.reduceSub, Int.reduceBNe, Int.reduceBEq, Tryz.underlying22, hl0, hcB, hx, Nat.add_zero, Tryz.underlying5, asz5, Tryz.underlying3, bA, w64, show (0 < (l.length : Int)) = True by simp; omega, show ((b : Int) < 128) = False by simp; omega, show ((b : Int) ≥ 192) = True by simp; omega, show ((b : Int) < 224) = False by simp; omega, show ((b : Int) ≥ 224) = True by simp; omega, show ((b : Int) < 240) = True by simp; omega, show ((l.length : Int) < 3) = False by simp; omega, decide_true, decide_false, true_and, Int.toNat_zero, Int.le_refl, aS (x := (b : Int) - 224) (by omega), show ((3 : Int) == 0) = false by rfl]
      refine ⟨fun m ρ s => ∃ i c : Nat, m = 3 - i ∧ 1 ≤ i ∧ i ≤ 3 ∧ c ≤ 64 * 128 ^ i ∧ kP (b - 224) ((l.drop 1).take (3 - 1)) = kP c ((l.drop i).take (3 - i)) ∧ ρ 0 = .slice (some ⟨B, o, sp⟩) l.length cp ∧ ρ 4 = .int .i64 3 ∧ ρ 5 = .int .i64 c ∧ ρ 6 = .int .i64 2048 ∧ ρ 7 = .int .i64 i ∧ s = st, ⟨_, 1, b - 224, rfl, Nat.le_refl _, by omega, by omega, rfl, rfl, rfl, by show Value.int .i64 _ = _; congr 1; omega, rfl, rfl, rfl⟩, ?_⟩
      rintro _ ρ s ⟨i, c, rfl, hi1, hi2, hcb, hc, h0, h4, h5, h6, h7, rfl⟩
      have hpow : 128 ^ i ≤ 268435456 := Nat.le_trans (Nat.pow_le_pow_right (by decide) hi2) (by decide)
      by_cases hlt : i < 3
      · have hgi := hg i (by omega)
        have hstep := dM (l := l) (c := c) hi1 hlt (by omega)
        have hyb : (l.getD i 0).toNat < 256 := (l.getD i 0).toNat_lt
        rw [hstep] at hc
        generalize (l.getD i 0).toNat = y at *
        have z0 : (0 ≤ (i : Int)) = True := by simp
        have zl : ((i : Int) < (l.length : Int)) = True := by simp; omega
        by_cases hy1 : y < 128
        · rw [if_pos (.inl hy1)] at hc
          rw [hF, hc] at hk
          simp -implicitDefEqProofs only [go_sem, ↓aj, ↓ah, ak, Nat.reduceBEq, ↓reduceIte, reduceCtorEq, Nat.reduceEqDiff, Nat.reduceAdd, Nat.reduceLeDiff, Int.reduceEq, Int.reduceLT, Int.reduceLE, Int.reduceAdd, Int.reduceToNat, Int.reduceNeg, Nat.reduceMul, Nat.reduceSub, Int.reduceBNe, Int.reduceBEq, h0, h4, h5, h6, h7, hcB, hgi, Tryz.underlying22, Tryz.underlying5, asz5, Nat.mul_one, show ((i : Int) < 3) = True by simp; omega, z0, zl, show ((y : Int) < 128) = True by simp; omega, decide_true, true_and, Int.toNat_natCast]
          exact hk
        by_cases hy2 : y > 191
        · rw [if_pos (.inr hy2)] at hc
          rw [hF, hc] at hk
          simp -implicitDefEqProofs only [go_sem, ↓aj, ↓ah, ak, Nat.reduceBEq, ↓reduceIte, reduceCtorEq, Nat.reduceEqDiff, Nat.reduceAdd, Nat.reduceLeDiff, Int.reduceEq, Int.reduceLT, Int.reduceLE, Int.reduceAdd, Int.reduceToNat, Int.reduceNeg, Nat.reduceMul, Nat.reduceSub, Int.reduceBNe, Int.reduceBEq, h0, h4, h5, h6, h7, hcB, hgi, Tryz.underlying22, Tryz.underlying5, asz5, Nat.mul_one, show ((i : Int) < 3) = True by simp; omega, z0, zl, show ((y : Int) < 128) = False by simp; omega, show ((y : Int) > 191) = True by simp; omega, decide_true, decide_false, true_and, Int.toNat_natCast]
          exact hk
        · rw [if_neg (by omega)] at hc
          simp -implicitDefEqProofs only [go_sem, ↓aj, ↓ah, ak, Nat.reduceBEq, ↓reduceIte, reduceCtorEq, Nat.reduceEqDiff, Nat.reduceAdd, Nat.reduceLeDiff, Int.reduceEq, Int.reduceLT, Int.reduceLE, Int.reduceAdd, Int.reduceToNat, Int.reduceNeg, Nat.reduceMul, Nat.reduceSub, Int.reduceBNe, Int.reduceBEq, h0, h4, h5, h6, h7, hcB, hgi, Tryz.underlying22, Tryz.underlying5, asz5, Tryz.underlying3, bA, Nat.mul_one, show ((i : Int) < 3) = True by simp; omega, z0, zl, show ((y : Int) < 128) = False by simp; omega, show ((y : Int) > 191) = False by simp; omega, decide_true, decide_false, true_and, Int.toNat_natCast, aS (x := (y : Int)) (by omega), aS (x := (c : Int) * 64) (by omega), aS (x := (c : Int) * 64 + (y : Int)) (by omega), aS (x := (c : Int) * 64 + (y : Int) - 128) (by omega), aS (x := (i : Int) + 1) (by omega)]
          have hp2 : 128 ^ (i + 1) = 128 ^ i * 128 := Nat.pow_succ ..
          have hp1 : 1 ≤ 128 ^ i := Nat.pow_pos (by decide)
          refine ⟨3 - (i + 1), by omega, i + 1, c * 64 + y - 128, rfl, by omega, by omega, by omega, hc, ?_⟩
          exact ⟨by congr 1; omega, rfl⟩
      · have hin : i = 3 := by omega
        subst hin
        rw [iC] at hc
        rw [hF, hc] at hk
        unfold oneR at hk
        dsimp only at hk
        simp -implicitDefEqProofs only [go_sem, ↓aj, ↓ah, ak, Nat.reduceBEq, ↓reduceIte, reduceCtorEq, Nat.reduceEqDiff, Nat.reduceAdd, Nat.reduceLeDiff, Int.reduceEq, Int.reduceLT, Int.reduceLE, Int.reduceAdd, Int.reduceToNat, Int.reduceNeg, Nat.reduceMul, Nat.reduceSub, Int.reduceBNe, Int.reduceBEq, h0, h4, h5, h6, h7, show (((3 : Nat) : Int) < 3) = False by simp, decide_false]
        clear hX hget hg hx hF hl0 hlp hcB w64 u3 hc hcb hpow hO hxt hm hne hlt hi1 hi2 hl hlen hxb
        clear h128
        try clear h192
        try clear h224
        try clear h240
        have hk2 := PLift.up hk
        clear hk
        repeat' ((first | with_reducible refine nY (fun h => ?_) (fun h => ?_) | with_reducible refine nZ (fun h => ?_) (fun h => ?_) | with_reducible refine og (fun h => ?_) (fun h => ?_) | with_reducible refine oh (fun h => ?_) (fun h => ?_) | with_reducible refine nW (fun h => ?_) (fun h => ?_) | with_reducible refine nX (fun h => ?_) (fun h => ?_)) <;> simp -implicitDefEqProofs only [go_sem, ↓aj, ↓ah, ak, Nat.reduceBEq, ↓reduceIte, reduceCtorEq, Nat.reduceEqDiff, Nat.reduceAdd, Nat.reduceLeDiff, Int.reduceEq, Int.reduceLT, Int.reduceLE, Int.reduceAdd, Int.reduceToNat, Int.reduceNeg, Nat.reduceMul, Nat.reduceSub, Int.reduceBNe, Int.reduceBEq, *, decide_true, decide_false, Bool.not_true, Bool.not_false, Bool.true_and, Bool.false_and, Bool.true_or, Bool.false_or])
        all_goals have hk := hk2.down
        all_goals clear hk2
        all_goals first | refine And.intro (fun h1 => ?_) (fun h1 => ?_) | skip
        all_goals try simp only [decide_eq_true_eq, decide_eq_false_iff_not] at *
        all_goals first
          | (rw [if_pos (by omega)] at hk; exact hk)
          | (rw [if_neg (by omega)] at hk; exact hk)
          | skip
  rw [if_neg h224] at hF
  by_cases h240 : 240 ≤ b ∧ b < 248
  · rw [if_pos h240] at hF
    unfold oneT at hF
    by_cases hlen : l.length < 4
    · rw [if_pos hlen] at hF
      rw [hF] at hk
      simp -implicitDefEqProofs only [go_sem, ↓aj, ↓ah, ak, Nat.reduceBEq, ↓reduceIte, reduceCtorEq, Nat.reduceEqDiff, Nat.reduceAdd, Nat.reduceLeDiff, Int.reduceEq, Int.reduceLT, Int.reduceLE, Int.reduceAdd, Int.reduceToNat, Int.reduceNeg, Nat.reduceMul, Nat.reduceSub, Int.reduceBNe, Int.reduceBEq, Tryz.underlying22, hl0, hcB, hx, Nat.add_zero, Tryz.underlying5, asz5, Tryz.underlying3, bA, w64, show (0 < (l.length : Int)) = True by simp; omega, show ((b : Int) < 128) = False by simp; omega, show ((b : Int) ≥ 192) = True by simp; omega, show ((b : Int) < 224) = False by simp; omega, show ((b : Int) ≥ 224) = True by simp; omega, show ((b : Int) < 240) = False by simp; omega, show ((b : Int) ≥ 240) = True by simp; omega, show ((b : Int) < 248) = True by simp; omega, show ((l.length : Int) < 4) = True by simp; omega, decide_true, decide_false, true_and, Int.toNat_zero, Int.le_refl, aS (x := (b : Int) - 240) (by omega), show ((4 : Int) == 0) = false by rfl]
      exact hk
    · rw [if_neg hlen] at hF
      simp -implicitDefEqProofs only [go_sem, ↓aj, ↓ah, ak, Nat.reduceBEq, ↓reduceIte, reduceCtorEq, Nat.reduceEqDiff, Nat.reduceAdd, Nat.reduceLeDiff, Int.reduceEq, Int.reduceLT, Int.reduceLE, Int.reduceAdd, Int.reduceToNat, Int.reduceNeg, Nat.reduceMul, Nat.reduceSub, Int.reduceBNe, Int.reduceBEq, Tryz.underlying22, hl0, hcB, hx, Nat.add_zero, Tryz.underlying5, asz5, Tryz.underlying3, bA, w64, show (0 < (l.length : Int)) = True by simp; omega, show ((b : Int) < 128) = False by simp; omega, show ((b : Int) ≥ 192) = True by simp; omega, show ((b : Int) < 224) = False by simp; omega, show ((b : Int) ≥ 224) = True by simp; omega, show ((b : Int) < 240) = False by simp; omega, show ((b : Int) ≥ 240) = True by simp; omega, show ((b : Int) < 248) = True by simp; omega, show ((l.length : Int) < 4) = False by simp; omega, decide_true, decide_false, true_and, Int.toNat_zero, Int.le_refl, aS (x := (b : Int) - 240) (by omega), show ((4 : Int) == 0) = false by rfl]
      refine ⟨fun m ρ s => ∃ i c : Nat, m = 4 - i ∧ 1 ≤ i ∧ i ≤ 4 ∧ c ≤ 64 * 128 ^ i ∧ kP (b - 240) ((l.drop 1).take (4 - 1)) = kP c ((l.drop i).take (4 - i)) ∧ ρ 0 = .slice (some ⟨B, o, sp⟩) l.length cp ∧ ρ 4 = .int .i64 4 ∧ ρ 5 = .int .i64 c ∧ ρ 6 = .int .i64 65536 ∧ ρ 7 = .int .i64 i ∧ s = st, ⟨_, 1, b - 240, rfl, Nat.le_refl _, by omega, by omega, rfl, rfl, rfl, by show Value.int .i64 _ = _; congr 1; omega, rfl, rfl, rfl⟩, ?_⟩
      rintro _ ρ s ⟨i, c, rfl, hi1, hi2, hcb, hc, h0, h4, h5, h6, h7, rfl⟩
      have hpow : 128 ^ i ≤ 268435456 := Nat.le_trans (Nat.pow_le_pow_right (by decide) hi2) (by decide)
      by_cases hlt : i < 4
      · have hgi := hg i (by omega)
        have hstep := dM (l := l) (c := c) hi1 hlt (by omega)
        have hyb : (l.getD i 0).toNat < 256 := (l.getD i 0).toNat_lt
        rw [hstep] at hc
        generalize (l.getD i 0).toNat = y at *
        have z0 : (0 ≤ (i : Int)) = True := by simp
        have zl : ((i : Int) < (l.length : Int)) = True := by simp; omega
        by_cases hy1 : y < 128
        · rw [if_pos (.inl hy1)] at hc
          rw [hF, hc] at hk
          simp -implicitDefEqProofs only [go_sem, ↓aj, ↓ah, ak, Nat.reduceBEq, ↓reduceIte, reduceCtorEq, Nat.reduceEqDiff, Nat.reduceAdd, Nat.reduceLeDiff, Int.reduceEq, Int.reduceLT, Int.reduceLE, Int.reduceAdd, Int.reduceToNat, Int.reduceNeg, Nat.reduceMul, Nat.reduceSub, Int.reduceBNe, Int.reduceBEq, h0, h4, h5, h6, h7, hcB, hgi, Tryz.underlying22, Tryz.underlying5, asz5, Nat.mul_one, show ((i : Int) < 4) = True by simp; omega, z0, zl, show ((y : Int) < 128) = True by simp; omega, decide_true, true_and, Int.toNat_natCast]
          exact hk
        by_cases hy2 : y > 191
        · rw [if_pos (.inr hy2)] at hc
          rw [hF, hc] at hk
          simp -implicitDefEqProofs only [go_sem, ↓aj, ↓ah, ak, Nat.reduceBEq, ↓reduceIte, reduceCtorEq, Nat.reduceEqDiff, Nat.reduceAdd, Nat.reduceLeDiff, Int.reduceEq, Int.reduceLT, Int.reduceLE, Int.reduceAdd, Int.reduceToNat, Int.reduceNeg, Nat.reduceMul, Nat.reduceSub, Int.reduceBNe, Int.reduceBEq, h0, h4, h5, h6, h7, hcB, hgi, Tryz.underlying22, Tryz.underlying5, asz5, Nat.mul_one, show ((i : Int) < 4) = True by simp; omega, z0, zl, show ((y : Int) < 128) = False by simp; omega, show ((y : Int) > 191) = True by simp; omega, decide_true, decide_false, true_and, Int.toNat_natCast]
          exact hk
        · rw [if_neg (by omega)] at hc
          simp -implicitDefEqProofs only [go_sem, ↓aj, ↓ah, ak, Nat.reduceBEq, ↓reduceIte, reduceCtorEq, Nat.reduceEqDiff, Nat.reduceAdd, Nat.reduceLeDiff, Int.reduceEq, Int.reduceLT, Int.reduceLE, Int.reduceAdd, Int.reduceToNat, Int.reduceNeg, Nat.reduceMul, Nat.reduceSub, Int.reduceBNe, Int.reduceBEq, h0, h4, h5, h6, h7, hcB, hgi, Tryz.underlying22, Tryz.underlying5, asz5, Tryz.underlying3, bA, Nat.mul_one, show ((i : Int) < 4) = True by simp; omega, z0, zl, show ((y : Int) < 128) = False by simp; omega, show ((y : Int) > 191) = False by simp; omega, decide_true, decide_false, true_and, Int.toNat_natCast, aS (x := (y : Int)) (by omega), aS (x := (c : Int) * 64) (by omega), aS (x := (c : Int) * 64 + (y : Int)) (by omega), aS (x := (c : Int) * 64 + (y : Int) - 128) (by omega), aS (x := (i : Int) + 1) (by omega)]
          have hp2 : 128 ^ (i + 1) = 128 ^ i * 128 := Nat.pow_succ ..
          have hp1 : 1 ≤ 128 ^ i := Nat.pow_pos (by decide)
          refine ⟨4 - (i + 1), by omega, i + 1, c * 64 + y - 128, rfl, by omega, by omega, by omega, hc, ?_⟩
          exact ⟨by congr 1; omega, rfl⟩
      · have hin : i = 4 := by omega
        subst hin
        rw [iC] at hc
        rw [hF, hc] at hk
        unfold oneR at hk
        dsimp only at hk
        simp -implicitDefEqProofs only [go_sem, ↓aj, ↓ah, ak, Nat.reduceBEq, ↓reduceIte, reduceCtorEq, Nat.reduceEqDiff, Nat.reduceAdd, Nat.reduceLeDiff, Int.reduceEq, Int.reduceLT, Int.reduceLE, Int.reduceAdd, Int.reduceToNat, Int.reduceNeg, Nat.reduceMul, Nat.reduceSub, Int.reduceBNe, Int.reduceBEq, h0, h4, h5, h6, h7, show (((4 : Nat) : Int) < 4) = False by simp, decide_false]
        clear hX hget hg hx hF hl0 hlp hcB w64 u3 hc hcb hpow hO hxt hm hne hlt hi1 hi2 hl hlen hxb
        clear h128
        try clear h192
        try clear h224
        try clear h240
        have hk2 := PLift.up hk
        clear hk
        repeat' ((first | with_reducible refine nY (fun h => ?_) (fun h => ?_) | with_reducible refine nZ (fun h => ?_) (fun h => ?_) | with_reducible refine og (fun h => ?_) (fun h => ?_) | with_reducible refine oh (fun h => ?_) (fun h => ?_) | with_reducible refine nW (fun h => ?_) (fun h => ?_) | with_reducible refine nX (fun h => ?_) (fun h => ?_)) <;> simp -implicitDefEqProofs only [go_sem, ↓aj, ↓ah, ak, Nat.reduceBEq, ↓reduceIte, reduceCtorEq, Nat.reduceEqDiff, Nat.reduceAdd, Nat.reduceLeDiff, Int.reduceEq, Int.reduceLT, Int.reduceLE, Int.reduceAdd, Int.reduceToNat, Int.reduceNeg, Nat.reduceMul, Nat.reduceSub, Int.reduceBNe, Int.reduceBEq, *, decide_true, decide_false, Bool.not_true, Bool.not_false, Bool.true_and, Bool.false_and, Bool.true_or, Bool.false_or])
        all_goals have hk := hk2.down
        all_goals clear hk2
        all_goals first | refine And.intro (fun h1 => ?_) (fun h1 => ?_) | skip
        all_goals try simp only [decide_eq_true_eq, decide_eq_false_iff_not] at *
        all_goals first
          | (rw [if_pos (by omega)] at hk; exact hk)
          | (rw [if_neg (by omega)] at hk; exact hk)
          | skip
  rw [if_neg h240] at hF
  rw [hF] at hk
  by_cases h192 : b < 192
  · simp -implicitDefEqProofs only [go_sem, ↓aj, ↓ah, ak, Nat.reduceBEq, ↓reduceIte, reduceCtorEq, Nat.reduceEqDiff, Nat.reduceAdd, Nat.reduceLeDiff, Int.reduceEq, Int.reduceLT, Int.reduceLE, Int.reduceAdd, Int.reduceToNat, Int.reduceNeg, Nat.reduceMul, Nat.reduceSub, Int.reduceBNe, Int.reduceBEq, Tryz.underlying22, hl0, hcB, hx, Nat.add_zero, Tryz.underlying5, asz5, Tryz.underlying3, bA, w64, show (0 < (l.length : Int)) = True by simp; omega, show ((b : Int) < 128) = False by simp; omega, show ((b : Int) ≥ 192) = False by simp; omega, show ((b : Int) ≥ 224) = False by simp; omega, show ((b : Int) ≥ 240) = False by simp; omega, decide_true, decide_false, true_and, Int.toNat_zero, Int.le_refl, show ((0 : Int) == 0) = true by rfl]
    exact hk
  · simp -implicitDefEqProofs only [go_sem, ↓aj, ↓ah, ak, Nat.reduceBEq, ↓reduceIte, reduceCtorEq, Nat.reduceEqDiff, Nat.reduceAdd, Nat.reduceLeDiff, Int.reduceEq, Int.reduceLT, Int.reduceLE, Int.reduceAdd, Int.reduceToNat, Int.reduceNeg, Nat.reduceMul, Nat.reduceSub, Int.reduceBNe, Int.reduceBEq, Tryz.underlying22, hl0, hcB, hx, Nat.add_zero, Tryz.underlying5, asz5, Tryz.underlying3, bA, w64, show (0 < (l.length : Int)) = True by simp; omega, show ((b : Int) < 128) = False by simp; omega, show ((b : Int) ≥ 192) = True by simp; omega, show ((b : Int) < 224) = False by simp; omega, show ((b : Int) ≥ 224) = True by simp; omega, show ((b : Int) < 240) = False by simp; omega, show ((b : Int) ≥ 240) = True by simp; omega, show ((b : Int) < 248) = False by simp; omega, decide_true, decide_false, true_and, Int.toNat_zero, Int.le_refl, show ((0 : Int) == 0) = true by rfl]
    exact hk
end Go.Proofs.YtohgmkjhbacmpaaGreatDoor
set_option linter.unusedVariables false
set_option linter.unusedSimpArgs false
namespace Go.Proofs.YtohgmkjhbacmpaaGreatDoor
open Go Go.Abs Go.RowKit Go.Xml
def oneN (L b0 b1 b2 b3 : Nat) : Nat × Nat :=
  if b0 < 128 then (b0, 1)
  else if 192 ≤ b0 ∧ b0 < 224 then (if L < 2 then (0, 0) else if b1 < 128 ∨ b1 > 191 then (0, 0) else oneR 2 128 ((b0 - 192) * 64 + b1 - 128))
  else if 224 ≤ b0 ∧ b0 < 240 then (if L < 3 then (0, 0) else if b1 < 128 ∨ b1 > 191 then (0, 0) else if b2 < 128 ∨ b2 > 191 then (0, 0) else oneR 3 2048 (((b0 - 224) * 64 + b1 - 128) * 64 + b2 - 128))
  else if 240 ≤ b0 ∧ b0 < 248 then (if L < 4 then (0, 0) else if b1 < 128 ∨ b1 > 191 then (0, 0) else if b2 < 128 ∨ b2 > 191 then (0, 0) else if b3 < 128 ∨ b3 > 191 then (0, 0) else oneR 4 65536 ((((b0 - 240) * 64 + b1 - 128) * 64 + b2 - 128) * 64 + b3 - 128))
  else (0, 0)
theorem Kh (c m : Nat) (l : Tx) : oneT 2 c m l = if l.length < 2 then (0, 0) else if (l.getD 1 0).toNat < 128 ∨ (l.getD 1 0).toNat > 191 then (0, 0) else oneR 2 m (c * 64 + (l.getD 1 0).toNat - 128) := by
  unfold oneT
  by_cases h : l.length < 2
  · rw [if_pos h, if_pos h]
  rw [if_neg h, if_neg h]
  rw [dM (l := l) (i := 1) (n := 2) (by decide) (by decide) (by omega)]
  by_cases h1 : (l.getD 1 0).toNat < 128 ∨ (l.getD 1 0).toNat > 191
  · rw [if_pos h1, if_pos h1]
  rw [if_neg h1, if_neg h1]
  rw [iC]
theorem Ki (c m : Nat) (l : Tx) : oneT 3 c m l = if l.length < 3 then (0, 0) else if (l.getD 1 0).toNat < 128 ∨ (l.getD 1 0).toNat > 191 then (0, 0) else if (l.getD 2 0).toNat < 128 ∨ (l.getD 2 0).toNat > 191 then (0, 0) else oneR 3 m ((c * 64 + (l.getD 1 0).toNat - 128) * 64 + (l.getD 2 0).toNat - 128) := by
  unfold oneT
  by_cases h : l.length < 3
  · rw [if_pos h, if_pos h]
  rw [if_neg h, if_neg h]
  rw [dM (l := l) (i := 1) (n := 3) (by decide) (by decide) (by omega)]
  by_cases h1 : (l.getD 1 0).toNat < 128 ∨ (l.getD 1 0).toNat > 191
  · rw [if_pos h1, if_pos h1]
  rw [if_neg h1, if_neg h1]
  rw [dM (l := l) (i := 2) (n := 3) (by decide) (by decide) (by omega)]
  by_cases h2 : (l.getD 2 0).toNat < 128 ∨ (l.getD 2 0).toNat > 191
  · rw [if_pos h2, if_pos h2]
  rw [if_neg h2, if_neg h2]
  rw [iC]
theorem Kj (c m : Nat) (l : Tx) : oneT 4 c m l = if l.length < 4 then (0, 0) else if (l.getD 1 0).toNat < 128 ∨ (l.getD 1 0).toNat > 191 then (0, 0) else if (l.getD 2 0).toNat < 128 ∨ (l.getD 2 0).toNat > 191 then (0, 0) else if (l.getD 3 0).toNat < 128 ∨ (l.getD 3 0).toNat > 191 then (0, 0) else oneR 4 m (((c * 64 + (l.getD 1 0).toNat - 128) * 64 + (l.getD 2 0).toNat - 128) * 64 + (l.getD 3 0).toNat - 128) := by
  unfold oneT
  by_cases h : l.length < 4
  · rw [if_pos h, if_pos h]
  rw [if_neg h, if_neg h]
  rw [dM (l := l) (i := 1) (n := 4) (by decide) (by decide) (by omega)]
  by_cases h1 : (l.getD 1 0).toNat < 128 ∨ (l.getD 1 0).toNat > 191
  · rw [if_pos h1, if_pos h1]
  rw [if_neg h1, if_neg h1]
  rw [dM (l := l) (i := 2) (n := 4) (by decide) (by decide) (by omega)]
  by_cases h2 : (l.getD 2 0).toNat < 128 ∨ (l.getD 2 0).toNat > 191
  · rw [if_pos h2, if_pos h2]
  rw [if_neg h2, if_neg h2]
  rw [dM (l := l) (i := 3) (n := 4) (by decide) (by decide) (by omega)]
  by_cases h3 : (l.getD 3 0).toNat < 128 ∨ (l.getD 3 0).toNat > 191
  · rw [if_pos h3, if_pos h3]
  rw [if_neg h3, if_neg h3]
  rw [iC]
theorem Kk (l : Tx) (hl : l ≠ []) : oneF l = oneN l.length (l.getD 0 0).toNat (l.getD 1 0).toNat (l.getD 2 0).toNat (l.getD 3 0).toNat := by
  obtain ⟨x, t, rfl⟩ : ∃ x t, l = x :: t := by
    cases l with
    | nil => exact absurd rfl hl
    | cons x t => exact ⟨x, t, rfl⟩
  have e0 : (x :: t).getD 0 0 = x := rfl
  unfold oneF oneN
  dsimp only
  rw [e0, Kh, Ki, Kj]
set_option maxHeartbeats 4000000 in
theorem Aj (L b0 b1 b2 b3 : Nat) (h0 : b0 < 256) (h1 : b1 < 256) (h2 : b2 < 256) (h3 : b3 < 256) :
    (oneN L b0 b1 b2 b3 = Lib.decodeN L b0 b1 b2 b3 ∧ ¬ ((Lib.decodeN L b0 b1 b2 b3).1 = 65533 ∧ (Lib.decodeN L b0 b1 b2 b3).2 < 3)) ∨ (oneN L b0 b1 b2 b3 = (0, 0) ∧ (Lib.decodeN L b0 b1 b2 b3).1 = 65533 ∧ (Lib.decodeN L b0 b1 b2 b3).2 < 3) := by
  generalize hd : Lib.decodeN L b0 b1 b2 b3 = d
  generalize ho : oneN L b0 b1 b2 b3 = o
  unfold Lib.decodeN at hd
  unfold oneN oneR at ho
  obtain ⟨d1, d2⟩ := d
  obtain ⟨o1, o2⟩ := o
  simp only [Prod.mk.injEq]
  (repeat' split at hd) <;> (repeat' split at ho) <;> simp only [Prod.mk.injEq] at hd ho <;> omega
theorem Ak (l : Tx) (hl : l ≠ []) : (oneF l = Lib.decodeL l ∧ ¬ ((Lib.decodeL l).1 = 65533 ∧ (Lib.decodeL l).2 < 3)) ∨ (oneF l = (0, 0) ∧ (Lib.decodeL l).1 = 65533 ∧ (Lib.decodeL l).2 < 3) := by
  rw [Kk l hl, Lib.decodeL_N]
  exact Aj _ _ _ _ _ (UInt8.toNat_lt _) (UInt8.toNat_lt _) (UInt8.toNat_lt _) (UInt8.toNat_lt _)
end Go.Proofs.YtohgmkjhbacmpaaGreatDoor
set_option linter.unusedVariables false
set_option linter.unusedSimpArgs false
namespace Go.Proofs.YtohgmkjhbacmpaaGreatDoor
open Go Go.Abs Go.RowKit Go.Xml
variable {base : Nat} {w0 : World} {G : Nat}
end Go.Proofs.YtohgmkjhbacmpaaGreatDoor
