/- Functions of Go's library over texts, by the kit's contracts. No conditions but on their arguments. -/
import Derived.Test.YtigjbehgfjjlkaaGreatDoorShelf
import Derived.Test.YtigjbehgfjjlkaaGreatDoorAbs8
import Derived.Test.YtigjbehgfjjlkaaGreatDoorAbsT
import Derived.Shelf.Strings.SlTrimAscii
import Derived.Test.YtigjbehgfjjlkaaGreatDoorXmlP
set_option linter.unusedVariables false
set_option linter.unusedSimpArgs false
namespace Go.Proofs.YtigjbehgfjjlkaaGreatDoor
open Go Go.Abs Go.RowKit
variable {base : Nat} {w0 : World} {G : Nat}
theorem rM (w : World) (k : Nat) : Below w.heap.size w (w.drewN k) := ⟨rfl, rfl, rfl, Nat.le_refl _, fun j hj => rfl⟩
theorem tup2 {φ : Emb} {a b : Value} (ha : VR φ a a) (hb : VR φ b b) : VR φ (.tuple #[a, b]) (.tuple #[a, b]) := by
  refine .tuple rfl fun i h1 h2 => ?_
  match i, h1 with
  | 0, _ => exact ha
  | 1, _ => exact hb
theorem tup3 {φ : Emb} {a b c : Value} (ha : VR φ a a) (hb : VR φ b b) (hc : VR φ c c) : VR φ (.tuple #[a, b, c]) (.tuple #[a, b, c]) := by
  refine .tuple rfl fun i h1 h2 => ?_
  match i, h1 with
  | 0, _ => exact ha
  | 1, _ => exact hb
  | 2, _ => exact hc
def eG (w0 : World) : Prop := ∃ m, w0.cell? ⟨2, 0, none⟩ = some (.int .i64 m)
theorem qN {w : World} (h : eG w0) (hb : Below base w0 w) (hg : 2 < base) : ∃ m, w.cell? ⟨2, 0, none⟩ = some (.int .i64 m) := by
  obtain ⟨m, hm⟩ := h
  exact ⟨m, (hb.cell (p := ⟨2, 0, none⟩) hg).trans hm⟩
theorem gX {st : St} (s : Tx) (c : UInt8) (k q : Value → St → Prop) (hk : k (.int .i64 (Lib.indexByte s c)) st) : au (C base w0 G) 72 [.string (tx s), .int .u8 (c.toNat : Nat)] st k q := by
  refine au.world (V := .int .i64 (Lib.indexByte s c)) Tryz.func72 rfl (by kernel_rfl) (by simp [lf]) (fun φ => .int _ _) (fun w hG hb => ?_) hk
  refine (Tryz.strings_IndexByte (tx s) (c.toNat : Nat) w).mono ?_
  rintro e w' ⟨rfl, rfl⟩
  exact ⟨by rw [cK]; simp, Below.refl _ _⟩
theorem mo {st : St} (s p : Tx) (k q : Value → St → Prop) (hk : k (.bool (p.isPrefixOf s)) st) : au (C base w0 G) 128 [.string (tx s), .string (tx p)] st k q := by
  refine au.world (V := .bool (p.isPrefixOf s)) Tryz.func128 rfl (by kernel_rfl) (by simp [lf]) (fun φ => .bool _) (fun w hG hb => ?_) hk
  refine (Tryz.strings_HasPrefix (tx s) (tx p) w).mono ?_
  rintro e w' ⟨rfl, rfl⟩
  exact ⟨by rw [cK, cK]; rfl, Below.refl _ _⟩
theorem gY {st : St} (s p : Tx) (k q : Value → St → Prop) (hk : k (.tuple #[.string (tx (if p.isPrefixOf s then s.drop p.length else s)), .bool (p.isPrefixOf s)]) st) : au (C base w0 G) 71 [.string (tx s), .string (tx p)] st k q := by
  refine au.world (V := .tuple #[.string (tx (if p.isPrefixOf s then s.drop p.length else s)), .bool (p.isPrefixOf s)]) Tryz.func71 rfl (by kernel_rfl) (by simp [lf]) (fun φ => tup2 (.string _) (.bool _)) (fun w hG hb => ?_) hk
  refine (Tryz.strings_CutPrefix (tx s) (tx p) w).mono ?_
  rintro e w' ⟨rfl, rfl⟩
  exact ⟨by rw [cK, cK]; rfl, Below.refl _ _⟩
theorem nJ {st : St} (s p : Tx) (hM : eG w0) (hs : s.length < 4294967281) (k q : Value → St → Prop) (hk : k (.bool (Lib.contains s p)) st) : au (C base w0 3) 85 [.string (tx s), .string (tx p)] st k q := by
  refine au.world (V := .bool (Lib.contains s p)) Tryz.func85 rfl (by kernel_rfl) (by simp [lf]) (fun φ => .bool _) (fun w hG hb => ?_) hk
  obtain ⟨m, hm⟩ := qN hM hb (Nat.lt_of_lt_of_le (by decide) (show 3 ≤ base from hG))
  refine (Tryz.strings_Contains (tx s) (tx p) m w (by rw [aO]; exact hs) hm).mono ?_
  rintro e w' ⟨rfl, rfl⟩
  exact ⟨by rw [cK, cK], Below.refl _ _⟩
def cutV (s p : Tx) : Value := .tuple #[.string (tx (Lib.cut s p).1), .string (tx (Lib.cut s p).2.1), .bool (Lib.cut s p).2.2]
theorem pI {st : St} (s p : Tx) (hM : eG w0) (hs : s.length < 4294967281) (k q : Value → St → Prop) (hk : k (cutV s p) st) : au (C base w0 3) 103 [.string (tx s), .string (tx p)] st k q := by
  refine au.world (V := cutV s p) Tryz.func103 rfl (by kernel_rfl) (by simp [lf]) (fun φ => tup3 (.string _) (.string _) (.bool _)) (fun w hG hb => ?_) hk
  obtain ⟨m, hm⟩ := qN hM hb (Nat.lt_of_lt_of_le (by decide) (show 3 ≤ base from hG))
  refine (Tryz.strings_Cut (tx s) (tx p) m w (by rw [aO]; exact hs) hm).mono ?_
  rintro e w' ⟨rfl, n, rfl⟩
  exact ⟨by rw [cK, cK]; rfl, rM w n⟩
theorem lX {st : St} (s o n : Tx) (hM : eG w0) (hs : s.length < 4294967281) (ho : 1 ≤ o.length) (hl : s.length + Lib.countB (tx s) (tx o) * n.length ≤ 140737488355328) (k q : Value → St → Prop) (hk : k (.string (tx (Lib.replaceAll s o n))) st) :
    au (C base w0 3) 54 [.string (tx s), .string (tx o), .string (tx n)] st k q := by
  refine au.world (V := .string (tx (Lib.replaceAll s o n))) Tryz.func54 rfl (by kernel_rfl) (by simp [lf]) (fun φ => .string _) (fun w hG hb => ?_) hk
  obtain ⟨m, hm⟩ := qN hM hb (Nat.lt_of_lt_of_le (by decide) (show 3 ≤ base from hG))
  refine (Tryz.strings_ReplaceAll (tx s) (tx o) (tx n) m w (by rw [aO]; exact hs) hm (by rw [aO]; exact ho) (by rw [aO, aO]; exact hl)).mono ?_
  rintro e w' ⟨rfl, hb'⟩
  exact ⟨by rw [cK, cK, cK]; rfl, hb'⟩
end Go.Proofs.YtigjbehgfjjlkaaGreatDoor
set_option linter.unusedVariables false
set_option linter.unusedSimpArgs false
namespace Go.Proofs.YtigjbehgfjjlkaaGreatDoor
open Go Go.Abs Go.RowKit Go.Xml
variable {base : Nat} {w0 : World} {G : Nat}
set_option maxRecDepth 100000 in
theorem Kt (w : World) : (zeroValue 137).run Tryz.prog w = .ok (.agg (Array.replicate 256 (.bool false))) w := by
  have h := Tryz.zeroValue137
  first
    | exact h w
    | exact h
    | (rw [h]; rfl)
theorem pJ : ∀ (j : Nat) b, (tx blanks).data.toList[j]? = some b → b.toNat < 128 := by
  rw [cK]
  intro j b h
  have : b ∈ blanks := List.mem_of_getElem? h
  simp [blanks] at this
  rcases this with rfl | rfl | rfl <;> decide
set_option maxRecDepth 10000 in
theorem yR {st : St} (k q : Value → St → Prop) (hk : k (.string (tx [])) st) : ay (C base w0 G) 102 [.string (tx []), .string (tx blanks)] st k q := by
  refine ay.of (cx := C base w0 G) mixed Tryz.func102 rfl (by kernel_rfl) (by simp [Tryz.ntmps102]) ?_
  simp only [Tryz.results102]
  have e0 : (⟨#[]⟩ : ByteArray) = tx [] := rfl
  simp -implicitDefEqProofs only [go_sem, ↓aj, ↓ah, ak, Nat.reduceBEq, ↓reduceIte, reduceCtorEq, Nat.reduceEqDiff, Nat.reduceAdd, Nat.reduceLeDiff, Int.reduceEq, Int.reduceLT, Int.reduceLE, Int.reduceAdd, Int.reduceToNat, Int.reduceNeg, Nat.reduceMul, Nat.reduceSub, Int.reduceBNe, Int.reduceBEq, e0, aA, decide_true]
  exact hk
set_option maxRecDepth 10000 in
theorem HY {st : St} (k q : Value → St → Prop) (hk : k (.string (tx [])) st) : ay (C base w0 G) 84 [.string (tx []), .string (tx blanks)] st k q := by
  refine ay.of (cx := C base w0 G) mixed Tryz.func84 rfl (by kernel_rfl) (by simp [Tryz.ntmps84]) ?_
  simp only [Tryz.results84]
  have e0 : (⟨#[]⟩ : ByteArray) = tx [] := rfl
  simp -implicitDefEqProofs only [go_sem, ↓aj, ↓ah, ak, Nat.reduceBEq, ↓reduceIte, reduceCtorEq, Nat.reduceEqDiff, Nat.reduceAdd, Nat.reduceLeDiff, Int.reduceEq, Int.reduceLT, Int.reduceLE, Int.reduceAdd, Int.reduceToNat, Int.reduceNeg, Nat.reduceMul, Nat.reduceSub, Int.reduceBNe, Int.reduceBEq, e0, aA, decide_true]
  exact hk
theorem wh {st : St} (s : Tx) (k q : Value → St → Prop) (hk : k (.string (tx (Lib.trimLeftS s blanks))) st) : au (C base w0 G) 102 [.string (tx s), .string (tx blanks)] st k q := by
  by_cases h : s = []
  · subst h
    exact au.enter Tryz.func102 rfl (by kernel_rfl) (yR _ _ hk)
  refine au.world (V := .string (tx (Lib.trimLeftS s blanks))) Tryz.func102 rfl (by kernel_rfl) (by simp [lf]) (fun φ => .string _) (fun w hG hb => ?_) hk
  have hl : 0 < s.length := List.length_pos_iff.2 h
  refine (Any.strings_TrimLeft_set Tryz.I8 Kt (by kernel_rfl) (tx s) (tx blanks) w (by rw [aO]; decide) (by rw [aO]; exact hl) (by rw [aO]; decide) pJ).mono ?_
  rintro e w' ⟨rfl, rfl⟩
  exact ⟨by rw [cK, cK]; rfl, ((Below.refl _ w).alloc (Nat.le_refl _) _).trans (((Below.refl _ _).alloc (Nat.le_refl _) _).mono (by simp))⟩
theorem FP {st : St} (s : Tx) (hs : s.length ≤ 9223372036854775807) (k q : Value → St → Prop) (hk : k (.string (tx (Lib.trimS s blanks))) st) : au (C base w0 G) 84 [.string (tx s), .string (tx blanks)] st k q := by
  by_cases h : s = []
  · subst h
    exact au.enter Tryz.func84 rfl (by kernel_rfl) (HY _ _ hk)
  refine au.world (V := .string (tx (Lib.trimS s blanks))) Tryz.func84 rfl (by kernel_rfl) (by simp [lf]) (fun φ => .string _) (fun w hG hb => ?_) hk
  have hl : 0 < s.length := List.length_pos_iff.2 h
  refine (Any.strings_Trim_set Tryz.I9 Kt (by kernel_rfl) (tx s) (tx blanks) w (by rw [aO]; decide) (by rw [aO]; exact hl) (by rw [aO]; exact hs) (by rw [aO]; decide) pJ).mono ?_
  rintro e w' ⟨rfl, q, rfl⟩
  exact ⟨by rw [cK, cK]; rfl, (((Below.refl _ w).alloc (Nat.le_refl _) _).trans (((Below.refl _ _).alloc (Nat.le_refl _) _).mono (by simp))).trans ((rM _ q).mono (by simp; omega))⟩
end Go.Proofs.YtigjbehgfjjlkaaGreatDoor
