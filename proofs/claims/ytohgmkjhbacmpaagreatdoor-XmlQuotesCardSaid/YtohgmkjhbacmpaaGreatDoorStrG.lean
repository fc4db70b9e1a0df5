/- Functions of Go's library over texts, by the kit's contracts. No conditions but on their arguments. -/
import Derived.Test.YtohgmkjhbacmpaaGreatDoorShelf
import Derived.Test.YtohgmkjhbacmpaaGreatDoorAbs8
import Derived.Test.YtohgmkjhbacmpaaGreatDoorAbsT
import Derived.Shelf.Strings.SlTrimAscii
import Derived.Test.YtohgmkjhbacmpaaGreatDoorXmlP
set_option linter.unusedVariables false
set_option linter.unusedSimpArgs false
namespace Go.Proofs.YtohgmkjhbacmpaaGreatDoor
open Go Go.Abs Go.RowKit
variable {base : Nat} {w0 : World} {G : Nat}
theorem oU (w : World) (k : Nat) : Below w.heap.size w (w.drewN k) := ⟨rfl, rfl, rfl, Nat.le_refl _, fun j hj => rfl⟩
theorem tup2 {φ : Emb} {a b : Value} (ha : VR φ a a) (hb : VR φ b b) : VR φ (.tuple #[a, b]) (.tuple #[a, b]) := by
  refine .tuple rfl fun i h1 h2 => ?_
  match i, h1 with
  | 0, _ => exact ha
  | 1, _ => exact hb
theorem tup3 {φ : Emb} {a b c : Value} (ha : VR φ a a) (hb : VR φ b b) (hc : VR φ c c) : VR φ (.tuple #[a, b, c]) (.tuple #[a, b, c]) := by
  refine .tuple rfl fun i h1 h2 => ?_
  match i, h1 with
  | 0, _ => exact ha
  | 1, _ => exact hb
  | 2, _ => exact hc
def dL (w0 : World) : Prop := ∃ m, w0.cell? ⟨2, 0, none⟩ = some (.int .i64 m)
theorem nU {w : World} (h : dL w0) (hb : Below base w0 w) (hg : 2 < base) : ∃ m, w.cell? ⟨2, 0, none⟩ = some (.int .i64 m) := by
  obtain ⟨m, hm⟩ := h
  exact ⟨m, (hb.cell (p := ⟨2, 0, none⟩) hg).trans hm⟩
theorem fK {st : St} (s : Tx) (c : UInt8) (k q : Value → St → Prop) (hk : k (.int .i64 (Lib.indexByte s c)) st) : au (C base w0 G) 40 [.string (tx s), .int .u8 (c.toNat : Nat)] st k q := by
  refine au.world (V := .int .i64 (Lib.indexByte s c)) Tryz.func40 rfl (by kernel_rfl) (by simp [lf]) (fun φ => .int _ _) (fun w hG hb => ?_) hk
  refine (Tryz.strings_IndexByte (tx s) (c.toNat : Nat) w).mono ?_
  rintro e w' ⟨rfl, rfl⟩
  exact ⟨by rw [bX]; simp, Below.refl _ _⟩
theorem jT {st : St} (s p : Tx) (k q : Value → St → Prop) (hk : k (.bool (p.isPrefixOf s)) st) : au (C base w0 G) 95 [.string (tx s), .string (tx p)] st k q := by
  refine au.world (V := .bool (p.isPrefixOf s)) Tryz.func95 rfl (by kernel_rfl) (by simp [lf]) (fun φ => .bool _) (fun w hG hb => ?_) hk
  refine (Tryz.strings_HasPrefix (tx s) (tx p) w).mono ?_
  rintro e w' ⟨rfl, rfl⟩
  exact ⟨by rw [bX, bX]; rfl, Below.refl _ _⟩
theorem fM {st : St} (s p : Tx) (k q : Value → St → Prop) (hk : k (.tuple #[.string (tx (if p.isPrefixOf s then s.drop p.length else s)), .bool (p.isPrefixOf s)]) st) : au (C base w0 G) 39 [.string (tx s), .string (tx p)] st k q := by
  refine au.world (V := .tuple #[.string (tx (if p.isPrefixOf s then s.drop p.length else s)), .bool (p.isPrefixOf s)]) Tryz.func39 rfl (by kernel_rfl) (by simp [lf]) (fun φ => tup2 (.string _) (.bool _)) (fun w hG hb => ?_) hk
  refine (Tryz.strings_CutPrefix (tx s) (tx p) w).mono ?_
  rintro e w' ⟨rfl, rfl⟩
  exact ⟨by rw [bX, bX]; rfl, Below.refl _ _⟩
theorem kS {st : St} (s p : Tx) (hM : dL w0) (hs : s.length < 4294967281) (k q : Value → St → Prop) (hk : k (.bool (Lib.contains s p)) st) : au (C base w0 3) 53 [.string (tx s), .string (tx p)] st k q := by
  refine au.world (V := .bool (Lib.contains s p)) Tryz.func53 rfl (by kernel_rfl) (by simp [lf]) (fun φ => .bool _) (fun w hG hb => ?_) hk
  obtain ⟨m, hm⟩ := nU hM hb (Nat.lt_of_lt_of_le (by decide) (show 3 ≤ base from hG))
  refine (Tryz.strings_Contains (tx s) (tx p) m w (by rw [aK]; exact hs) hm).mono ?_
  rintro e w' ⟨rfl, rfl⟩
  exact ⟨by rw [bX, bX], Below.refl _ _⟩
def cutV (s p : Tx) : Value := .tuple #[.string (tx (Lib.cut s p).1), .string (tx (Lib.cut s p).2.1), .bool (Lib.cut s p).2.2]
theorem mK {st : St} (s p : Tx) (hM : dL w0) (hs : s.length < 4294967281) (k q : Value → St → Prop) (hk : k (cutV s p) st) : au (C base w0 3) 69 [.string (tx s), .string (tx p)] st k q := by
  refine au.world (V := cutV s p) Tryz.func69 rfl (by kernel_rfl) (by simp [lf]) (fun φ => tup3 (.string _) (.string _) (.bool _)) (fun w hG hb => ?_) hk
  obtain ⟨m, hm⟩ := nU hM hb (Nat.lt_of_lt_of_le (by decide) (show 3 ≤ base from hG))
  refine (Tryz.strings_Cut (tx s) (tx p) m w (by rw [aK]; exact hs) hm).mono ?_
  rintro e w' ⟨rfl, n, rfl⟩
  exact ⟨by rw [bX, bX]; rfl, oU w n⟩
theorem jL {st : St} (s o n : Tx) (hM : dL w0) (hs : s.length < 4294967281) (ho : 1 ≤ o.length) (hl : s.length + Lib.countB (tx s) (tx o) * n.length ≤ 140737488355328) (k q : Value → St → Prop) (hk : k (.string (tx (Lib.replaceAll s o n))) st) :
    au (C base w0 3) 27 [.string (tx s), .string (tx o), .string (tx n)] st k q := by
  refine au.world (V := .string (tx (Lib.replaceAll s o n))) Tryz.func27 rfl (by kernel_rfl) (by simp [lf]) (fun φ => .string _) (fun w hG hb => ?_) hk
  obtain ⟨m, hm⟩ := nU hM hb (Nat.lt_of_lt_of_le (by decide) (show 3 ≤ base from hG))
  refine (Tryz.strings_ReplaceAll (tx s) (tx o) (tx n) m w (by rw [aK]; exact hs) hm (by rw [aK]; exact ho) (by rw [aK, aK]; exact hl)).mono ?_
  rintro e w' ⟨rfl, hb'⟩
  exact ⟨by rw [bX, bX, bX]; rfl, hb'⟩
end Go.Proofs.YtohgmkjhbacmpaaGreatDoor
set_option linter.unusedVariables false
set_option linter.unusedSimpArgs false
namespace Go.Proofs.YtohgmkjhbacmpaaGreatDoor
open Go Go.Abs Go.RowKit Go.Xml
variable {base : Nat} {w0 : World} {G : Nat}
set_option maxRecDepth 100000 in
theorem Ia (w : World) : (zeroValue 115).run Tryz.prog w = .ok (.agg (Array.replicate 256 (.bool false))) w := by
  have h := Tryz.zeroValue115
  first
    | exact h w
    | exact h
    | (rw [h]; rfl)
theorem mM : ∀ (j : Nat) b, (tx blanks).data.toList[j]? = some b → b.toNat < 128 := by
  rw [bX]
  intro j b h
  have : b ∈ blanks := List.mem_of_getElem? h
  simp [blanks] at this
  rcases this with rfl | rfl | rfl <;> decide
set_option maxRecDepth 10000 in
theorem wC {st : St} (k q : Value → St → Prop) (hk : k (.string (tx [])) st) : ay (C base w0 G) 68 [.string (tx []), .string (tx blanks)] st k q := by
  refine ay.of (cx := C base w0 G) mixed Tryz.func68 rfl (by kernel_rfl) (by simp [Tryz.ntmps68]) ?_
  simp only [Tryz.results68]
  have e0 : (⟨#[]⟩ : ByteArray) = tx [] := rfl
  simp -implicitDefEqProofs only [go_sem, ↓aj, ↓ah, ak, Nat.reduceBEq, ↓reduceIte, reduceCtorEq, Nat.reduceEqDiff, Nat.reduceAdd, Nat.reduceLeDiff, Int.reduceEq, Int.reduceLT, Int.reduceLE, Int.reduceAdd, Int.reduceToNat, Int.reduceNeg, Nat.reduceMul, Nat.reduceSub, Int.reduceBNe, Int.reduceBEq, e0, aA, decide_true]
  exact hk
set_option maxRecDepth 10000 in
theorem EM {st : St} (k q : Value → St → Prop) (hk : k (.string (tx [])) st) : ay (C base w0 G) 52 [.string (tx []), .string (tx blanks)] st k q := by
  refine ay.of (cx := C base w0 G) mixed Tryz.func52 rfl (by kernel_rfl) (by simp [Tryz.ntmps52]) ?_
  simp only [Tryz.results52]
  have e0 : (⟨#[]⟩ : ByteArray) = tx [] := rfl
  simp -implicitDefEqProofs only [go_sem, ↓aj, ↓ah, ak, Nat.reduceBEq, ↓reduceIte, reduceCtorEq, Nat.reduceEqDiff, Nat.reduceAdd, Nat.reduceLeDiff, Int.reduceEq, Int.reduceLT, Int.reduceLE, Int.reduceAdd, Int.reduceToNat, Int.reduceNeg, Nat.reduceMul, Nat.reduceSub, Int.reduceBNe, Int.reduceBEq, e0, aA, decide_true]
  exact hk
theorem tu {st : St} (s : Tx) (k q : Value → St → Prop) (hk : k (.string (tx (Lib.trimLeftS s blanks))) st) : au (C base w0 G) 68 [.string (tx s), .string (tx blanks)] st k q := by
  by_cases h : s = []
  · subst h
    exact au.enter Tryz.func68 rfl (by kernel_rfl) (wC _ _ hk)
  refine au.world (V := .string (tx (Lib.trimLeftS s blanks))) Tryz.func68 rfl (by kernel_rfl) (by simp [lf]) (fun φ => .string _) (fun w hG hb => ?_) hk
  have hl : 0 < s.length := List.length_pos_iff.2 h
  refine (Any.strings_TrimLeft_set Tryz.FU Ia (by kernel_rfl) (tx s) (tx blanks) w (by rw [aK]; decide) (by rw [aK]; exact hl) (by rw [aK]; decide) mM).mono ?_
  rintro e w' ⟨rfl, rfl⟩
  exact ⟨by rw [bX, bX]; rfl, ((Below.refl _ w).alloc (Nat.le_refl _) _).trans (((Below.refl _ _).alloc (Nat.le_refl _) _).mono (by simp))⟩
theorem Dj {st : St} (s : Tx) (hs : s.length ≤ 9223372036854775807) (k q : Value → St → Prop) (hk : k (.string (tx (Lib.trimS s blanks))) st) : au (C base w0 G) 52 [.string (tx s), .string (tx blanks)] st k q := by
  by_cases h : s = []
  · subst h
    exact au.enter Tryz.func52 rfl (by kernel_rfl) (EM _ _ hk)
  refine au.world (V := .string (tx (Lib.trimS s blanks))) Tryz.func52 rfl (by kernel_rfl) (by simp [lf]) (fun φ => .string _) (fun w hG hb => ?_) hk
  have hl : 0 < s.length := List.length_pos_iff.2 h
  refine (Any.strings_Trim_set Tryz.FV Ia (by kernel_rfl) (tx s) (tx blanks) w (by rw [aK]; decide) (by rw [aK]; exact hl) (by rw [aK]; exact hs) (by rw [aK]; decide) mM).mono ?_
  rintro e w' ⟨rfl, q, rfl⟩
  exact ⟨by rw [bX, bX]; rfl, (((Below.refl _ w).alloc (Nat.le_refl _) _).trans (((Below.refl _ _).alloc (Nat.le_refl _) _).mono (by simp))).trans ((oU _ q).mono (by simp; omega))⟩
end Go.Proofs.YtohgmkjhbacmpaaGreatDoor
