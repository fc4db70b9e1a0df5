/- Texts as rows of octets (no condition on what they hold). -/
import Derived.Test.YtigjbehgfjjlkaaGreatDoorAbsJ
import Derived.Test.YtigjbehgfjjlkaaGreatDoorAbsS
set_option linter.unusedVariables false
set_option linter.unusedSimpArgs false
namespace Go.Abs
open Go.RowKit
theorem Hw {cx : Cx} {ρ : Env} {st : St} {k q : Value → St → Prop} (t : TypeId) (x : Operand) : abody cx (.range t x) ρ st k q = alet (oQ cx.P st t (ev cx.G ρ x)) (stop k .mk) := (rfl)
theorem Er {cx : Cx} {ρ : Env} {st : St} {k q : Value → St → Prop} (it : Operand) (z : Bool) : abody cx (.next it z) ρ st k q = alet (qG st (ev cx.G ρ it) z) (stop k .mk) := (rfl)
theorem vZ {cx : Cx} {ρ : Env} {st : St} {k q : Value → St → Prop} (x : Operand) (s t : TypeId) (c : Bool) : abody cx (.typeAssert x s t c) ρ st k q = alet ((sI cx.P t c (ev cx.G ρ x)).map fun v => (v, st)) (stop k .mk) := (rfl)
abbrev Tx := List UInt8
def tx (l : Tx) : ByteArray := ⟨l.toArray⟩
def nb8 (l : Tx) : List Nat := l.map UInt8.toNat
theorem nU (l : Tx) : Bt (nb8 l) := fun d hd => by
  obtain ⟨b, _, rfl⟩ := List.mem_map.1 hd
  exact b.toNat_lt
theorem aF (l : Tx) : (nb8 l).length = l.length := List.length_map _
theorem sJ (a b : Tx) : nb8 (a ++ b) = nb8 a ++ nb8 b := List.map_append
theorem jc (l : Tx) : tx l = str (nb8 l) := by
  apply ByteArray.ext
  show l.toArray = ((nb8 l).map UInt8.ofNat).toArray
  rw [show (nb8 l).map UInt8.ofNat = l from LW l]
theorem aO (l : Tx) : (tx l).size = l.length := by simp [tx, ByteArray.size]
theorem cK (l : Tx) : (tx l).data.toList = l := by simp [tx]
theorem wN (l : Tx) : (tx l).toList = l := by
  rw [ByteArray.toList_eq]
  simp [tx]
theorem Hy (a b : Tx) : ((tx a).toList == (tx b).toList) = decide (a = b) := by
  rw [wN, wN]
  by_cases h : a = b
  · subst h; simp
  · rw [decide_eq_false h]; simpa using h
theorem mV {P : Program} {t : TypeId} {k : IntKind} {l : Tx} {i : Nat} (hu : P.underlying t = some .string) (h : i < l.length) : jr P t (.string (tx l)) (.int k (i : Int)) = some (.int .u8 ((l.getD i 0).toNat : Nat)) := by
  rw [jc, CR hu (nU l) (by rw [aF]; exact h)]
  simp [nb8, List.getD_eq_getElem?_getD, h]
theorem Hz (l : Tx) (n : Nat) : (nb8 l).take n = nb8 (l.take n) := (List.map_take).symm
theorem Au (l : Tx) (n : Nat) : (nb8 l).drop n = nb8 (l.drop n) := (List.map_drop).symm
theorem wO {P : Program} {st : St} {t : TypeId} {l : Tx} {lo hi : Option Value} {a b c : Nat} (hu : P.underlying t = some .string) (hb : cB l.length l.length lo hi none = some (a, b, c)) :
    aslice P st t (.string (tx l)) lo hi none = some (.string (tx ((l.take b).drop a))) := by
  rw [jc, CS hu (by rw [aF]; exact hb), Hz, Au, ← jc]
theorem bU {P : Program} {st : St} {t : TypeId} {l : Tx} {a : Nat} (hu : P.underlying t = some .string) (ha : a ≤ l.length) :
    aslice P st t (.string (tx l)) (some (.int .i64 (a : Int))) none none = some (.string (tx (l.drop a))) := by
  rw [wO hu (tX ha (Nat.le_refl _)), List.take_length]
theorem gD {P : Program} {st : St} {t : TypeId} {l : Tx} {b : Nat} (hu : P.underlying t = some .string) (hb : b ≤ l.length) :
    aslice P st t (.string (tx l)) none (some (.int .i64 (b : Int))) none = some (.string (tx (l.take b))) := by
  rw [wO hu (nS hb), List.drop_zero]
theorem jy {P : Program} {st : St} {s t e : TypeId} {l : Tx} (hs : P.underlying s = some .string) (ht : P.underlying t = some (.slice e)) (he : P.underlying e = some (.int .u8)) (hz : asz P e = some 1) :
    dL P st s t (.string (tx l)) = some (.slice (some ⟨st.n, 0, some 0⟩) l.length l.length, st.new (.cells (nl (nb8 l)) e true)) := by
  rw [jc, Ar hs ht he hz (nU l), aF]
theorem nV {P : Program} {st : St} {v : Value} {l : Tx} {t e s : TypeId} (ht : P.underlying t = some (.slice e)) (he : P.underlying e = some (.int .u8)) (hs' : P.underlying s = some .string) (hs : asrc st 1 v = some (l.length, nl (nb8 l))) (hv : ∃ a n c, v = .slice a n c) : dL P st t s v = some (.string (tx l), st) := by
  rw [jc]
  exact CV ht he hs' (by rw [aF]; exact hs) hv
theorem kG {a b : Tx} (h : a.length + b.length ≤ 9223372036854775807) : astr .add (tx a) (tx b) = some (.string (tx (a ++ b))) := by
  rw [jc, jc, Ht (by rw [aF, aF]; exact h), ← sJ, ← jc]
theorem aA (a b : Tx) : astr .eql (tx a) (tx b) = some (.bool (decide (a = b))) := by
  simp only [astr, Hy]
theorem dx (a b : Tx) : astr .neq (tx a) (tx b) = some (.bool (!decide (a = b))) := by
  simp only [astr, Hy]
end Go.Abs
