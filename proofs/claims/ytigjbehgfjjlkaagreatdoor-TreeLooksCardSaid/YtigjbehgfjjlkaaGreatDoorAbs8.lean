/- Texts as rows of octets (no condition on what they hold). -/
import Derived.Test.YtigjbehgfjjlkaaGreatDoorAbsJ
import Derived.Test.YtigjbehgfjjlkaaGreatDoorAbsS
set_option linter.unusedVariables false
set_option linter.unusedSimpArgs false
namespace Go.Abs
open Go.RowKit
theorem ET {cx : Cx} {ρ : Env} {st : St} {k q : Value → St → Prop} (t : TypeId) (x : Operand) : abody cx (.range t x) ρ st k q = alet (nN cx.P st t (ev cx.G ρ x)) (stop k .mk) := (rfl)
theorem Co {cx : Cx} {ρ : Env} {st : St} {k q : Value → St → Prop} (it : Operand) (z : Bool) : abody cx (.next it z) ρ st k q = alet (oZ st (ev cx.G ρ it) z) (stop k .mk) := (rfl)
theorem uL {cx : Cx} {ρ : Env} {st : St} {k q : Value → St → Prop} (x : Operand) (s t : TypeId) (c : Bool) : abody cx (.typeAssert x s t c) ρ st k q = alet ((qV cx.P t c (ev cx.G ρ x)).map fun v => (v, st)) (stop k .mk) := (rfl)
abbrev Tx := List UInt8
def tx (l : Tx) : ByteArray := ⟨l.toArray⟩
def nb8 (l : Tx) : List Nat := l.map UInt8.toNat
theorem pE (l : Tx) : Bt (nb8 l) := fun d hd => by
  obtain ⟨b, _, rfl⟩ := List.mem_map.1 hd
  exact b.toNat_lt
theorem aO (l : Tx) : (nb8 l).length = l.length := List.length_map _
theorem qX (a b : Tx) : nb8 (a ++ b) = nb8 a ++ nb8 b := List.map_append
theorem iW (l : Tx) : tx l = str (nb8 l) := by
  apply ByteArray.ext
  show l.toArray = ((nb8 l).map UInt8.ofNat).toArray
  rw [show (nb8 l).map UInt8.ofNat = l from Jg l]
theorem wV {a b : Tx} (h : tx a = tx b) : a = b := by
  have := congrArg (fun s : ByteArray => s.data.toList) h
  simpa [tx] using this
theorem aF (l : Tx) : (tx l).size = l.length := by simp [tx, ByteArray.size]
theorem dF (l : Tx) : (tx l).data.toList = l := by simp [tx]
theorem Jh (s : ByteArray) : tx s.data.toList = s := by
  apply ByteArray.ext
  simp [tx]
theorem vo (l : Tx) : (tx l).toList = l := by
  rw [ByteArray.toList_eq]
  simp [tx]
theorem EU (a b : Tx) : ((tx a).toList == (tx b).toList) = decide (a = b) := by
  rw [vo, vo]
  by_cases h : a = b
  · subst h; simp
  · rw [decide_eq_false h]; simpa using h
theorem lX {P : Program} {t : TypeId} {k : IntKind} {l : Tx} {i : Nat} (hu : P.underlying t = some .string) (h : i < l.length) : jg P t (.string (tx l)) (.int k (i : Int)) = some (.int .u8 ((l.getD i 0).toNat : Nat)) := by
  rw [iW, AY hu (pE l) (by rw [aO]; exact h)]
  simp [nb8, List.getD_eq_getElem?_getD, h]
theorem EW (l : Tx) (n : Nat) : (nb8 l).take n = nb8 (l.take n) := (List.map_take).symm
theorem yX (l : Tx) (n : Nat) : (nb8 l).drop n = nb8 (l.drop n) := (List.map_drop).symm
theorem vv {P : Program} {st : St} {t : TypeId} {l : Tx} {lo hi : Option Value} {a b c : Nat} (hu : P.underlying t = some .string) (hb : dD l.length l.length lo hi none = some (a, b, c)) :
    aslice P st t (.string (tx l)) lo hi none = some (.string (tx ((l.take b).drop a))) := by
  rw [iW, AZ hu (by rw [aO]; exact hb), EW, yX, ← iW]
theorem cZ {P : Program} {st : St} {t : TypeId} {l : Tx} {a : Nat} (hu : P.underlying t = some .string) (ha : a ≤ l.length) :
    aslice P st t (.string (tx l)) (some (.int .i64 (a : Int))) none none = some (.string (tx (l.drop a))) := by
  rw [vv hu (mR ha (Nat.le_refl _)), List.take_length]
theorem gu {P : Program} {st : St} {t : TypeId} {l : Tx} {b : Nat} (hu : P.underlying t = some .string) (hb : b ≤ l.length) :
    aslice P st t (.string (tx l)) none (some (.int .i64 (b : Int))) none = some (.string (tx (l.take b))) := by
  rw [vv hu (kK hb), List.drop_zero]
theorem jX {P : Program} {st : St} {s t e : TypeId} {l : Tx} (hs : P.underlying s = some .string) (ht : P.underlying t = some (.slice e)) (he : P.underlying e = some (.int .u8)) (hz : asz P e = some 1) :
    dP P st s t (.string (tx l)) = some (.slice (some ⟨st.n, 0, some 0⟩) l.length l.length, st.new (.cells (nl (nb8 l)) e true)) := by
  rw [iW, yV hs ht he hz (pE l), aO]
theorem mV {P : Program} {st : St} {v : Value} {l : Tx} {t e s : TypeId} (ht : P.underlying t = some (.slice e)) (he : P.underlying e = some (.int .u8)) (hs' : P.underlying s = some .string) (hs : asrc st 1 v = some (l.length, nl (nb8 l))) (hv : ∃ a n c, v = .slice a n c) : dP P st t s v = some (.string (tx l), st) := by
  rw [iW]
  exact A9 ht he hs' (by rw [aO]; exact hs) hv
theorem jY {a b : Tx} (h : a.length + b.length ≤ 9223372036854775807) : astr .add (tx a) (tx b) = some (.string (tx (a ++ b))) := by
  rw [iW, iW, ER (by rw [aO, aO]; exact h), ← qX, ← iW]
theorem aB (a b : Tx) : astr .eql (tx a) (tx b) = some (.bool (decide (a = b))) := by
  simp only [astr, EU]
theorem bI (a b : Tx) : astr .neq (tx a) (tx b) = some (.bool (!decide (a = b))) := by
  simp only [astr, EU]
end Go.Abs
