/- Texts as rows of octets (no condition on what they hold). -/
import Derived.Test.YtigjbehgfjjlkaaGreatDoorAbsJ
import Derived.Test.YtigjbehgfjjlkaaGreatDoorAbsS
set_option linter.unusedVariables false
set_option linter.unusedSimpArgs false
namespace Go.Abs
open Go.RowKit
theorem Ez {cx : Cx} {ρ : Env} {st : St} {k q : Value → St → Prop} (t : TypeId) (x : Operand) : abody cx (.range t x) ρ st k q = alet (nG cx.P st t (ev cx.G ρ x)) (stop k .mk) := (rfl)
theorem BO {cx : Cx} {ρ : Env} {st : St} {k q : Value → St → Prop} (it : Operand) (z : Bool) : abody cx (.next it z) ρ st k q = alet (oN st (ev cx.G ρ it) z) (stop k .mk) := (rfl)
theorem uj {cx : Cx} {ρ : Env} {st : St} {k q : Value → St → Prop} (x : Operand) (s t : TypeId) (c : Bool) : abody cx (.typeAssert x s t c) ρ st k q = alet ((qK cx.P t c (ev cx.G ρ x)).map fun v => (v, st)) (stop k .mk) := (rfl)
abbrev Tx := List UInt8
def tx (l : Tx) : ByteArray := ⟨l.toArray⟩
def nb8 (l : Tx) : List Nat := l.map UInt8.toNat
theorem oW (l : Tx) : Bt (nb8 l) := fun d hd => by
  obtain ⟨b, _, rfl⟩ := List.mem_map.1 hd
  exact b.toNat_lt
theorem aL (l : Tx) : (nb8 l).length = l.length := List.length_map _
theorem qM (a b : Tx) : nb8 (a ++ b) = nb8 a ++ nb8 b := List.map_append
theorem iP (l : Tx) : tx l = str (nb8 l) := by
  apply ByteArray.ext
  show l.toArray = ((nb8 l).map UInt8.ofNat).toArray
  rw [show (nb8 l).map UInt8.ofNat = l from IU l]
theorem EA {a b : Tx} (h : tx a = tx b) : a = b := by
  have := congrArg (fun s : ByteArray => s.data.toList) h
  simpa [tx] using this
theorem aD (l : Tx) : (tx l).size = l.length := by simp [tx, ByteArray.size]
theorem dh (l : Tx) : (tx l).data.toList = l := by simp [tx]
theorem IV (s : ByteArray) : tx s.data.toList = s := by
  apply ByteArray.ext
  simp [tx]
theorem uP (l : Tx) : (tx l).toList = l := by
  rw [ByteArray.toList_eq]
  simp [tx]
theorem EB (a b : Tx) : ((tx a).toList == (tx b).toList) = decide (a = b) := by
  rw [uP, uP]
  by_cases h : a = b
  · subst h; simp
  · rw [decide_eq_false h]; simpa using h
theorem lK {P : Program} {t : TypeId} {k : IntKind} {l : Tx} {i : Nat} (hu : P.underlying t = some .string) (h : i < l.length) : iX P t (.string (tx l)) (.int k (i : Int)) = some (.int .u8 ((l.getD i 0).toNat : Nat)) := by
  rw [iP, Au hu (oW l) (by rw [aL]; exact h)]
  simp [nb8, List.getD_eq_getElem?_getD, h]
theorem EC (l : Tx) (n : Nat) : (nb8 l).take n = nb8 (l.take n) := (List.map_take).symm
theorem yH (l : Tx) (n : Nat) : (nb8 l).drop n = nb8 (l.drop n) := (List.map_drop).symm
theorem uQ {P : Program} {st : St} {t : TypeId} {l : Tx} {lo hi : Option Value} {a b c : Nat} (hu : P.underlying t = some .string) (hb : cZ l.length l.length lo hi none = some (a, b, c)) :
    aslice P st t (.string (tx l)) lo hi none = some (.string (tx ((l.take b).drop a))) := by
  rw [iP, Av hu (by rw [aL]; exact hb), EC, yH, ← iP]
theorem bZ {P : Program} {st : St} {t : TypeId} {l : Tx} {a : Nat} (hu : P.underlying t = some .string) (ha : a ≤ l.length) :
    aslice P st t (.string (tx l)) (some (.int .i64 (a : Int))) none none = some (.string (tx (l.drop a))) := by
  rw [uQ hu (rM ha (Nat.le_refl _)), List.take_length]
theorem gq {P : Program} {st : St} {t : TypeId} {l : Tx} {b : Nat} (hu : P.underlying t = some .string) (hb : b ≤ l.length) :
    aslice P st t (.string (tx l)) none (some (.int .i64 (b : Int))) none = some (.string (tx (l.take b))) := by
  rw [uQ hu (mE hb), List.drop_zero]
theorem jO {P : Program} {st : St} {s t e : TypeId} {l : Tx} (hs : P.underlying s = some .string) (ht : P.underlying t = some (.slice e)) (he : P.underlying e = some (.int .u8)) (hz : asz P e = some 1) :
    dH P st s t (.string (tx l)) = some (.slice (some ⟨st.n, 0, some 0⟩) l.length l.length, st.new (.cells (nl (nb8 l)) e true)) := by
  rw [iP, yG hs ht he hz (oW l), aL]
theorem mG {P : Program} {st : St} {v : Value} {l : Tx} {t e s : TypeId} (ht : P.underlying t = some (.slice e)) (he : P.underlying e = some (.int .u8)) (hs' : P.underlying s = some .string) (hs : asrc st 1 v = some (l.length, nl (nb8 l))) (hv : ∃ a n c, v = .slice a n c) : dH P st t s v = some (.string (tx l), st) := by
  rw [iP]
  exact Ay ht he hs' (by rw [aL]; exact hs) hv
theorem jP {a b : Tx} (h : a.length + b.length ≤ 9223372036854775807) : astr .add (tx a) (tx b) = some (.string (tx (a ++ b))) := by
  rw [iP, iP, Ew (by rw [aL, aL]; exact h), ← qM, ← iP]
theorem aA (a b : Tx) : astr .eql (tx a) (tx b) = some (.bool (decide (a = b))) := by
  simp only [astr, EB]
theorem bK (a b : Tx) : astr .neq (tx a) (tx b) = some (.bool (!decide (a = b))) := by
  simp only [astr, EB]
end Go.Abs
