/- Texts as rows of octets (no condition on what they hold). -/
import Derived.Test.YtohgmkjhbacmpaaGreatDoorAbsJ
import Derived.Test.YtohgmkjhbacmpaaGreatDoorAbsS
set_option linter.unusedVariables false
set_option linter.unusedSimpArgs false
namespace Go.Abs
open Go.RowKit
theorem EG {cx : Cx} {ρ : Env} {st : St} {k q : Value → St → Prop} (t : TypeId) (x : Operand) : abody cx (.range t x) ρ st k q = alet (l6 cx.P st t (ev cx.G ρ x)) (stop k .mk) := (rfl)
theorem BH {cx : Cx} {ρ : Env} {st : St} {k q : Value → St → Prop} (it : Operand) (z : Bool) : abody cx (.next it z) ρ st k q = alet (nN st (ev cx.G ρ it) z) (stop k .mk) := (rfl)
theorem tq {cx : Cx} {ρ : Env} {st : St} {k q : Value → St → Prop} (x : Operand) (s t : TypeId) (c : Bool) : abody cx (.typeAssert x s t c) ρ st k q = alet ((pV cx.P t c (ev cx.G ρ x)).map fun v => (v, st)) (stop k .mk) := (rfl)
abbrev Tx := List UInt8
def tx (l : Tx) : ByteArray := ⟨l.toArray⟩
def nb8 (l : Tx) : List Nat := l.map UInt8.toNat
theorem qK (l : Tx) : Bt (nb8 l) := fun d hd => by
  obtain ⟨b, _, rfl⟩ := List.mem_map.1 hd
  exact b.toNat_lt
theorem aO (l : Tx) : (nb8 l).length = l.length := List.length_map _
theorem BI (a b : Tx) : nb8 (a ++ b) = nb8 a ++ nb8 b := List.map_append
theorem iX (l : Tx) : tx l = str (nb8 l) := by
  apply ByteArray.ext
  show l.toArray = ((nb8 l).map UInt8.ofNat).toArray
  rw [show (nb8 l).map UInt8.ofNat = l from Js l]
theorem aK (l : Tx) : (tx l).size = l.length := by simp [tx, ByteArray.size]
theorem bX (l : Tx) : (tx l).data.toList = l := by simp [tx]
theorem uj (l : Tx) : (tx l).toList = l := by
  rw [ByteArray.toList_eq]
  simp [tx]
theorem EH (a b : Tx) : ((tx a).toList == (tx b).toList) = decide (a = b) := by
  rw [uj, uj]
  by_cases h : a = b
  · subst h; simp
  · rw [decide_eq_false h]; simpa using h
theorem ko {P : Program} {t : TypeId} {k : IntKind} {l : Tx} {i : Nat} (hu : P.underlying t = some .string) (h : i < l.length) : gZ P t (.string (tx l)) (.int k (i : Int)) = some (.int .u8 ((l.getD i 0).toNat : Nat)) := by
  rw [iX, Am hu (qK l) (by rw [aO]; exact h)]
  simp [nb8, List.getD_eq_getElem?_getD, h]
theorem EI (l : Tx) (n : Nat) : (nb8 l).take n = nb8 (l.take n) := (List.map_take).symm
theorem yA (l : Tx) (n : Nat) : (nb8 l).drop n = nb8 (l.drop n) := (List.map_drop).symm
theorem nT {P : Program} {st : St} {t : TypeId} {l : Tx} {lo hi : Option Value} {a b c : Nat} (hu : P.underlying t = some .string) (hb : bN l.length l.length lo hi none = some (a, b, c)) :
    aslice P st t (.string (tx l)) lo hi none = some (.string (tx ((l.take b).drop a))) := by
  rw [iX, Ao hu (by rw [aO]; exact hb), EI, yA, ← iX]
theorem bT {P : Program} {st : St} {t : TypeId} {l : Tx} {a : Nat} (hu : P.underlying t = some .string) (ha : a ≤ l.length) :
    aslice P st t (.string (tx l)) (some (.int .i64 (a : Int))) none none = some (.string (tx (l.drop a))) := by
  rw [nT hu (qI ha (Nat.le_refl _)), List.take_length]
theorem fA {P : Program} {st : St} {t : TypeId} {l : Tx} {b : Nat} (hu : P.underlying t = some .string) (hb : b ≤ l.length) :
    aslice P st t (.string (tx l)) none (some (.int .i64 (b : Int))) none = some (.string (tx (l.take b))) := by
  rw [nT hu (lg hb), List.drop_zero]
theorem iy {P : Program} {st : St} {s t e : TypeId} {l : Tx} (hs : P.underlying s = some .string) (ht : P.underlying t = some (.slice e)) (he : P.underlying e = some (.int .u8)) (hz : asz P e = some 1) :
    bS P st s t (.string (tx l)) = some (.slice (some ⟨st.n, 0, some 0⟩) l.length l.length, st.new (.cells (nl (nb8 l)) e true)) := by
  rw [iX, yx hs ht he hz (qK l), aO]
theorem lu {P : Program} {st : St} {v : Value} {l : Tx} {t e s : TypeId} (ht : P.underlying t = some (.slice e)) (he : P.underlying e = some (.int .u8)) (hs' : P.underlying s = some .string) (hs : asrc st 1 v = some (l.length, nl (nb8 l))) (hv : ∃ a n c, v = .slice a n c) : bS P st t s v = some (.string (tx l), st) := by
  rw [iX]
  exact Aq ht he hs' (by rw [aO]; exact hs) hv
theorem aD {a b : Tx} (h : a.length + b.length ≤ 9223372036854775807) : astr .add (tx a) (tx b) = some (.string (tx (a ++ b))) := by
  rw [iX, iX, ED (by rw [aO, aO]; exact h), ← BI, ← iX]
theorem aA (a b : Tx) : astr .eql (tx a) (tx b) = some (.bool (decide (a = b))) := by
  simp only [astr, EH]
theorem dY (a b : Tx) : astr .neq (tx a) (tx b) = some (.bool (!decide (a = b))) := by
  simp only [astr, EH]
end Go.Abs
