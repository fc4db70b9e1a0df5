/- Texts as rows of octets (no condition on what they hold). -/
import Derived.Test.YtohgmkjhbacmpaaGreatDoorAbsJ
import Derived.Test.YtohgmkjhbacmpaaGreatDoorAbsS
set_option linter.unusedVariables false
set_option linter.unusedSimpArgs false
namespace Go.Abs
open Go.RowKit

theorem ab_range {cx : Cx} {ρ : Env} {st : St} {k q : Value → St → Prop} (t : TypeId) (x : Operand) : abody cx (.range t x) ρ st k q = alet (arangeS cx.P st t (ev cx.G ρ x)) (stop k .mk) := (rfl)
theorem ab_next {cx : Cx} {ρ : Env} {st : St} {k q : Value → St → Prop} (it : Operand) (z : Bool) : abody cx (.next it z) ρ st k q = alet (anextS st (ev cx.G ρ it) z) (stop k .mk) := (rfl)
theorem ab_typeAssert {cx : Cx} {ρ : Env} {st : St} {k q : Value → St → Prop} (x : Operand) (s t : TypeId) (c : Bool) : abody cx (.typeAssert x s t c) ρ st k q = alet ((aassert cx.P t c (ev cx.G ρ x)).map fun v => (v, st)) (stop k .mk) := (rfl)
abbrev Tx := List UInt8
def tx (l : Tx) : ByteArray := ⟨l.toArray⟩
/-- The octets as numbers. -/
def nb8 (l : Tx) : List Nat := l.map UInt8.toNat
theorem nb8_bt (l : Tx) : Bt (nb8 l) := fun d hd => by
  obtain ⟨b, _, rfl⟩ := List.mem_map.1 hd
  exact b.toNat_lt
theorem nb8_length (l : Tx) : (nb8 l).length = l.length := List.length_map _
theorem b8_nb8 (l : Tx) : b8 (nb8 l) = l := b8_of l
theorem nb8_b8 {l : List Nat} (h : Bt l) : nb8 (b8 l) = l := b8_inv h
theorem nb8_app (a b : Tx) : nb8 (a ++ b) = nb8 a ++ nb8 b := List.map_append
theorem nb8_inj {a b : Tx} (h : nb8 a = nb8 b) : a = b := by rw [← b8_nb8 a, ← b8_nb8 b, h]
theorem tx_str (l : Tx) : tx l = str (nb8 l) := by
  apply ByteArray.ext
  show l.toArray = ((nb8 l).map UInt8.ofNat).toArray
  rw [show (nb8 l).map UInt8.ofNat = l from b8_of l]
theorem tx_inj {a b : Tx} (h : tx a = tx b) : a = b := by
  have := congrArg (fun s : ByteArray => s.data.toList) h
  simpa [tx] using this
theorem tx_size (l : Tx) : (tx l).size = l.length := by simp [tx, ByteArray.size]
theorem tx_data (l : Tx) : (tx l).data.toList = l := by simp [tx]
theorem tx_of (s : ByteArray) : tx s.data.toList = s := by
  apply ByteArray.ext
  simp [tx]
theorem tx_toList (l : Tx) : (tx l).toList = l := by
  rw [ByteArray.toList_eq]
  simp [tx]
theorem tx_beq (a b : Tx) : ((tx a).toList == (tx b).toList) = decide (a = b) := by
  rw [tx_toList, tx_toList]
  by_cases h : a = b
  · subst h; simp
  · rw [decide_eq_false h]; simpa using h
theorem aindex_tx {P : Program} {t : TypeId} {k : IntKind} {l : Tx} {i : Nat} (hu : P.underlying t = some .string) (h : i < l.length) : aindex P t (.string (tx l)) (.int k (i : Int)) = some (.int .u8 ((l.getD i 0).toNat : Nat)) := by
  rw [tx_str, aindex_str hu (nb8_bt l) (by rw [nb8_length]; exact h)]
  simp [nb8, List.getD_eq_getElem?_getD, h]
theorem nb8_take (l : Tx) (n : Nat) : (nb8 l).take n = nb8 (l.take n) := (List.map_take).symm
theorem nb8_drop (l : Tx) (n : Nat) : (nb8 l).drop n = nb8 (l.drop n) := (List.map_drop).symm
theorem aslice_tx {P : Program} {st : St} {t : TypeId} {l : Tx} {lo hi : Option Value} {a b c : Nat} (hu : P.underlying t = some .string) (hb : abounds l.length l.length lo hi none = some (a, b, c)) :
    aslice P st t (.string (tx l)) lo hi none = some (.string (tx ((l.take b).drop a))) := by
  rw [tx_str, aslice_str hu (by rw [nb8_length]; exact hb), nb8_take, nb8_drop, ← tx_str]
theorem aslice_txFrom {P : Program} {st : St} {t : TypeId} {l : Tx} {a : Nat} (hu : P.underlying t = some .string) (ha : a ≤ l.length) :
    aslice P st t (.string (tx l)) (some (.int .i64 (a : Int))) none none = some (.string (tx (l.drop a))) := by
  rw [aslice_tx hu (abounds_lo ha (Nat.le_refl _)), List.take_length]
theorem aslice_txTo {P : Program} {st : St} {t : TypeId} {l : Tx} {b : Nat} (hu : P.underlying t = some .string) (hb : b ≤ l.length) :
    aslice P st t (.string (tx l)) none (some (.int .i64 (b : Int))) none = some (.string (tx (l.take b))) := by
  rw [aslice_tx hu (abounds_hi hb), List.drop_zero]
theorem aconv_tx {P : Program} {st : St} {s t e : TypeId} {l : Tx} (hs : P.underlying s = some .string) (ht : P.underlying t = some (.slice e)) (he : P.underlying e = some (.int .u8)) (hz : asz P e = some 1) :
    aconv P st s t (.string (tx l)) = some (.slice (some ⟨st.n, 0, some 0⟩) l.length l.length, st.new (.cells (nl (nb8 l)) e true)) := by
  rw [tx_str, aconv_bytes hs ht he hz (nb8_bt l), nb8_length]
theorem aconv_toTx {P : Program} {st : St} {v : Value} {l : Tx} {t e s : TypeId} (ht : P.underlying t = some (.slice e)) (he : P.underlying e = some (.int .u8)) (hs' : P.underlying s = some .string) (hs : asrc st 1 v = some (l.length, nl (nb8 l))) (hv : ∃ a n c, v = .slice a n c) : aconv P st t s v = some (.string (tx l), st) := by
  rw [tx_str]
  exact aconv_text ht he hs' (by rw [nb8_length]; exact hs) hv
theorem astr_addT {a b : Tx} (h : a.length + b.length ≤ 9223372036854775807) : astr .add (tx a) (tx b) = some (.string (tx (a ++ b))) := by
  rw [tx_str, tx_str, astr_add (by rw [nb8_length, nb8_length]; exact h), ← nb8_app, ← tx_str]
theorem astr_eqlT (a b : Tx) : astr .eql (tx a) (tx b) = some (.bool (decide (a = b))) := by
  simp only [astr, tx_beq]
theorem astr_neqT (a b : Tx) : astr .neq (tx a) (tx b) = some (.bool (!decide (a = b))) := by
  simp only [astr, tx_beq]
end Go.Abs
