/- Texts as rows of bytes. -/
import Derived.Test.YtohgmkjhbacmpaaGreatDoorAbsP
set_option linter.unusedVariables false
set_option linter.unusedSimpArgs false
namespace Go.Abs
open Go.RowKit

/-- All of these are bytes. -/
def Bt (l : List Nat) : Prop := ∀ d ∈ l, d < 256
/-- The text of these bytes. -/
def str (l : List Nat) : ByteArray := ⟨(l.map UInt8.ofNat).toArray⟩
def byt (s : ByteArray) : List Nat := s.data.toList.map UInt8.toNat
theorem Bt.nil : Bt [] := fun d h => by simp at h
theorem Bt.app {a b : List Nat} (ha : Bt a) (hb : Bt b) : Bt (a ++ b) := fun d h => (List.mem_append.1 h).elim (ha d) (hb d)
theorem Bt.one {c : Nat} (h : c < 256) : Bt [c] := fun d hd => by rw [List.mem_singleton.1 hd]; exact h
theorem Bt.cons {c : Nat} {l : List Nat} (h : c < 256) (hl : Bt l) : Bt (c :: l) := fun d hd => by rcases List.mem_cons.1 hd with rfl | hd; exact h; exact hl d hd
theorem Bt.take {l : List Nat} (h : Bt l) (n : Nat) : Bt (l.take n) := fun d hd => h d (List.mem_of_mem_take hd)
theorem Bt.drop {l : List Nat} (h : Bt l) (n : Nat) : Bt (l.drop n) := fun d hd => h d (List.mem_of_mem_drop hd)
theorem Bt.left {a b : List Nat} (h : Bt (a ++ b)) : Bt a := fun d hd => h d (List.mem_append_left _ hd)
theorem Bt.right {a b : List Nat} (h : Bt (a ++ b)) : Bt b := fun d hd => h d (List.mem_append_right _ hd)
theorem Bt.get {l : List Nat} (h : Bt l) (i : Nat) : l.getD i 0 < 256 := getD8 h i
theorem byt_lt (s : ByteArray) : Bt (byt s) := fun d hd => by
  obtain ⟨b, _, rfl⟩ := List.mem_map.1 hd
  exact b.toNat_lt
theorem str_byt (s : ByteArray) : str (byt s) = s := by
  apply ByteArray.ext
  unfold str byt
  rw [List.map_map]
  have : (UInt8.ofNat ∘ UInt8.toNat) = id := by funext x; simp
  rw [this]
  simp
theorem byt_str {l : List Nat} (h : Bt l) : byt (str l) = l := by
  unfold str byt
  rw [List.map_map]
  conv => rhs; rw [← List.map_id l]
  apply List.map_congr_left
  intro x hx
  have := h x hx
  simp [UInt8.toNat_ofNat]
  omega
theorem str_inj {a b : List Nat} (ha : Bt a) (hb : Bt b) (h : str a = str b) : a = b := by rw [← byt_str ha, ← byt_str hb, h]
theorem str_size (l : List Nat) : (str l).size = l.length := by simp [str, ByteArray.size]
theorem byt_length (s : ByteArray) : (byt s).length = s.size := by
  unfold byt
  rw [List.length_map, Array.length_toList]
  rfl
theorem str_append (a b : List Nat) : str a ++ str b = str (a ++ b) := by
  apply ByteArray.ext
  simp [str]
theorem str_toList (l : List Nat) : (str l).toList = l.map UInt8.ofNat := by
  rw [ByteArray.toList_eq]
  simp [str]
theorem strOf_nat (l : List Nat) : strOf (l.map fun n : Nat => (n : Int)) = str l := by
  apply ByteArray.ext
  simp [strOf, str]
theorem str_beq {a b : List Nat} (ha : Bt a) (hb : Bt b) : ((str a).toList == (str b).toList) = decide (a = b) := by
  rw [← strOf_nat, ← strOf_nat]
  exact strOf_eq ha hb
theorem str_get {l : List Nat} (hl : Bt l) {i : Nat} (h : i < l.length) : (str l)[i]? = some (UInt8.ofNat (l.getD i 0)) := by
  have h2 : i < (str l).size := by rw [str_size]; exact h
  rw [getElem?_pos (str l) i h2]
  show some (((l.map UInt8.ofNat).toArray)[i]'(by simpa using h)) = _
  simp [List.getD_eq_getElem?_getD, h]
theorem aindex_str {P : Program} {t : TypeId} {k : IntKind} {l : List Nat} {i : Nat} (hu : P.underlying t = some .string) (hl : Bt l) (h : i < l.length) : aindex P t (.string (str l)) (.int k (i : Int)) = some (.int .u8 (l.getD i 0 : Nat)) := by
  have h2 := hl.get i
  simp only [aindex, hu, Int.natCast_nonneg, if_true, Int.toNat_natCast, str_get hl h, Option.map_some]
  rw [UInt8.toNat_ofNat', Nat.mod_eq_of_lt h2]
theorem str_extract (l : List Nat) (a b : Nat) : (str l).extract a b = str ((l.take b).drop a) := by
  apply ByteArray.ext
  rw [ByteArray.data_extract]
  apply Array.ext'
  simp only [str, Array.toList_extract, List.extract_eq_take_drop]
  rw [← List.map_drop, ← List.map_take, List.drop_take]
theorem aslice_str {P : Program} {st : St} {t : TypeId} {l : List Nat} {lo hi : Option Value} {a b c : Nat} (hu : P.underlying t = some .string) (hb : abounds l.length l.length lo hi none = some (a, b, c)) :
    aslice P st t (.string (str l)) lo hi none = some (.string (str ((l.take b).drop a))) := by
  simp only [aslice, hu, Option.isSome_none, Bool.false_eq_true, if_false, str_size, hb, Option.map_some, str_extract]
theorem aslice_strFrom {P : Program} {st : St} {t : TypeId} {l : List Nat} {a : Nat} {k : IntKind} (hu : P.underlying t = some .string) (ha : a ≤ l.length) :
    aslice P st t (.string (str l)) (some (.int .i64 (a : Int))) none none = some (.string (str (l.drop a))) := by
  rw [aslice_str hu (abounds_lo ha (Nat.le_refl _)), List.take_length]
theorem aslice_strTo {P : Program} {st : St} {t : TypeId} {l : List Nat} {b : Nat} (hu : P.underlying t = some .string) (hb : b ≤ l.length) :
    aslice P st t (.string (str l)) none (some (.int .i64 (b : Int))) none = some (.string (str (l.take b))) := by
  rw [aslice_str hu (abounds_hi hb), List.drop_zero]
theorem bytesV_str {l : List Nat} (h : Bt l) : bytesV (str l) = nl l := by
  unfold bytesV str nl bl
  simp only [List.map_map]
  apply List.map_congr_left
  intro x hx
  have := h x hx
  simp [UInt8.toNat_ofNat]
  omega
theorem aconv_bytes {P : Program} {st : St} {s t e : TypeId} {l : List Nat} (hs : P.underlying s = some .string) (ht : P.underlying t = some (.slice e)) (he : P.underlying e = some (.int .u8)) (hz : asz P e = some 1) (hl : Bt l) :
    aconv P st s t (.string (str l)) = some (.slice (some ⟨st.n, 0, some 0⟩) l.length l.length, st.new (.cells (nl l) e true)) := by
  simp [aconv, hs, ht, he, hz, str_size, bytesV_str hl]
theorem aconv_text {P : Program} {st : St} {v : Value} {l : List Nat} {t e s : TypeId} (ht : P.underlying t = some (.slice e)) (he : P.underlying e = some (.int .u8)) (hs' : P.underlying s = some .string) (hs : asrc st 1 v = some (l.length, nl l)) (hv : ∃ a n c, v = .slice a n c) : aconv P st t s v = some (.string (str l), st) := by
  rw [aconv_nl ht he hs' hs hv, strOf_nat]
theorem astr_add {a b : List Nat} (h : a.length + b.length ≤ 9223372036854775807) : astr .add (str a) (str b) = some (.string (str (a ++ b))) := by
  simp only [astr, str_size, h, if_true, str_append]
theorem astr_eql {a b : List Nat} (ha : Bt a) (hb : Bt b) : astr .eql (str a) (str b) = some (.bool (decide (a = b))) := by
  simp only [astr, str_beq ha hb]
theorem astr_neq {a b : List Nat} (ha : Bt a) (hb : Bt b) : astr .neq (str a) (str b) = some (.bool (!decide (a = b))) := by
  simp only [astr, str_beq ha hb]
end Go.Abs
