/- Texts as rows of bytes. -/
import Derived.Test.YtigjbehgfjjlkaaGreatDoorAbsP
set_option linter.unusedVariables false
set_option linter.unusedSimpArgs false
namespace Go.Abs
open Go.RowKit
def Bt (l : List Nat) : Prop := ∀ d ∈ l, d < 256
def str (l : List Nat) : ByteArray := ⟨(l.map UInt8.ofNat).toArray⟩
theorem Bt.nil : Bt [] := fun d h => by simp at h
theorem Bt.one {c : Nat} (h : c < 256) : Bt [c] := fun d hd => by rw [List.mem_singleton.1 hd]; exact h
theorem Bt.cons {c : Nat} {l : List Nat} (h : c < 256) (hl : Bt l) : Bt (c :: l) := fun d hd => by rcases List.mem_cons.1 hd with rfl | hd; exact h; exact hl d hd
theorem Bt.take {l : List Nat} (h : Bt l) (n : Nat) : Bt (l.take n) := fun d hd => h d (List.mem_of_mem_take hd)
theorem Bt.drop {l : List Nat} (h : Bt l) (n : Nat) : Bt (l.drop n) := fun d hd => h d (List.mem_of_mem_drop hd)
theorem Bt.left {a b : List Nat} (h : Bt (a ++ b)) : Bt a := fun d hd => h d (List.mem_append_left _ hd)
theorem Bt.right {a b : List Nat} (h : Bt (a ++ b)) : Bt b := fun d hd => h d (List.mem_append_right _ hd)
theorem Bt.get {l : List Nat} (h : Bt l) (i : Nat) : l.getD i 0 < 256 := LU h i
theorem kF (l : List Nat) : (str l).size = l.length := by simp [str, ByteArray.size]
theorem CQ (a b : List Nat) : str a ++ str b = str (a ++ b) := by
  apply ByteArray.ext
  simp [str]
theorem wM (l : List Nat) : strOf (l.map fun n : Nat => (n : Int)) = str l := by
  apply ByteArray.ext
  simp [strOf, str]
theorem JG {l : List Nat} (hl : Bt l) {i : Nat} (h : i < l.length) : (str l)[i]? = some (UInt8.ofNat (l.getD i 0)) := by
  have h2 : i < (str l).size := by rw [kF]; exact h
  rw [getElem?_pos (str l) i h2]
  show some (((l.map UInt8.ofNat).toArray)[i]'(by simpa using h)) = _
  simp [List.getD_eq_getElem?_getD, h]
theorem CR {P : Program} {t : TypeId} {k : IntKind} {l : List Nat} {i : Nat} (hu : P.underlying t = some .string) (hl : Bt l) (h : i < l.length) : jr P t (.string (str l)) (.int k (i : Int)) = some (.int .u8 (l.getD i 0 : Nat)) := by
  have h2 := hl.get i
  simp only [jr, hu, Int.natCast_nonneg, if_true, Int.toNat_natCast, JG hl h, Option.map_some]
  rw [UInt8.toNat_ofNat', Nat.mod_eq_of_lt h2]
theorem Aq (l : List Nat) (a b : Nat) : (str l).extract a b = str ((l.take b).drop a) := by
  apply ByteArray.ext
  rw [ByteArray.data_extract]
  apply Array.ext'
  simp only [str, Array.toList_extract, List.extract_eq_take_drop]
  rw [← List.map_drop, ← List.map_take, List.drop_take]
theorem CS {P : Program} {st : St} {t : TypeId} {l : List Nat} {lo hi : Option Value} {a b c : Nat} (hu : P.underlying t = some .string) (hb : cB l.length l.length lo hi none = some (a, b, c)) :
    aslice P st t (.string (str l)) lo hi none = some (.string (str ((l.take b).drop a))) := by
  simp only [aslice, hu, Option.isSome_none, Bool.false_eq_true, if_false, kF, hb, Option.map_some, Aq]
theorem CU {l : List Nat} (h : Bt l) : kT (str l) = nl l := by
  unfold kT str nl bl
  simp only [List.map_map]
  apply List.map_congr_left
  intro x hx
  have := h x hx
  simp [UInt8.toNat_ofNat]
  omega
theorem Ar {P : Program} {st : St} {s t e : TypeId} {l : List Nat} (hs : P.underlying s = some .string) (ht : P.underlying t = some (.slice e)) (he : P.underlying e = some (.int .u8)) (hz : asz P e = some 1) (hl : Bt l) :
    dL P st s t (.string (str l)) = some (.slice (some ⟨st.n, 0, some 0⟩) l.length l.length, st.new (.cells (nl l) e true)) := by
  simp [dL, hs, ht, he, hz, kF, CU hl]
theorem CV {P : Program} {st : St} {v : Value} {l : List Nat} {t e s : TypeId} (ht : P.underlying t = some (.slice e)) (he : P.underlying e = some (.int .u8)) (hs' : P.underlying s = some .string) (hs : asrc st 1 v = some (l.length, nl l)) (hv : ∃ a n c, v = .slice a n c) : dL P st t s v = some (.string (str l), st) := by
  rw [Hr ht he hs' hs hv, wM]
theorem Ht {a b : List Nat} (h : a.length + b.length ≤ 9223372036854775807) : astr .add (str a) (str b) = some (.string (str (a ++ b))) := by
  simp only [astr, kF, h, if_true, CQ]
end Go.Abs
