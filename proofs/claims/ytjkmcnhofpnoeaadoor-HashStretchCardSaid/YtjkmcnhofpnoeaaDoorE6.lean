/- Numbers in parts of 16 bits: what their product's parts come to, how they compare. No conditions. -/
import Derived.Test.YtjkmcnhofpnoeaaDoorE5
set_option linter.unusedVariables false
set_option linter.unusedSimpArgs false
namespace Go.Proofs.YtjkmcnhofpnoeaaDoor
open Go Go.Abs Go.RowKit

def val : List Nat → Nat
  | [] => 0
  | d :: r => d + 65536 * val r
theorem val_set : ∀ (l : List Nat) (j x : Nat), j < l.length → val (l.set j x) + l.getD j 0 * 65536 ^ j = val l + x * 65536 ^ j
  | [], j, x, h => by simp at h
  | d :: r, 0, x, h => by simp [val]; omega
  | d :: r, j + 1, x, h => by
    have ih := val_set r j x (by simpa using h)
    simp only [List.set_cons_succ, val, List.getD_cons_succ, Nat.pow_succ, ← Nat.mul_assoc]
    omega
theorem val_take : ∀ (l : List Nat) (k : Nat), k < l.length → val (l.take (k + 1)) = val (l.take k) + l.getD k 0 * 65536 ^ k
  | [], k, h => by simp at h
  | d :: r, 0, h => by simp [val]
  | d :: r, k + 1, h => by
    have ih := val_take r k (by simpa using h)
    simp only [List.take_succ_cons, val, List.getD_cons_succ, Nat.pow_succ, ← Nat.mul_assoc]
    omega
theorem val_append : ∀ (a b : List Nat), val (a ++ b) = val a + 65536 ^ a.length * val b
  | [], b => by simp [val]
  | d :: r, b => by
    simp only [List.cons_append, val, List.length_cons, val_append r b, Nat.pow_succ, Nat.mul_add]
    rw [Nat.mul_comm (65536 ^ r.length) 65536, Nat.mul_assoc]; omega
theorem val_zeros : ∀ n, val (List.replicate n 0) = 0
  | 0 => rfl
  | n + 1 => by simp [List.replicate_succ, val, val_zeros n]
theorem partsN_length (x : Nat) : ∀ n, (partsN x n).length = n
  | 0 => rfl
  | n + 1 => by simp [partsN, partsN_length x n]
theorem partsN_lt (x : Nat) : ∀ n, ∀ d ∈ partsN x n, d < 65536
  | 0, d, h => by simp [partsN] at h
  | n + 1, d, h => by
    simp only [partsN, List.mem_append, List.mem_singleton] at h
    rcases h with h | rfl
    · exact partsN_lt x n d h
    · exact Nat.mod_lt _ (by decide)
theorem val_parts (x : Nat) : ∀ n, val (partsN x n) = x % 65536 ^ n
  | 0 => by simp [partsN, val, Nat.mod_one]
  | n + 1 => by
    rw [partsN, val_append, val_parts x n, partsN_length, Nat.pow_succ, Nat.mod_mul]
    simp [val]
theorem val_lt_of : ∀ (a b : List Nat) (i : Nat), a.length = b.length → (∀ d ∈ a, d < 65536) → i < a.length → (∀ j, i < j → a.getD j 0 = b.getD j 0) → a.getD i 0 < b.getD i 0 → val a < val b
  | [], b, i, hl, ha, hi, h, hlt => by simp at hi
  | x :: a, [], i, hl, ha, hi, h, hlt => by simp at hl
  | x :: a, y :: b, 0, hl, ha, hi, h, hlt => by
    have e : a = b := by
      apply List.ext_getElem (by simpa using hl)
      intro j h1 h2
      have := h (j + 1) (by omega)
      simpa [h1, h2] using this
    subst e
    simp [val] at hlt ⊢; exact hlt
  | x :: a, y :: b, i + 1, hl, ha, hi, h, hlt => by
    have ih := val_lt_of a b i (by simpa using hl) (fun d hd => ha d (by simp [hd])) (by simpa using hi) (fun j hj => by simpa using h (j + 1) (by omega)) (by simpa using hlt)
    have := ha x (by simp)
    simp only [val]; omega
theorem getD_set (o : List Nat) (i j x : Nat) : (o.set i x).getD j 0 = if i = j ∧ i < o.length then x else o.getD j 0 := by
  by_cases h : i = j
  · subst h
    by_cases hl : i < o.length
    · simp [hl]
    · simp [hl]
  · rw [List.getD_eq_getElem?_getD, List.getElem?_set_ne h, ← List.getD_eq_getElem?_getD, if_neg (by simp [h])]
theorem getD_lt {l : List Nat} (h : ∀ d ∈ l, d < 65536) (j : Nat) : l.getD j 0 < 65536 := by
  by_cases hj : j < l.length
  · rw [List.getD_eq_getElem?_getD, List.getElem?_eq_getElem hj]; exact h _ (List.getElem_mem hj)
  · rw [List.getD_eq_getElem?_getD, List.getElem?_eq_none (by omega)]; decide

structure TIn (a b : List Nat) (i k c : Nat) (o : List Nat) (V0 : Nat) : Prop where
  hc : c < 65536
  l : o.length = a.length + b.length
  d : ∀ x ∈ o, x < 65536
  z : ∀ j, i + b.length ≤ j → o.getD j 0 = 0
  v : val o + c * 65536 ^ (i + k) = V0 + a.getD i 0 * 65536 ^ i * val (b.take k)
structure TOut (a b : List Nat) (i : Nat) (o : List Nat) : Prop where
  l : o.length = a.length + b.length
  d : ∀ x ∈ o, x < 65536
  z : ∀ j, i + b.length ≤ j → o.getD j 0 = 0
  v : val o = val (a.take i) * val b
theorem mul_lt16 {x y : Nat} (hx : x < 65536) (hy : y < 65536) : x * y ≤ 65535 * 65535 := Nat.mul_le_mul (by omega) (by omega)
theorem TIn.bound {a b : List Nat} {i k c : Nat} {o : List Nat} {V0 : Nat} (h : TIn a b i k c o V0) (ha : ∀ x ∈ a, x < 65536) (hb : ∀ x ∈ b, x < 65536) : c + o.getD (i + k) 0 + a.getD i 0 * b.getD k 0 < 4294967296 := by
  have := h.hc
  have := getD_lt h.d (i + k)
  have := mul_lt16 (getD_lt ha i) (getD_lt hb k)
  omega
theorem TIn.step {a b : List Nat} {i k c : Nat} {o : List Nat} {V0 : Nat} (h : TIn a b i k c o V0) (ha : ∀ x ∈ a, x < 65536) (hb : ∀ x ∈ b, x < 65536) (hi : i < a.length) (hk : k < b.length) :
    TIn a b i (k + 1) ((c + o.getD (i + k) 0 + a.getD i 0 * b.getD k 0) / 65536) (o.set (i + k) ((c + o.getD (i + k) 0 + a.getD i 0 * b.getD k 0) % 65536)) V0 := by
  have hB := h.bound ha hb
  have hv := val_set o (i + k) ((c + o.getD (i + k) 0 + a.getD i 0 * b.getD k 0) % 65536) (by rw [h.l]; omega)
  refine ⟨by omega, by simp [h.l], fun x hx => ?_, fun j hj => ?_, ?_⟩
  · rcases List.mem_or_eq_of_mem_set hx with hx | rfl
    · exact h.d x hx
    · exact Nat.mod_lt _ (by decide)
  · rw [getD_set, if_neg (by omega)]; exact h.z j hj
  · have h5 := h.v
    rw [val_take b k hk, Nat.mul_add]
    generalize hs : c + o.getD (i + k) 0 + a.getD i 0 * b.getD k 0 = s at *
    have e1 : 65536 ^ (i + (k + 1)) = 65536 * 65536 ^ (i + k) := by rw [← Nat.add_assoc, Nat.pow_succ, Nat.mul_comm]
    have e2 : a.getD i 0 * 65536 ^ i * (b.getD k 0 * 65536 ^ k) = a.getD i 0 * b.getD k 0 * 65536 ^ (i + k) := by
      rw [Nat.pow_add]; simp only [Nat.mul_assoc, Nat.mul_left_comm, Nat.mul_comm]
    rw [e1, e2]
    generalize 65536 ^ (i + k) = X at *
    have e3 : s / 65536 * (65536 * X) + s % 65536 * X = s * X := by
      rw [← Nat.mul_assoc, ← Nat.add_mul, Nat.mul_comm (s / 65536), Nat.div_add_mod]
    have e4 : s * X = c * X + o.getD (i + k) 0 * X + a.getD i 0 * b.getD k 0 * X := by rw [← hs, Nat.add_mul, Nat.add_mul]
    generalize a.getD i 0 * b.getD k 0 * X = y at *
    generalize s / 65536 * (65536 * X) = y1 at *
    generalize s % 65536 * X = y2 at *
    generalize a.getD i 0 * 65536 ^ i * val (b.take k) = y3 at *
    generalize o.getD (i + k) 0 * X = y4 at *
    generalize c * X = y5 at *
    omega
theorem TOut.init (a b : List Nat) : TOut a b 0 (List.replicate (a.length + b.length) 0) :=
  ⟨by simp, fun x hx => by have := List.eq_of_mem_replicate hx; omega, fun j hj => by
    rw [List.getD_eq_getElem?_getD, List.getElem?_replicate]; split <;> rfl, by simp [val_zeros, val]⟩
theorem TOut.start {a b : List Nat} {i : Nat} {o : List Nat} (h : TOut a b i o) : TIn a b i 0 0 o (val o) :=
  ⟨by decide, h.l, h.d, h.z, by simp [val]⟩
theorem TIn.done {a b : List Nat} {i c : Nat} {o o0 : List Nat} (h : TIn a b i b.length c o (val o0)) (h0 : TOut a b i o0) (hi : i < a.length) :
    o.getD (i + b.length) 0 = 0 ∧ TOut a b (i + 1) (o.set (i + b.length) c) := by
  have hz := h.z (i + b.length) (Nat.le_refl _)
  refine ⟨hz, by simp [h.l], fun x hx => ?_, fun j hj => ?_, ?_⟩
  · rcases List.mem_or_eq_of_mem_set hx with hx | rfl
    · exact h.d x hx
    · exact h.hc
  · rw [getD_set, if_neg (by omega)]; exact h.z j (by omega)
  · have hv := val_set o (i + b.length) c (by rw [h.l]; omega)
    have h5 := h.v
    rw [hz, Nat.zero_mul, Nat.add_zero] at hv
    rw [hv, h5, h0.v, val_take a i hi, Nat.add_mul, List.take_length]
end Go.Proofs.YtjkmcnhofpnoeaaDoor
