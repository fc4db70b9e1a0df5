/- Numbers of 32 bits: how the model reckons with them. No conditions. -/
import Derived.Test.YtjkmcnhofpnoeaaDoorE12
set_option linter.unusedVariables false
set_option linter.unusedSimpArgs false
namespace Go.Proofs.YtjkmcnhofpnoeaaDoor
open Go Go.Abs Go.RowKit
variable {base : Nat} {w0 : World} {G : Nat}

theorem w_ad (a b : Nat) : IntKind.u32.wrap ((a : Int) + b) = ((ad a b : Nat) : Int) := by
  unfold ad
  simp [IntKind.wrap, IntKind.bits, IntKind.signed]
theorem ad_lt (a b : Nat) : ad a b < 4294967296 := Nat.mod_lt _ (by decide)
theorem lowN_eq (x : Nat) : ∀ n, lowN x n = x / 2 ^ n
  | 0 => by simp [lowN]
  | n + 1 => by rw [lowN, lowN_eq x n, Nat.div_div_eq_div_mul, Nat.pow_succ]
theorem lowN_lt {x : Nat} (h : x < 4294967296) (n : Nat) : lowN x n < 4294967296 := Nat.lt_of_le_of_lt (lowN_le x n) h
theorem xor_lt {a b : Nat} (ha : a < 4294967296) (hb : b < 4294967296) : a ^^^ b < 4294967296 := Nat.xor_lt_two_pow (n := 32) ha hb
theorem and_lt {a : Nat} (ha : a < 4294967296) (b : Nat) : a &&& b < 4294967296 := Nat.lt_of_le_of_lt Nat.and_le_left ha
theorem or_lt {a b : Nat} (ha : a < 4294967296) (hb : b < 4294967296) : a ||| b < 4294967296 := Nat.or_lt_two_pow (n := 32) ha hb
theorem rotN_lt' {x : Nat} (h : x < 4294967296) (n : Nat) : rotN x n < 4294967296 := rotN_lt h n
theorem sgA_lt {x : Nat} (h : x < 4294967296) (a b c : Nat) : sgA x a b c < 4294967296 := xor_lt (xor_lt (rotN_lt h _) (rotN_lt h _)) (rotN_lt h _)
theorem sgB_lt {x : Nat} (h : x < 4294967296) (a b c : Nat) : sgB x a b c < 4294967296 := xor_lt (xor_lt (rotN_lt h _) (rotN_lt h _)) (lowN_lt h _)
theorem mj_or (a b c : Nat) : ((a &&& b) ||| (a &&& c)) ||| (b &&& c) = mjN a b c := by
  unfold mjN
  apply Nat.eq_of_testBit_eq
  intro i
  simp only [Nat.testBit_or, Nat.testBit_xor, Nat.testBit_and]
  cases a.testBit i <;> cases b.testBit i <;> cases c.testBit i <;> rfl
theorem not32 {x : Nat} (h : x < 4294967296) : (-1 : Int) - (x : Int) = -1 - x := rfl
theorem getD32 {l : List Nat} (h : ∀ d ∈ l, d < 4294967296) (j : Nat) : l.getD j 0 < 4294967296 := by
  by_cases hj : j < l.length
  · rw [List.getD_eq_getElem?_getD, List.getElem?_eq_getElem hj]; exact h _ (List.getElem_mem hj)
  · rw [List.getD_eq_getElem?_getD, List.getElem?_eq_none (by omega)]; decide
theorem getD8 {l : List Nat} (h : ∀ d ∈ l, d < 256) (j : Nat) : l.getD j 0 < 256 := by
  by_cases hj : j < l.length
  · rw [List.getD_eq_getElem?_getD, List.getElem?_eq_getElem hj]; exact h _ (List.getElem_mem hj)
  · rw [List.getD_eq_getElem?_getD, List.getElem?_eq_none (by omega)]; decide
theorem word_lt {m : List Nat} (h : ∀ d ∈ m, d < 256) (o : Nat) : word m o < 4294967296 := by
  unfold word
  have := getD8 h o; have := getD8 h (o + 1); have := getD8 h (o + 2); have := getD8 h (o + 3)
  omega
theorem wnext_lt (w : List Nat) (i : Nat) : wnext w i < 4294967296 := by unfold wnext; exact ad_lt _ _
theorem wst_lt {x y : Nat} (hx : x < 4294967296) (hy : y < 4294967296) (b : Bool) : (bif b then x else y) < 4294967296 := by
  cases b with
  | true => rw [cond_true]; exact hx
  | false => rw [cond_false]; exact hy
theorem wsN_lt {m : List Nat} (h : ∀ d ∈ m, d < 256) (o : Nat) : ∀ i, ∀ d ∈ wsN m o i, d < 4294967296
  | 0, d, hd => by simp [wsN] at hd
  | i + 1, d, hd => by
    simp only [wsN, List.mem_append, List.mem_singleton] at hd
    rcases hd with hd | rfl
    · exact wsN_lt h o i d hd
    · exact wst_lt (word_lt h _) (wnext_lt _ _) _
theorem wsN_length (m : List Nat) (o : Nat) : ∀ i, (wsN m o i).length = i
  | 0 => rfl
  | i + 1 => by simp [wsN, wsN_length m o i]
theorem rndI_length {h ks ws : List Nat} (hl : h.length = 8) : ∀ i, (rndI h ks ws i).length = 8
  | 0 => hl
  | i + 1 => rfl
theorem rnd_lt {v : List Nat} (h : ∀ d ∈ v, d < 4294967296) (k w : Nat) : ∀ d ∈ rnd v k w, d < 4294967296 := by
  intro d hd
  simp only [rnd, List.mem_cons, List.not_mem_nil, or_false] at hd
  rcases hd with rfl | rfl | rfl | rfl | rfl | rfl | rfl | rfl <;> first | exact ad_lt _ _ | exact getD32 h _
theorem rndI_lt {h ks ws : List Nat} (hl : ∀ d ∈ h, d < 4294967296) : ∀ i, ∀ d ∈ rndI h ks ws i, d < 4294967296
  | 0 => hl
  | i + 1 => rnd_lt (rndI_lt hl i) _ _
theorem haddI_length (h v : List Nat) : ∀ i, (haddI h v i).length = h.length
  | 0 => rfl
  | i + 1 => by simp [haddI, haddI_length h v i]
theorem haddI_lt {h v : List Nat} (hl : ∀ d ∈ h, d < 4294967296) : ∀ i, ∀ d ∈ haddI h v i, d < 4294967296
  | 0 => hl
  | i + 1 => fun d hd => by
    rcases List.mem_or_eq_of_mem_set hd with hd | rfl
    · exact haddI_lt hl i d hd
    · exact ad_lt _ _
theorem blk_length {h : List Nat} (hl : h.length = 8) (m : List Nat) (o : Nat) : (blk h m o).length = 8 := by rw [blk, haddI_length, hl]
theorem blk_lt {h : List Nat} (hl : ∀ d ∈ h, d < 4294967296) (m : List Nat) (o : Nat) : ∀ d ∈ blk h m o, d < 4294967296 := haddI_lt hl 8
theorem hsN_length (m : List Nat) : ∀ j, (hsN m j).length = 8
  | 0 => rfl
  | j + 1 => blk_length (hsN_length m j) m _
theorem hs0_lt : ∀ d ∈ hs0, d < 4294967296 := by decide
theorem hsN_lt (m : List Nat) : ∀ j, ∀ d ∈ hsN m j, d < 4294967296
  | 0 => hs0_lt
  | j + 1 => blk_lt (hsN_lt m j) m _
def nl (l : List Nat) : List Value := bl (l.map fun n : Nat => (n : Int))
theorem nl_length (l : List Nat) : (nl l).length = l.length := by simp [nl, bl_length]
theorem nl_get {l : List Nat} {i : Nat} (h : i < l.length) : (nl l)[i]? = some (.int .u8 (l.getD i 0 : Nat)) := by
  simp [nl, bl, List.getD_eq_getElem?_getD, h]
theorem nl_append (a b : List Nat) : nl (a ++ b) = nl a ++ nl b := by simp [nl, bl]
theorem or_shift {a b s : Nat} (hb : b < 2 ^ s) : (a * 2 ^ s) ||| b = a * 2 ^ s + b := by
  rw [← Nat.shiftLeft_eq, Nat.shiftLeft_add_eq_or_of_lt hb]
end Go.Proofs.YtjkmcnhofpnoeaaDoor
