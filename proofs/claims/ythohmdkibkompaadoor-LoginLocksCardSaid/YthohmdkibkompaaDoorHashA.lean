/- The sum's steps, plain; a word turned. No conditions. -/
import Derived.Test.YthohmdkibkompaaDoorAbsT
import Derived.Test.YthohmdkibkompaaDoorAbsP
import Derived.Test.YthohmdkibkompaaDoorAbsM
set_option linter.unusedVariables false
set_option linter.unusedSimpArgs false
namespace Go.Proofs.YthohmdkibkompaaDoor
open Go Go.Abs Go.RowKit
variable {base : Nat} {w0 : World} {G : Nat}

def lowN (x : Nat) : Nat → Nat
  | 0 => x
  | n + 1 => lowN x n / 2
def rotN (x : Nat) : Nat → Nat
  | 0 => x
  | n + 1 => rotN x n / 2 + rotN x n % 2 * 2147483648
theorem lowN_le (x : Nat) : ∀ n, lowN x n ≤ x
  | 0 => Nat.le_refl _
  | n + 1 => by have := lowN_le x n; unfold lowN; omega
theorem rotN_lt {x : Nat} (h : x < 4294967296) : ∀ n, rotN x n < 4294967296
  | 0 => h
  | n + 1 => by have := rotN_lt h n; unfold rotN; omega

theorem rotN_eq {x : Nat} (h : x < 4294967296) : ∀ n, n ≤ 32 → rotN x n = x / 2 ^ n + x % 2 ^ n * 2 ^ (32 - n)
  | 0, _ => by simp [rotN, Nat.mod_one]
  | n + 1, hn => by
    have ih := rotN_eq h n (by omega)
    have e1 : 2 ^ (32 - n) = 2 * 2 ^ (32 - (n + 1)) := by rw [show 32 - n = 32 - (n + 1) + 1 by omega, Nat.pow_succ]; omega
    have e2 : (2147483648 : Nat) = 2 ^ n * 2 ^ (32 - (n + 1)) := by rw [← Nat.pow_add, show n + (32 - (n + 1)) = 31 by omega]
    have hp : 0 < 2 ^ n := Nat.two_pow_pos n
    unfold rotN
    rw [ih, e1, e2, Nat.pow_succ, ← Nat.div_div_eq_div_mul]
    generalize 2 ^ (32 - (n + 1)) = c
    have hm : x % (2 ^ n * 2) = x % 2 ^ n + 2 ^ n * (x / 2 ^ n % 2) := Nat.mod_mul
    rw [hm]
    generalize x / 2 ^ n = u
    generalize x % 2 ^ n = v
    generalize 2 ^ n = p
    rw [show v * (2 * c) = 2 * (v * c) by rw [Nat.mul_left_comm], show u + 2 * (v * c) = u + (v * c) * 2 by omega, Nat.add_mul_div_right _ _ (by decide), Nat.add_mul_mod_self_right, Nat.add_mul]
    have : u % 2 * (p * c) = p * (u % 2) * c := by rw [← Nat.mul_assoc, Nat.mul_comm (u % 2) p]
    omega

/-- To the right, as shifts have it. -/
theorem rot_or {x r : Nat} (h : x < 4294967296) (hr : r ≤ 32) : ((x * 2 ^ (32 - r)) % 4294967296) ||| (x / 2 ^ r) = rotN x r := by
  rw [rotN_eq h r hr]
  have hp : 2 ^ r * 2 ^ (32 - r) = 4294967296 := by rw [← Nat.pow_add, show r + (32 - r) = 32 by omega]
  have h1 : (x * 2 ^ (32 - r)) % 4294967296 = x % 2 ^ r * 2 ^ (32 - r) := by
    rw [← hp, Nat.mul_mod_mul_right]
  have h2 : x / 2 ^ r < 2 ^ (32 - r) := by
    rw [Nat.div_lt_iff_lt_mul (Nat.two_pow_pos r), Nat.mul_comm, hp]; exact h
  rw [h1, ← Nat.shiftLeft_eq, ← Nat.shiftLeft_add_eq_or_of_lt h2, Nat.add_comm]

set_option maxRecDepth 10000 in
theorem RotateLeft32_spec (st : St) (x r : Nat) (hx : x < 4294967296) (hr : r ≤ 32) (hs : bits .and .u64 (IntKind.u64.wrap (-(r : Int))) 31 = ((32 - r : Nat) : Int)) (k q : Value → St → Prop) (hk : k (.int .u32 (rotN x r : Nat)) st) :
    ACall (C base w0 G) 67 [.int .u32 x, .int .i64 (-(r : Int))] st k q := by
  refine ACall.of (cx := C base w0 G) mixed Tryd.func67 rfl (by kernel_rfl) (by simp [Tryd.ntmps67]) ?_
  simp only [Tryd.results67]
  simp (config := { implicitDefEqProofs := false }) only [↓GP, ↓GM, GQ, abuiltinX, ↓awp_seq, ↓awp_block, C_ex, Nat.reduceBEq, acap, afieldAddr, aload, astore, abin, anum, astr, aun, isAggD, cond_true, cond_false, ↓reduceIte, C_P, C_G, isTuple, Value.cells, setL, ares, aresL, ares1, reduceCtorEq, Nat.reduceEqDiff, eq_self, Nat.reduceAdd, if_true, if_false, Go.Abs.one, Nat.reduceLeDiff, undef, gsl, aextract, aindexAddr, amake, implies_true, forall_const, alen, abuiltin, anil, isC, Int.reduceEq, Int.reduceLT, Int.reduceLE, Int.reduceAdd, Int.reduceToNat, Int.reduceNeg, Nat.reduceMul, Nat.reduceSub, abuild, afill, Int.reduceBNe, Int.reduceBEq, Tryd.underlying3, Tryd.underlying86, Tryd.underlying101, aconv, hs, ashift]
  have hw : IntKind.u64.wrap (32 - ((32 - r : Nat) : Int)) = (r : Int) := by
    rw [show (32 : Int) - ((32 - r : Nat) : Int) = r by omega]
    simp [IntKind.wrap, IntKind.bits, IntKind.signed]; omega
  have hb : (IntKind.u32.bits : Int) = 32 := rfl
  have hw2 : IntKind.u32.wrap ((x : Int) * 2 ^ (32 - r)) = (((x * 2 ^ (32 - r)) % 4294967296 : Nat) : Int) := by
    rw [show ((x : Int) * 2 ^ (32 - r)) = ((x * 2 ^ (32 - r) : Nat) : Int) by rw [Int.natCast_mul, Int.natCast_pow]; rfl]
    simp [IntKind.wrap, IntKind.bits, IntKind.signed]
  have hd : ((x : Int) / 2 ^ r) = ((x / 2 ^ r : Nat) : Int) := by rw [Int.natCast_ediv, Int.natCast_pow]; rfl
  rw [hw, hb, hw2, Int.toNat_natCast, hd, bits_or32 (Nat.mod_lt _ (by decide)) (Nat.lt_of_le_of_lt (Nat.div_le_self _ _) hx), rot_or hx hr]
  exact ⟨by omega, by omega, hk⟩
def wl (l : List Nat) : List Value := l.map fun n => .int .u32 (n : Nat)
theorem wl_length (l : List Nat) : (wl l).length = l.length := by simp [wl]
theorem wl_get {l : List Nat} {i : Nat} (h : i < l.length) : (wl l)[i]? = some (.int .u32 (l.getD i 0 : Nat)) := by
  simp [wl, List.getD_eq_getElem?_getD, h]
theorem wl_set (l : List Nat) (i x : Nat) : (wl l).set i (.int .u32 x) = wl (l.set i x) := by simp [wl, List.map_set]
def hs0 : List Nat := [1779033703, 3144134277, 1013904242, 2773480762, 1359893119, 2600822924, 528734635, 1541459225]
def ks0 : List Nat := [1116352408, 1899447441, 3049323471, 3921009573, 961987163, 1508970993, 2453635748, 2870763221, 3624381080, 310598401, 607225278, 1426881987, 1925078388, 2162078206, 2614888103, 3248222580, 3835390401, 4022224774, 264347078, 604807628, 770255983, 1249150122, 1555081692, 1996064986, 2554220882, 2821834349, 2952996808, 3210313671, 3336571891, 3584528711, 113926993, 338241895, 666307205, 773529912, 1294757372, 1396182291, 1695183700, 1986661051, 2177026350, 2456956037, 2730485921, 2820302411, 3259730800, 3345764771, 3516065817, 3600352804, 4094571909, 275423344, 430227734, 506948616, 659060556, 883997877, 958139571, 1322822218, 1537002063, 1747873779, 1955562222, 2024104815, 2227730452, 2361852424, 2428436474, 2756734187, 3204031479, 3329325298]
def ad (a b : Nat) : Nat := (a + b) % 4294967296
def sgA (x a b c : Nat) : Nat := (rotN x a ^^^ rotN x b) ^^^ rotN x c
def sgB (x a b c : Nat) : Nat := (rotN x a ^^^ rotN x b) ^^^ lowN x c
def chN (e f g : Nat) : Nat := (e &&& f) ^^^ ((4294967295 ^^^ e) &&& g)
def mjN (a b c : Nat) : Nat := ((a &&& b) ^^^ (a &&& c)) ^^^ (b &&& c)
def t1N (v : List Nat) (k w : Nat) : Nat := ad (ad (ad (ad (v.getD 7 0) (sgA (v.getD 4 0) 6 11 25)) (chN (v.getD 4 0) (v.getD 5 0) (v.getD 6 0))) k) w
def t2N (v : List Nat) : Nat := ad (sgA (v.getD 0 0) 2 13 22) (mjN (v.getD 0 0) (v.getD 1 0) (v.getD 2 0))
def rnd (v : List Nat) (k w : Nat) : List Nat := [ad (t1N v k w) (t2N v), v.getD 0 0, v.getD 1 0, v.getD 2 0, ad (v.getD 3 0) (t1N v k w), v.getD 4 0, v.getD 5 0, v.getD 6 0]
def rndI (h ks ws : List Nat) : Nat → List Nat
  | 0 => h
  | i + 1 => rnd (rndI h ks ws i) (ks.getD i 0) (ws.getD i 0)
def word (m : List Nat) (o : Nat) : Nat := ((m.getD o 0 * 256 + m.getD (o + 1) 0) * 256 + m.getD (o + 2) 0) * 256 + m.getD (o + 3) 0
def wnext (w : List Nat) (i : Nat) : Nat := ad (ad (ad (sgB (w.getD (i - 2) 0) 17 19 10) (w.getD (i - 7) 0)) (sgB (w.getD (i - 15) 0) 7 18 3)) (w.getD (i - 16) 0)
def wsN (m : List Nat) (o : Nat) : Nat → List Nat
  | 0 => []
  | i + 1 => wsN m o i ++ [bif Nat.blt i 16 then word m (o + 4 * i) else wnext (wsN m o i) i]
def haddI (h v : List Nat) : Nat → List Nat
  | 0 => h
  | i + 1 => (haddI h v i).set i (ad ((haddI h v i).getD i 0) (v.getD i 0))
def blk (h m : List Nat) (o : Nat) : List Nat := haddI h (rndI h ks0 (wsN m o 64) 64) 8
def hsN (m : List Nat) : Nat → List Nat
  | 0 => hs0
  | j + 1 => blk (hsN m j) m (64 * j)
def outN (h : List Nat) : Nat → List Nat
  | 0 => []
  | i + 1 => outN h i ++ out4 (h.getD i 0)
def tailN (n : Nat) : Nat → List Nat
  | 0 => []
  | i + 1 => tailN (n / 256) i ++ [n % 256]
/-- How many zeros: until so many are there but for 8. -/
def zn (n : Nat) : Nat := (119 - (n + 1) % 64) % 64 + 0
def padN (l : List Nat) : List Nat := l ++ [128] ++ List.replicate ((120 - (l.length + 1) % 64) % 64) 0 ++ tailN (l.length * 8 % 18446744073709551616) 8
def digest (l : List Nat) : List Nat := outN (hsN (padN l) ((padN l).length / 64)) 8
theorem w_ad (a b : Nat) : IntKind.u32.wrap ((a : Int) + b) = ((ad a b : Nat) : Int) := by
  unfold ad
  simp [IntKind.wrap, IntKind.bits, IntKind.signed]
theorem ad_lt (a b : Nat) : ad a b < 4294967296 := Nat.mod_lt _ (by decide)
theorem lowN_eq (x : Nat) : ∀ n, lowN x n = x / 2 ^ n
  | 0 => by simp [lowN]
  | n + 1 => by rw [lowN, lowN_eq x n, Nat.div_div_eq_div_mul, Nat.pow_succ]
theorem lowN_lt {x : Nat} (h : x < 4294967296) (n : Nat) : lowN x n < 4294967296 := Nat.lt_of_le_of_lt (lowN_le x n) h
theorem rotN_lt' {x : Nat} (h : x < 4294967296) (n : Nat) : rotN x n < 4294967296 := rotN_lt h n
theorem sgA_lt {x : Nat} (h : x < 4294967296) (a b c : Nat) : sgA x a b c < 4294967296 := xor_lt (xor_lt (rotN_lt h _) (rotN_lt h _)) (rotN_lt h _)
theorem sgB_lt {x : Nat} (h : x < 4294967296) (a b c : Nat) : sgB x a b c < 4294967296 := xor_lt (xor_lt (rotN_lt h _) (rotN_lt h _)) (lowN_lt h _)
theorem mj_or (a b c : Nat) : ((a &&& b) ||| (a &&& c)) ||| (b &&& c) = mjN a b c := by
  unfold mjN
  apply Nat.eq_of_testBit_eq
  intro i
  simp only [Nat.testBit_or, Nat.testBit_xor, Nat.testBit_and]
  cases a.testBit i <;> cases b.testBit i <;> cases c.testBit i <;> rfl
theorem not32 {x : Nat} (h : x < 4294967296) : (-1 : Int) - (x : Int) = -1 - x := rfl
theorem getD32 {l : List Nat} (h : ∀ d ∈ l, d < 4294967296) (j : Nat) : l.getD j 0 < 4294967296 := by
  by_cases hj : j < l.length
  · rw [List.getD_eq_getElem?_getD, List.getElem?_eq_getElem hj]; exact h _ (List.getElem_mem hj)
  · rw [List.getD_eq_getElem?_getD, List.getElem?_eq_none (by omega)]; decide
theorem word_lt {m : List Nat} (h : ∀ d ∈ m, d < 256) (o : Nat) : word m o < 4294967296 := by
  unfold word
  have := getD8 h o; have := getD8 h (o + 1); have := getD8 h (o + 2); have := getD8 h (o + 3)
  omega
theorem wnext_lt (w : List Nat) (i : Nat) : wnext w i < 4294967296 := by unfold wnext; exact ad_lt _ _
theorem wst_lt {x y : Nat} (hx : x < 4294967296) (hy : y < 4294967296) (b : Bool) : (bif b then x else y) < 4294967296 := by
  cases b with
  | true => rw [cond_true]; exact hx
  | false => rw [cond_false]; exact hy
theorem wsN_lt {m : List Nat} (h : ∀ d ∈ m, d < 256) (o : Nat) : ∀ i, ∀ d ∈ wsN m o i, d < 4294967296
  | 0, d, hd => by simp [wsN] at hd
  | i + 1, d, hd => by
    simp only [wsN, List.mem_append, List.mem_singleton] at hd
    rcases hd with hd | rfl
    · exact wsN_lt h o i d hd
    · exact wst_lt (word_lt h _) (wnext_lt _ _) _
theorem wsN_length (m : List Nat) (o : Nat) : ∀ i, (wsN m o i).length = i
  | 0 => rfl
  | i + 1 => by simp [wsN, wsN_length m o i]
theorem rndI_length {h ks ws : List Nat} (hl : h.length = 8) : ∀ i, (rndI h ks ws i).length = 8
  | 0 => hl
  | i + 1 => rfl
theorem rnd_lt {v : List Nat} (h : ∀ d ∈ v, d < 4294967296) (k w : Nat) : ∀ d ∈ rnd v k w, d < 4294967296 := by
  intro d hd
  simp only [rnd, List.mem_cons, List.not_mem_nil, or_false] at hd
  rcases hd with rfl | rfl | rfl | rfl | rfl | rfl | rfl | rfl <;> first | exact ad_lt _ _ | exact getD32 h _
theorem rndI_lt {h ks ws : List Nat} (hl : ∀ d ∈ h, d < 4294967296) : ∀ i, ∀ d ∈ rndI h ks ws i, d < 4294967296
  | 0 => hl
  | i + 1 => rnd_lt (rndI_lt hl i) _ _
theorem haddI_length (h v : List Nat) : ∀ i, (haddI h v i).length = h.length
  | 0 => rfl
  | i + 1 => by simp [haddI, haddI_length h v i]
theorem haddI_lt {h v : List Nat} (hl : ∀ d ∈ h, d < 4294967296) : ∀ i, ∀ d ∈ haddI h v i, d < 4294967296
  | 0 => hl
  | i + 1 => fun d hd => by
    rcases List.mem_or_eq_of_mem_set hd with hd | rfl
    · exact haddI_lt hl i d hd
    · exact ad_lt _ _
theorem blk_length {h : List Nat} (hl : h.length = 8) (m : List Nat) (o : Nat) : (blk h m o).length = 8 := by rw [blk, haddI_length, hl]
theorem blk_lt {h : List Nat} (hl : ∀ d ∈ h, d < 4294967296) (m : List Nat) (o : Nat) : ∀ d ∈ blk h m o, d < 4294967296 := haddI_lt hl 8
theorem hsN_length (m : List Nat) : ∀ j, (hsN m j).length = 8
  | 0 => rfl
  | j + 1 => blk_length (hsN_length m j) m _
theorem hs0_lt : ∀ d ∈ hs0, d < 4294967296 := by decide
theorem hsN_lt (m : List Nat) : ∀ j, ∀ d ∈ hsN m j, d < 4294967296
  | 0 => hs0_lt
  | j + 1 => blk_lt (hsN_lt m j) m _
end Go.Proofs.YthohmdkibkompaaDoor
