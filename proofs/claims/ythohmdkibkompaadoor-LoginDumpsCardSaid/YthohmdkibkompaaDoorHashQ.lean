/- The sum's steps, plain; a word turned. No conditions. -/
import Derived.Test.YthohmdkibkompaaDoorAbsT
import Derived.Test.YthohmdkibkompaaDoorAbsP
import Derived.Test.YthohmdkibkompaaDoorAbsM
set_option linter.unusedVariables false
set_option linter.unusedSimpArgs false
namespace Go.Proofs.YthohmdkibkompaaDoor
open Go Go.Abs Go.RowKit
variable {base : Nat} {w0 : World} {G : Nat}

def lowN (x : Nat) : Nat → Nat
  | 0 => x
  | n + 1 => lowN x n / 2
def rotN (x : Nat) : Nat → Nat
  | 0 => x
  | n + 1 => rotN x n / 2 + rotN x n % 2 * 2147483648
theorem lowN_le (x : Nat) : ∀ n, lowN x n ≤ x
  | 0 => Nat.le_refl _
  | n + 1 => by have := lowN_le x n; unfold lowN; omega
theorem rotN_lt {x : Nat} (h : x < 4294967296) : ∀ n, rotN x n < 4294967296
  | 0 => h
  | n + 1 => by have := rotN_lt h n; unfold rotN; omega

theorem rotN_eq {x : Nat} (h : x < 4294967296) : ∀ n, n ≤ 32 → rotN x n = x / 2 ^ n + x % 2 ^ n * 2 ^ (32 - n)
  | 0, _ => by simp [rotN, Nat.mod_one]
  | n + 1, hn => by
    have ih := rotN_eq h n (by omega)
    have e1 : 2 ^ (32 - n) = 2 * 2 ^ (32 - (n + 1)) := by rw [show 32 - n = 32 - (n + 1) + 1 by omega, Nat.pow_succ]; omega
    have e2 : (2147483648 : Nat) = 2 ^ n * 2 ^ (32 - (n + 1)) := by rw [← Nat.pow_add, show n + (32 - (n + 1)) = 31 by omega]
    have hp : 0 < 2 ^ n := Nat.two_pow_pos n
    unfold rotN
    rw [ih, e1, e2, Nat.pow_succ, ← Nat.div_div_eq_div_mul]
    generalize 2 ^ (32 - (n + 1)) = c
    have hm : x % (2 ^ n * 2) = x % 2 ^ n + 2 ^ n * (x / 2 ^ n % 2) := Nat.mod_mul
    rw [hm]
    generalize x / 2 ^ n = u
    generalize x % 2 ^ n = v
    generalize 2 ^ n = p
    rw [show v * (2 * c) = 2 * (v * c) by rw [Nat.mul_left_comm], show u + 2 * (v * c) = u + (v * c) * 2 by omega, Nat.add_mul_div_right _ _ (by decide), Nat.add_mul_mod_self_right, Nat.add_mul]
    have : u % 2 * (p * c) = p * (u % 2) * c := by rw [← Nat.mul_assoc, Nat.mul_comm (u % 2) p]
    omega

/-- To the right, as shifts have it. -/
theorem rot_or {x r : Nat} (h : x < 4294967296) (hr : r ≤ 32) : ((x * 2 ^ (32 - r)) % 4294967296) ||| (x / 2 ^ r) = rotN x r := by
  rw [rotN_eq h r hr]
  have hp : 2 ^ r * 2 ^ (32 - r) = 4294967296 := by rw [← Nat.pow_add, show r + (32 - r) = 32 by omega]
  have h1 : (x * 2 ^ (32 - r)) % 4294967296 = x % 2 ^ r * 2 ^ (32 - r) := by
    rw [← hp, Nat.mul_mod_mul_right]
  have h2 : x / 2 ^ r < 2 ^ (32 - r) := by
    rw [Nat.div_lt_iff_lt_mul (Nat.two_pow_pos r), Nat.mul_comm, hp]; exact h
  rw [h1, ← Nat.shiftLeft_eq, ← Nat.shiftLeft_add_eq_or_of_lt h2, Nat.add_comm]

set_option maxRecDepth 10000 in
theorem RotateLeft32_spec (st : St) (x r : Nat) (hx : x < 4294967296) (hr : r ≤ 32) (hs : bits .and .u64 (IntKind.u64.wrap (-(r : Int))) 31 = ((32 - r : Nat) : Int)) (k q : Value → St → Prop) (hk : k (.int .u32 (rotN x r : Nat)) st) :
    ACall (C base w0 G) 67 [.int .u32 x, .int .i64 (-(r : Int))] st k q := by
  refine ACall.of (cx := C base w0 G) mixed Tryd.func67 rfl (by kernel_rfl) (by simp [Tryd.ntmps67]) ?_
  simp only [Tryd.results67]
  simp (config := { implicitDefEqProofs := false }) only [↓GP, ↓GM, GQ, abuiltinX, ↓awp_seq, ↓awp_block, C_ex, Nat.reduceBEq, acap, afieldAddr, aload, astore, abin, anum, astr, aun, isAggD, cond_true, cond_false, ↓reduceIte, C_P, C_G, isTuple, Value.cells, setL, ares, aresL, ares1, reduceCtorEq, Nat.reduceEqDiff, eq_self, Nat.reduceAdd, if_true, if_false, Go.Abs.one, Nat.reduceLeDiff, undef, gsl, aextract, aindexAddr, amake, implies_true, forall_const, alen, abuiltin, anil, isC, Int.reduceEq, Int.reduceLT, Int.reduceLE, Int.reduceAdd, Int.reduceToNat, Int.reduceNeg, Nat.reduceMul, Nat.reduceSub, abuild, afill, Int.reduceBNe, Int.reduceBEq, Tryd.underlying3, Tryd.underlying86, Tryd.underlying101, aconv, hs, ashift]
  have hw : IntKind.u64.wrap (32 - ((32 - r : Nat) : Int)) = (r : Int) := by
    rw [show (32 : Int) - ((32 - r : Nat) : Int) = r by omega]
    simp [IntKind.wrap, IntKind.bits, IntKind.signed]; omega
  have hb : (IntKind.u32.bits : Int) = 32 := rfl
  have hw2 : IntKind.u32.wrap ((x : Int) * 2 ^ (32 - r)) = (((x * 2 ^ (32 - r)) % 4294967296 : Nat) : Int) := by
    rw [show ((x : Int) * 2 ^ (32 - r)) = ((x * 2 ^ (32 - r) : Nat) : Int) by rw [Int.natCast_mul, Int.natCast_pow]; rfl]
    simp [IntKind.wrap, IntKind.bits, IntKind.signed]
  have hd : ((x : Int) / 2 ^ r) = ((x / 2 ^ r : Nat) : Int) := by rw [Int.natCast_ediv, Int.natCast_pow]; rfl
  rw [hw, hb, hw2, Int.toNat_natCast, hd, bits_or32 (Nat.mod_lt _ (by decide)) (Nat.lt_of_le_of_lt (Nat.div_le_self _ _) hx), rot_or hx hr]
  exact ⟨by omega, by omega, hk⟩
def wl (l : List Nat) : List Value := l.map fun n => .int .u32 (n : Nat)
theorem wl_length (l : List Nat) : (wl l).length = l.length := by simp [wl]
theorem wl_get {l : List Nat} {i : Nat} (h : i < l.length) : (wl l)[i]? = some (.int .u32 (l.getD i 0 : Nat)) := by
  simp [wl, List.getD_eq_getElem?_getD, h]
theorem wl_set (l : List Nat) (i x : Nat) : (wl l).set i (.int .u32 x) = wl (l.set i x) := by simp [wl, List.map_set]
def hs0 : List Nat := [1779033703, 3144134277, 1013904242, 2773480762, 1359893119, 2600822924, 528734635, 1541459225]
def ks0 : List Nat := [1116352408, 1899447441, 3049323471, 3921009573, 961987163, 1508970993, 2453635748, 2870763221, 3624381080, 310598401, 607225278, 1426881987, 1925078388, 2162078206, 2614888103, 3248222580, 3835390401, 4022224774, 264347078, 604807628, 770255983, 1249150122, 1555081692, 1996064986, 2554220882, 2821834349, 2952996808, 3210313671, 3336571891, 3584528711, 113926993, 338241895, 666307205, 773529912, 1294757372, 1396182291, 1695183700, 1986661051, 2177026350, 2456956037, 2730485921, 2820302411, 3259730800, 3345764771, 3516065817, 3600352804, 4094571909, 275423344, 430227734, 506948616, 659060556, 883997877, 958139571, 1322822218, 1537002063, 1747873779, 1955562222, 2024104815, 2227730452, 2361852424, 2428436474, 2756734187, 3204031479, 3329325298]
def ad (a b : Nat) : Nat := (a + b) % 4294967296
def sgA (x a b c : Nat) : Nat := (rotN x a ^^^ rotN x b) ^^^ rotN x c
def sgB (x a b c : Nat) : Nat := (rotN x a ^^^ rotN x b) ^^^ lowN x c
def chN (e f g : Nat) : Nat := (e &&& f) ^^^ ((4294967295 ^^^ e) &&& g)
def mjN (a b c : Nat) : Nat := ((a &&& b) ^^^ (a &&& c)) ^^^ (b &&& c)
def t1N (v : List Nat) (k w : Nat) : Nat := ad (ad (ad (ad (v.getD 7 0) (sgA (v.getD 4 0) 6 11 25)) (chN (v.getD 4 0) (v.getD 5 0) (v.getD 6 0))) k) w
def t2N (v : List Nat) : Nat := ad (sgA (v.getD 0 0) 2 13 22) (mjN (v.getD 0 0) (v.getD 1 0) (v.getD 2 0))
def rnd (v : List Nat) (k w : Nat) : List Nat := [ad (t1N v k w) (t2N v), v.getD 0 0, v.getD 1 0, v.getD 2 0, ad (v.getD 3 0) (t1N v k w), v.getD 4 0, v.getD 5 0, v.getD 6 0]
def rndI (h ks ws : List Nat) : Nat → List Nat
  | 0 => h
  | i + 1 => rnd (rndI h ks ws i) (ks.getD i 0) (ws.getD i 0)
def word (m : List Nat) (o : Nat) : Nat := ((m.getD o 0 * 256 + m.getD (o + 1) 0) * 256 + m.getD (o + 2) 0) * 256 + m.getD (o + 3) 0
def wnext (w : List Nat) (i : Nat) : Nat := ad (ad (ad (sgB (w.getD (i - 2) 0) 17 19 10) (w.getD (i - 7) 0)) (sgB (w.getD (i - 15) 0) 7 18 3)) (w.getD (i - 16) 0)
def wsN (m : List Nat) (o : Nat) : Nat → List Nat
  | 0 => []
  | i + 1 => wsN m o i ++ [bif Nat.blt i 16 then word m (o + 4 * i) else wnext (wsN m o i) i]
def haddI (h v : List Nat) : Nat → List Nat
  | 0 => h
  | i + 1 => (haddI h v i).set i (ad ((haddI h v i).getD i 0) (v.getD i 0))
def blk (h m : List Nat) (o : Nat) : List Nat := haddI h (rndI h ks0 (wsN m o 64) 64) 8
def hsN (m : List Nat) : Nat → List Nat
  | 0 => hs0
  | j + 1 => blk (hsN m j) m (64 * j)
def outN (h : List Nat) : Nat → List Nat
  | 0 => []
  | i + 1 => outN h i ++ out4 (h.getD i 0)
def tailN (n : Nat) : Nat → List Nat
  | 0 => []
  | i + 1 => tailN (n / 256) i ++ [n % 256]
/-- How many zeros: until so many are there but for 8. -/
def zn (n : Nat) : Nat := (119 - (n + 1) % 64) % 64 + 0
def padN (l : List Nat) : List Nat := l ++ [128] ++ List.replicate ((120 - (l.length + 1) % 64) % 64) 0 ++ tailN (l.length * 8 % 18446744073709551616) 8
def digest (l : List Nat) : List Nat := outN (hsN (padN l) ((padN l).length / 64)) 8
theorem w_ad (a b : Nat) : IntKind.u32.wrap ((a : Int) + b) = ((ad a b : Nat) : Int) := by
  unfold ad
  simp [IntKind.wrap, IntKind.bits, IntKind.signed]
theorem ad_lt (a b : Nat) : ad a b < 4294967296 := Nat.mod_lt _ (by decide)
theorem lowN_eq (x : Nat) : ∀ n, lowN x n = x / 2 ^ n
  | 0 => by simp [lowN]
  | n + 1 => by rw [lowN, lowN_eq x n, Nat.div_div_eq_div_mul, Nat.pow_succ]
theorem lowN_lt {x : Nat} (h : x < 4294967296) (n : Nat) : lowN x n < 4294967296 := Nat.lt_of_le_of_lt (lowN_le x n) h
theorem rotN_lt' {x : Nat} (h : x < 4294967296) (n : Nat) : rotN x n < 4294967296 := rotN_lt h n
theorem sgA_lt {x : Nat} (h : x < 4294967296) (a b c : Nat) : sgA x a b c < 4294967296 := xor_lt (xor_lt (rotN_lt h _) (rotN_lt h _)) (rotN_lt h _)
theorem sgB_lt {x : Nat} (h : x < 4294967296) (a b c : Nat) : sgB x a b c < 4294967296 := xor_lt (xor_lt (rotN_lt h _) (rotN_lt h _)) (lowN_lt h _)
theorem mj_or (a b c : Nat) : ((a &&& b) ||| (a &&& c)) ||| (b &&& c) = mjN a b c := by
  unfold mjN
  apply Nat.eq_of_testBit_eq
  intro i
  simp only [Nat.testBit_or, Nat.testBit_xor, Nat.testBit_and]
  cases a.testBit i <;> cases b.testBit i <;> cases c.testBit i <;> rfl
theorem not32 {x : Nat} (h : x < 4294967296) : (-1 : Int) - (x : Int) = -1 - x := rfl
theorem getD32 {l : List Nat} (h : ∀ d ∈ l, d < 4294967296) (j : Nat) : l.getD j 0 < 4294967296 := by
  by_cases hj : j < l.length
  · rw [List.getD_eq_getElem?_getD, List.getElem?_eq_getElem hj]; exact h _ (List.getElem_mem hj)
  · rw [List.getD_eq_getElem?_getD, List.getElem?_eq_none (by omega)]; decide
theorem word_lt {m : List Nat} (h : ∀ d ∈ m, d < 256) (o : Nat) : word m o < 4294967296 := by
  unfold word
  have := getD8 h o; have := getD8 h (o + 1); have := getD8 h (o + 2); have := getD8 h (o + 3)
  omega
theorem wnext_lt (w : List Nat) (i : Nat) : wnext w i < 4294967296 := by unfold wnext; exact ad_lt _ _
theorem wst_lt {x y : Nat} (hx : x < 4294967296) (hy : y < 4294967296) (b : Bool) : (bif b then x else y) < 4294967296 := by
  cases b with
  | true => rw [cond_true]; exact hx
  | false => rw [cond_false]; exact hy
theorem wsN_lt {m : List Nat} (h : ∀ d ∈ m, d < 256) (o : Nat) : ∀ i, ∀ d ∈ wsN m o i, d < 4294967296
  | 0, d, hd => by simp [wsN] at hd
  | i + 1, d, hd => by
    simp only [wsN, List.mem_append, List.mem_singleton] at hd
    rcases hd with hd | rfl
    · exact wsN_lt h o i d hd
    · exact wst_lt (word_lt h _) (wnext_lt _ _) _
theorem wsN_length (m : List Nat) (o : Nat) : ∀ i, (wsN m o i).length = i
  | 0 => rfl
  | i + 1 => by simp [wsN, wsN_length m o i]
theorem rndI_length {h ks ws : List Nat} (hl : h.length = 8) : ∀ i, (rndI h ks ws i).length = 8
  | 0 => hl
  | i + 1 => rfl
theorem rnd_lt {v : List Nat} (h : ∀ d ∈ v, d < 4294967296) (k w : Nat) : ∀ d ∈ rnd v k w, d < 4294967296 := by
  intro d hd
  simp only [rnd, List.mem_cons, List.not_mem_nil, or_false] at hd
  rcases hd with rfl | rfl | rfl | rfl | rfl | rfl | rfl | rfl <;> first | exact ad_lt _ _ | exact getD32 h _
theorem rndI_lt {h ks ws : List Nat} (hl : ∀ d ∈ h, d < 4294967296) : ∀ i, ∀ d ∈ rndI h ks ws i, d < 4294967296
  | 0 => hl
  | i + 1 => rnd_lt (rndI_lt hl i) _ _
theorem haddI_length (h v : List Nat) : ∀ i, (haddI h v i).length = h.length
  | 0 => rfl
  | i + 1 => by simp [haddI, haddI_length h v i]
theorem haddI_lt {h v : List Nat} (hl : ∀ d ∈ h, d < 4294967296) : ∀ i, ∀ d ∈ haddI h v i, d < 4294967296
  | 0 => hl
  | i + 1 => fun d hd => by
    rcases List.mem_or_eq_of_mem_set hd with hd | rfl
    · exact haddI_lt hl i d hd
    · exact ad_lt _ _
theorem blk_length {h : List Nat} (hl : h.length = 8) (m : List Nat) (o : Nat) : (blk h m o).length = 8 := by rw [blk, haddI_length, hl]
theorem blk_lt {h : List Nat} (hl : ∀ d ∈ h, d < 4294967296) (m : List Nat) (o : Nat) : ∀ d ∈ blk h m o, d < 4294967296 := haddI_lt hl 8
theorem hsN_length (m : List Nat) : ∀ j, (hsN m j).length = 8
  | 0 => rfl
  | j + 1 => blk_length (hsN_length m j) m _
theorem hs0_lt : ∀ d ∈ hs0, d < 4294967296 := by decide
theorem hsN_lt (m : List Nat) : ∀ j, ∀ d ∈ hsN m j, d < 4294967296
  | 0 => hs0_lt
  | j + 1 => blk_lt (hsN_lt m j) m _
end Go.Proofs.YthohmdkibkompaaDoor
set_option linter.unusedVariables false
set_option linter.unusedSimpArgs false
namespace Go.Proofs.YthohmdkibkompaaDoor
open Go Go.Abs Go.RowKit
variable {base : Nat} {w0 : World} {G : Nat}

def wz (l : List Nat) : List Value := wl (l ++ List.replicate (64 - l.length) 0)
theorem wz_length {l : List Nat} (h : l.length ≤ 64) : (wz l).length = 64 := by simp [wz, wl]; omega
theorem wz_set {l : List Nat} {i : Nat} (hi : l.length = i) (h : i < 64) (x : Nat) : (wz l).set i (.int .u32 x) = wz (l ++ [x]) := by
  subst hi
  unfold wz
  rw [wl_set, show 64 - l.length = (64 - (l ++ [x]).length) + 1 by simp; omega, List.replicate_succ, List.set_append_right _ _ (Nat.le_refl _), Nat.sub_self, List.set_cons_zero]
  simp
theorem wz_get {l : List Nat} {i : Nat} (h : i < l.length) : (wz l)[i]? = some (.int .u32 (l.getD i 0 : Nat)) := by
  unfold wz
  rw [wl_get (by simp; omega)]
  simp [List.getD_eq_getElem?_getD, List.getElem?_append_left h]
theorem wz_nil : wz [] = List.replicate 64 (.int .u32 0) := by simp [wz, wl]
theorem wz_full {l : List Nat} (h : l.length = 64) : wz l = wl l := by simp [wz, h]
theorem bw_word {b0 b1 b2 b3 : Nat} (h0 : b0 < 256) (h1 : b1 < 256) (h2 : b2 < 256) (h3 : b3 < 256) :
    bits .or .u32 (bits .or .u32 (bits .or .u32 (IntKind.u32.wrap (IntKind.u32.wrap (b0 : Int) * 2 ^ 24)) (IntKind.u32.wrap (IntKind.u32.wrap (b1 : Int) * 2 ^ 16))) (IntKind.u32.wrap (IntKind.u32.wrap (b2 : Int) * 2 ^ 8))) (IntKind.u32.wrap (b3 : Int)) = ((((b0 * 256 + b1) * 256 + b2) * 256 + b3 : Nat) : Int) := by
  have e0 : IntKind.u32.wrap (IntKind.u32.wrap (b0 : Int) * 2 ^ 24) = ((b0 * 16777216 : Nat) : Int) := by
    rw [w_u32 (x := (b0 : Int)) (by omega), show (2 : Int) ^ 24 = 16777216 from rfl, w_u32 (by omega)]; omega
  have e1 : IntKind.u32.wrap (IntKind.u32.wrap (b1 : Int) * 2 ^ 16) = ((b1 * 65536 : Nat) : Int) := by
    rw [w_u32 (x := (b1 : Int)) (by omega), show (2 : Int) ^ 16 = 65536 from rfl, w_u32 (by omega)]; omega
  have e2 : IntKind.u32.wrap (IntKind.u32.wrap (b2 : Int) * 2 ^ 8) = ((b2 * 256 : Nat) : Int) := by
    rw [w_u32 (x := (b2 : Int)) (by omega), show (2 : Int) ^ 8 = 256 from rfl, w_u32 (by omega)]; omega
  rw [e0, e1, e2, w_u32 (x := (b3 : Int)) (by omega)]
  have l1 := or_lt (a := b0 * 16777216) (b := b1 * 65536) (by omega) (by omega)
  have l2 := or_lt (a := b0 * 16777216 ||| b1 * 65536) (b := b2 * 256) l1 (by omega)
  rw [bits_or32 (by omega) (by omega), bits_or32 l1 (by omega), bits_or32 l2 (by omega), sh_or h0 h1 h2 h3]
theorem rotl (st : St) (x r : Nat) (R : Int) (hR : R = -(r : Int)) (hx : x < 4294967296) (hr : r ≤ 32) (hs : bits .and .u64 (IntKind.u64.wrap (-(r : Int))) 31 = ((32 - r : Nat) : Int)) (k q : Value → St → Prop) (hk : k (.int .u32 (rotN x r : Nat)) st) :
    ACallF (C base w0 G) 67 [.int .u32 x, .int .i64 R] st k q := by
  subst hR
  exact ACallF.enter Tryd.func67 rfl (by kernel_rfl) (RotateLeft32_spec st x r hx hr hs k q hk)
theorem shr_low (x n : Nat) : ((x : Int) / 2 ^ n) = ((lowN x n : Nat) : Int) := by
  rw [lowN_eq, Int.natCast_ediv, Int.natCast_pow]; rfl
set_option maxRecDepth 10000 in
theorem words_spec (st : St) (r : Hp) (m : List Nat) (B off n c : Nat) (sp : Option Nat) (ow : Bool) (hm : ∀ d ∈ m, d < 256) (hmem : (B, .cells (nl m) 5 ow) ∈ r) (hn : 64 ≤ n) (hoff : off + 64 ≤ m.length) (hO : Own st r) (k q : Value → St → Prop)
    (hk : ∀ st', Own st' r → k (.agg (wl (wsN m off 64)).toArray) st') :
    ACall (C base w0 G) 66 [.slice (some ⟨B, off, sp⟩) n c] st k q := by
  refine ACall.of (cx := C base w0 G) mixed Tryd.func66 rfl (by kernel_rfl) (by simp [Tryd.ntmps66]) ?_
  simp only [Tryd.results66]
  simp (config := { implicitDefEqProofs := false }) only [↓GP, ↓GM, GQ, abuiltinX, ↓awp_seq, ↓awp_block, C_ex, Nat.reduceBEq, acap, afieldAddr, aload, astore, abin, anum, astr, aun, isAggD, cond_true, cond_false, ↓reduceIte, C_P, C_G, isTuple, Value.cells, setL, ares, aresL, ares1, reduceCtorEq, Nat.reduceEqDiff, eq_self, Nat.reduceAdd, if_true, if_false, Go.Abs.one, Nat.reduceLeDiff, undef, gsl, aextract, aindexAddr, amake, implies_true, forall_const, alen, abuiltin, anil, isC, Int.reduceEq, Int.reduceLT, Int.reduceLE, Int.reduceAdd, Int.reduceToNat, Int.reduceNeg, Nat.reduceMul, Nat.reduceSub, abuild, afill, Int.reduceBNe, Int.reduceBEq, aalloc, azc119]
  have hO2 : Own _ ((st.n + 1, .cells (wz []) 119 true) :: (st.n, .cells (wz []) 119 true) :: r) := (hO.new (.cells (wz []) 119 true)).new (.cells (wz []) 119 true)
  rw [← wz_nil]
  refine ⟨fun q ρ s => ∃ i : Nat, q = 16 - i ∧ i ≤ 16 ∧ ρ 0 = .slice (some ⟨B, off, sp⟩) n c ∧ ρ 2 = .pointer (some ⟨st.n, 0, none⟩) ∧ ρ 3 = .pointer (some ⟨st.n + 1, 0, none⟩) ∧ ρ 10 = .int .i64 i ∧
    Own s ((st.n + 1, .cells (wz (wsN m off i)) 119 true) :: (st.n, .cells (wz []) 119 true) :: r), ⟨16, 0, rfl, by decide, rfl, rfl, rfl, rfl, hO2⟩, ?_⟩
  rintro _ ρ s ⟨i, rfl, hi, h0, h2, h3, h10, hs⟩
  have hcw := hs.head
  have hcb := hs.get (List.mem_cons_of_mem _ (List.mem_cons_of_mem _ hmem))
  by_cases him : i < 16
  · have hlw := wsN_length m off i
    have hwl := wz_length (l := wsN m off i) (by omega)
    simp (config := { implicitDefEqProofs := false }) only [↓GP, ↓GM, GQ, abuiltinX, ↓awp_seq, ↓awp_block, C_ex, Nat.reduceBEq, acap, afieldAddr, aload, astore, abin, anum, astr, aun, isAggD, cond_true, cond_false, ↓reduceIte, C_P, C_G, isTuple, Value.cells, setL, ares, aresL, ares1, reduceCtorEq, Nat.reduceEqDiff, eq_self, Nat.reduceAdd, if_true, if_false, Go.Abs.one, Nat.reduceLeDiff, undef, gsl, aextract, aindexAddr, amake, implies_true, forall_const, alen, abuiltin, anil, isC, Int.reduceEq, Int.reduceLT, Int.reduceLE, Int.reduceAdd, Int.reduceToNat, Int.reduceNeg, Nat.reduceMul, Nat.reduceSub, abuild, afill, Int.reduceBNe, Int.reduceBEq, h0, h2, h3, h10, show (i : Int) < 16 by omega, decide_true]
    refine ADraw.of [(0, false, []), (1, false, []), (2, false, []), (3, false, []), (4, false, []), (5, false, []), (6, false, []), (7, false, []), (8, false, []), (9, false, []), (10, false, []), (11, false, []), (12, false, []), (13, false, []), (14, false, []), (15, false, []), (16, false, []), (17, false, []), (18, false, []), (19, false, []), (20, false, []), (21, false, []), (22, false, []), (23, false, []), (24, false, []), (25, false, []), (26, false, []), (27, false, []), (28, false, []), (29, false, []), (30, false, []), (31, false, []), (32, false, []), (33, false, []), (34, false, []), (35, false, [])] [] [] (by kernel_rfl) ?_
    have g0 := nl_get (l := m) (i := off + 4 * i) (by omega)
    have g1 := nl_get (l := m) (i := off + (4 * i + 1)) (by omega)
    have g2 := nl_get (l := m) (i := off + (4 * i + 2)) (by omega)
    have g3 := nl_get (l := m) (i := off + (4 * i + 3)) (by omega)
    have w0 : IntKind.i64.wrap (4 * (i : Int)) = ((4 * i : Nat) : Int) := by rw [w_i64 (by omega)]; omega
    have w1 : IntKind.i64.wrap (((4 * i : Nat) : Int) + 1) = ((4 * i + 1 : Nat) : Int) := by rw [w_i64 (by omega)]; omega
    have w2 : IntKind.i64.wrap (((4 * i : Nat) : Int) + 2) = ((4 * i + 2 : Nat) : Int) := by rw [w_i64 (by omega)]; omega
    have w3 : IntKind.i64.wrap (((4 * i : Nat) : Int) + 3) = ((4 * i + 3 : Nat) : Int) := by rw [w_i64 (by omega)]; omega
    have b0 := getD8 hm (off + 4 * i)
    have b1 := getD8 hm (off + (4 * i + 1))
    have b2 := getD8 hm (off + (4 * i + 2))
    have b3 := getD8 hm (off + (4 * i + 3))
    simp (config := { implicitDefEqProofs := false }) only [↓GP, ↓GM, GQ, abuiltinX, ↓awp_seq, ↓awp_block, C_ex, Nat.reduceBEq, acap, afieldAddr, aload, astore, abin, anum, astr, aun, isAggD, cond_true, cond_false, ↓reduceIte, C_P, C_G, isTuple, Value.cells, setL, ares, aresL, ares1, reduceCtorEq, Nat.reduceEqDiff, eq_self, Nat.reduceAdd, if_true, if_false, Go.Abs.one, Nat.reduceLeDiff, undef, gsl, aextract, aindexAddr, amake, implies_true, forall_const, alen, abuiltin, anil, isC, Int.reduceEq, Int.reduceLT, Int.reduceLE, Int.reduceAdd, Int.reduceToNat, Int.reduceNeg, Nat.reduceMul, Nat.reduceSub, abuild, afill, Int.reduceBNe, Int.reduceBEq, h0, h2, h3, h10, w0, w1, w2, w3, g0, g1, g2, g3, hcb, hcw, asz5, asz101, asz119, Tryd.underlying38, Tryd.underlying5, Tryd.underlying101, Tryd.underlying119, aconv, ashift]
    have hb32 : (IntKind.u32.bits : Int) = 32 := rfl
    refine ⟨by omega, by decide, by omega, by decide, by omega, by decide, by omega, by omega, by omega, 16 - (i + 1), by omega, i + 1, rfl, by omega, by rw [w_i64 (by omega)]; rfl, ?_⟩
    rw [bw_word b0 b1 b2 b3, wz_set hlw (by omega)]
    have e : wsN m off (i + 1) = wsN m off i ++ [((m.getD (off + 4 * i) 0 * 256 + m.getD (off + (4 * i + 1)) 0) * 256 + m.getD (off + (4 * i + 2)) 0) * 256 + m.getD (off + (4 * i + 3)) 0] := by
      rw [wsN, show Nat.blt i 16 = true from Nat.ble_eq_true_of_le him, cond_true, word]; rfl
    rw [e]
    exact hs.set rfl _ rfl
  · obtain rfl : i = 16 := by omega
    simp (config := { implicitDefEqProofs := false }) only [↓GP, ↓GM, GQ, abuiltinX, ↓awp_seq, ↓awp_block, C_ex, Nat.reduceBEq, acap, afieldAddr, aload, astore, abin, anum, astr, aun, isAggD, cond_true, cond_false, ↓reduceIte, C_P, C_G, isTuple, Value.cells, setL, ares, aresL, ares1, reduceCtorEq, Nat.reduceEqDiff, eq_self, Nat.reduceAdd, if_true, if_false, Go.Abs.one, Nat.reduceLeDiff, undef, gsl, aextract, aindexAddr, amake, implies_true, forall_const, alen, abuiltin, anil, isC, Int.reduceEq, Int.reduceLT, Int.reduceLE, Int.reduceAdd, Int.reduceToNat, Int.reduceNeg, Nat.reduceMul, Nat.reduceSub, abuild, afill, Int.reduceBNe, Int.reduceBEq, h0, h2, h3, h10, show ¬ ((16 : Nat) : Int) < 16 by decide, decide_false]
    refine ⟨fun q ρ s => ∃ i : Nat, q = 64 - i ∧ 16 ≤ i ∧ i ≤ 64 ∧ ρ 2 = .pointer (some ⟨st.n, 0, none⟩) ∧ ρ 3 = .pointer (some ⟨st.n + 1, 0, none⟩) ∧ ρ 5 = .int .i64 i ∧
      Own s ((st.n + 1, .cells (wz (wsN m off i)) 119 true) :: (st.n, .cells (wz []) 119 true) :: r), ⟨48, 16, rfl, by decide, by decide, h2, h3, rfl, hs⟩, ?_⟩
    rintro _ ρ s ⟨i, rfl, hi16, hi, h2, h3, h5, hs⟩
    have hcw := hs.head
    by_cases him : i < 64
    · have hlw := wsN_length m off i
      have hlt := wsN_lt hm off i
      have hwl := wz_length (l := wsN m off i) (by omega)
      have g2 := wz_get (l := wsN m off i) (i := i - 2) (by omega)
      have g7 := wz_get (l := wsN m off i) (i := i - 7) (by omega)
      have g15 := wz_get (l := wsN m off i) (i := i - 15) (by omega)
      have g16 := wz_get (l := wsN m off i) (i := i - 16) (by omega)
      have w2 : IntKind.i64.wrap ((i : Int) - 2) = ((i - 2 : Nat) : Int) := by rw [w_i64 (by omega)]; omega
      have w7 : IntKind.i64.wrap ((i : Int) - 7) = ((i - 7 : Nat) : Int) := by rw [w_i64 (by omega)]; omega
      have w15 : IntKind.i64.wrap ((i : Int) - 15) = ((i - 15 : Nat) : Int) := by rw [w_i64 (by omega)]; omega
      have w16 : IntKind.i64.wrap ((i : Int) - 16) = ((i - 16 : Nat) : Int) := by rw [w_i64 (by omega)]; omega
      have l2 := getD32 hlt (i - 2)
      have l15 := getD32 hlt (i - 15)
      simp (config := { implicitDefEqProofs := false }) only [↓GP, ↓GM, GQ, abuiltinX, ↓awp_seq, ↓awp_block, C_ex, Nat.reduceBEq, acap, afieldAddr, aload, astore, abin, anum, astr, aun, isAggD, cond_true, cond_false, ↓reduceIte, C_P, C_G, isTuple, Value.cells, setL, ares, aresL, ares1, reduceCtorEq, Nat.reduceEqDiff, eq_self, Nat.reduceAdd, if_true, if_false, Go.Abs.one, Nat.reduceLeDiff, undef, gsl, aextract, aindexAddr, amake, implies_true, forall_const, alen, abuiltin, anil, isC, Int.reduceEq, Int.reduceLT, Int.reduceLE, Int.reduceAdd, Int.reduceToNat, Int.reduceNeg, Nat.reduceMul, Nat.reduceSub, abuild, afill, Int.reduceBNe, Int.reduceBEq, h2, h3, h5, show (i : Int) < 64 by omega, decide_true]
      refine ADraw.of [(0, false, []), (1, false, []), (2, false, []), (3, false, []), (4, false, []), (5, false, []), (6, false, []), (7, false, []), (8, false, []), (9, false, [])] [] [] (by kernel_rfl) ?_
      simp (config := { implicitDefEqProofs := false }) only [↓GP, ↓GM, GQ, abuiltinX, ↓awp_seq, ↓awp_block, C_ex, Nat.reduceBEq, acap, afieldAddr, aload, astore, abin, anum, astr, aun, isAggD, cond_true, cond_false, ↓reduceIte, C_P, C_G, isTuple, Value.cells, setL, ares, aresL, ares1, reduceCtorEq, Nat.reduceEqDiff, eq_self, Nat.reduceAdd, if_true, if_false, Go.Abs.one, Nat.reduceLeDiff, undef, gsl, aextract, aindexAddr, amake, implies_true, forall_const, alen, abuiltin, anil, isC, Int.reduceEq, Int.reduceLT, Int.reduceLE, Int.reduceAdd, Int.reduceToNat, Int.reduceNeg, Nat.reduceMul, Nat.reduceSub, abuild, afill, Int.reduceBNe, Int.reduceBEq, h2, h3, h5, w2, w15, g2, g15, hcw, asz101, asz119, Tryd.underlying101, Tryd.underlying119]
      refine ⟨by omega, by omega, ?_⟩
      refine rotl s _ 17 _ rfl l2 (by decide) (by decide +kernel) _ _ ?_
      simp (config := { implicitDefEqProofs := false }) only [↓GP, ↓GM, GQ, abuiltinX, ↓awp_seq, ↓awp_block, C_ex, Nat.reduceBEq, acap, afieldAddr, aload, astore, abin, anum, astr, aun, isAggD, cond_true, cond_false, ↓reduceIte, C_P, C_G, isTuple, Value.cells, setL, ares, aresL, ares1, reduceCtorEq, Nat.reduceEqDiff, eq_self, Nat.reduceAdd, if_true, if_false, Go.Abs.one, Nat.reduceLeDiff, undef, gsl, aextract, aindexAddr, amake, implies_true, forall_const, alen, abuiltin, anil, isC, Int.reduceEq, Int.reduceLT, Int.reduceLE, Int.reduceAdd, Int.reduceToNat, Int.reduceNeg, Nat.reduceMul, Nat.reduceSub, abuild, afill, Int.reduceBNe, Int.reduceBEq, h2, h3, h5]
      refine rotl s _ 19 _ rfl l2 (by decide) (by decide +kernel) _ _ ?_
      simp (config := { implicitDefEqProofs := false }) only [↓GP, ↓GM, GQ, abuiltinX, ↓awp_seq, ↓awp_block, C_ex, Nat.reduceBEq, acap, afieldAddr, aload, astore, abin, anum, astr, aun, isAggD, cond_true, cond_false, ↓reduceIte, C_P, C_G, isTuple, Value.cells, setL, ares, aresL, ares1, reduceCtorEq, Nat.reduceEqDiff, eq_self, Nat.reduceAdd, if_true, if_false, Go.Abs.one, Nat.reduceLeDiff, undef, gsl, aextract, aindexAddr, amake, implies_true, forall_const, alen, abuiltin, anil, isC, Int.reduceEq, Int.reduceLT, Int.reduceLE, Int.reduceAdd, Int.reduceToNat, Int.reduceNeg, Nat.reduceMul, Nat.reduceSub, abuild, afill, Int.reduceBNe, Int.reduceBEq, h2, h3, h5, bits_xor32 (rotN_lt l2 17) (rotN_lt l2 19), ashift, shr_low, bits_xor32 (xor_lt (rotN_lt l2 17) (rotN_lt l2 19)) (lowN_lt l2 10), Tryd.underlying101]
      refine ⟨by decide, ?_⟩
      refine rotl s _ 7 _ rfl l15 (by decide) (by decide +kernel) _ _ ?_
      simp (config := { implicitDefEqProofs := false }) only [↓GP, ↓GM, GQ, abuiltinX, ↓awp_seq, ↓awp_block, C_ex, Nat.reduceBEq, acap, afieldAddr, aload, astore, abin, anum, astr, aun, isAggD, cond_true, cond_false, ↓reduceIte, C_P, C_G, isTuple, Value.cells, setL, ares, aresL, ares1, reduceCtorEq, Nat.reduceEqDiff, eq_self, Nat.reduceAdd, if_true, if_false, Go.Abs.one, Nat.reduceLeDiff, undef, gsl, aextract, aindexAddr, amake, implies_true, forall_const, alen, abuiltin, anil, isC, Int.reduceEq, Int.reduceLT, Int.reduceLE, Int.reduceAdd, Int.reduceToNat, Int.reduceNeg, Nat.reduceMul, Nat.reduceSub, abuild, afill, Int.reduceBNe, Int.reduceBEq, h2, h3, h5]
      refine rotl s _ 18 _ rfl l15 (by decide) (by decide +kernel) _ _ ?_
      simp (config := { implicitDefEqProofs := false }) only [↓GP, ↓GM, GQ, abuiltinX, ↓awp_seq, ↓awp_block, C_ex, Nat.reduceBEq, acap, afieldAddr, aload, astore, abin, anum, astr, aun, isAggD, cond_true, cond_false, ↓reduceIte, C_P, C_G, isTuple, Value.cells, setL, ares, aresL, ares1, reduceCtorEq, Nat.reduceEqDiff, eq_self, Nat.reduceAdd, if_true, if_false, Go.Abs.one, Nat.reduceLeDiff, undef, gsl, aextract, aindexAddr, amake, implies_true, forall_const, alen, abuiltin, anil, isC, Int.reduceEq, Int.reduceLT, Int.reduceLE, Int.reduceAdd, Int.reduceToNat, Int.reduceNeg, Nat.reduceMul, Nat.reduceSub, abuild, afill, Int.reduceBNe, Int.reduceBEq, h2, h3, h5, bits_xor32 (rotN_lt l15 7) (rotN_lt l15 18), ashift, shr_low, bits_xor32 (xor_lt (rotN_lt l15 7) (rotN_lt l15 18)) (lowN_lt l15 3), Tryd.underlying101]
      refine ⟨by decide, ?_⟩
      refine ADraw.of [(0, false, []), (1, false, []), (2, false, []), (3, false, []), (4, false, []), (5, false, []), (6, false, []), (7, false, []), (8, false, []), (9, false, []), (10, false, []), (11, false, []), (12, false, []), (13, false, []), (14, false, []), (15, false, [])] [] [] (by kernel_rfl) ?_
      simp (config := { implicitDefEqProofs := false }) only [↓GP, ↓GM, GQ, abuiltinX, ↓awp_seq, ↓awp_block, C_ex, Nat.reduceBEq, acap, afieldAddr, aload, astore, abin, anum, astr, aun, isAggD, cond_true, cond_false, ↓reduceIte, C_P, C_G, isTuple, Value.cells, setL, ares, aresL, ares1, reduceCtorEq, Nat.reduceEqDiff, eq_self, Nat.reduceAdd, if_true, if_false, Go.Abs.one, Nat.reduceLeDiff, undef, gsl, aextract, aindexAddr, amake, implies_true, forall_const, alen, abuiltin, anil, isC, Int.reduceEq, Int.reduceLT, Int.reduceLE, Int.reduceAdd, Int.reduceToNat, Int.reduceNeg, Nat.reduceMul, Nat.reduceSub, abuild, afill, Int.reduceBNe, Int.reduceBEq, h2, h3, h5, w7, w16, g7, g16, hcw, asz101, asz119, Tryd.underlying101, Tryd.underlying119, w_ad]
      refine ⟨by omega, by omega, by omega, by omega, 64 - (i + 1), by omega, i + 1, rfl, by omega, by omega, by rw [w_i64 (by omega)]; rfl, ?_⟩
      have hb : Nat.blt i 16 = false := by
        cases h : Nat.blt i 16 with
        | false => rfl
        | true => exact absurd (Nat.le_of_ble_eq_true h) (by omega)
      rw [wz_set hlw (by omega)]
      rw [wsN, hb, cond_false, wnext, sgB, sgB]
      generalize ad (ad _ _) _ = z
      exact hs.set rfl _ rfl
    · obtain rfl : i = 64 := by omega
      have hcr := hs.get (b := st.n) (o := .cells (wz []) 119 true) (by simp)
      have hne := hs.ne rfl (b' := st.n) (o' := .cells (wz []) 119 true) (by simp)
      have hl64 := wz_length (l := wsN m off 64) (by rw [wsN_length]; decide)
      have hcut := cut_all (wz (wsN m off 64))
      rw [hl64] at hcut
      have hl0 := wz_length (l := []) (by decide)
      have hone : (wz (wsN m off 64)).all one = true := by simp [wz, wl, one]
      simp (config := { implicitDefEqProofs := false }) only [↓GP, ↓GM, GQ, abuiltinX, ↓awp_seq, ↓awp_block, C_ex, Nat.reduceBEq, acap, afieldAddr, aload, astore, abin, anum, astr, aun, isAggD, cond_true, cond_false, ↓reduceIte, C_P, C_G, isTuple, Value.cells, setL, ares, aresL, ares1, reduceCtorEq, Nat.reduceEqDiff, eq_self, Nat.reduceAdd, if_true, if_false, Go.Abs.one, Nat.reduceLeDiff, undef, gsl, aextract, aindexAddr, amake, implies_true, forall_const, alen, abuiltin, anil, isC, Int.reduceEq, Int.reduceLT, Int.reduceLE, Int.reduceAdd, Int.reduceToNat, Int.reduceNeg, Nat.reduceMul, Nat.reduceSub, abuild, afill, Int.reduceBNe, Int.reduceBEq, h2, h3, h5, show ¬ ((64 : Nat) : Int) < 64 by decide, decide_false, hcw, hcr, asz119, Tryd.underlying119, hcut, List.size_toArray, hl64, List.toList_toArray, hone, setL_all _ _ (hl0.trans hl64.symm), hl0]
      have := hk _ (hs.tail.set rfl (.cells (wz (wsN m off 64)) 119 true) rfl).tail
      rw [← wz_full (wsN_length m off 64)] at this
      exact this
end Go.Proofs.YthohmdkibkompaaDoor
set_option linter.unusedVariables false
set_option linter.unusedSimpArgs false
namespace Go.Proofs.YthohmdkibkompaaDoor
open Go Go.Abs Go.RowKit
variable {base : Nat} {w0 : World} {G : Nat}

theorem ev_k {ρ : Env} : ev 4 ρ (.global 0) = .pointer (some ⟨0, 0, none⟩) := rfl
theorem list8 {l : List Nat} (h : l.length = 8) : ∃ a0 a1 a2 a3 a4 a5 a6 a7, l = [a0, a1, a2, a3, a4, a5, a6, a7] := by
  match l, h with
  | [a0, a1, a2, a3, a4, a5, a6, a7], _ => exact ⟨_, _, _, _, _, _, _, _, rfl⟩
theorem xnot {x : Nat} (hx : x < 4294967296) : bits .xor .u32 (if IntKind.u32.signed then -1 else IntKind.u32.max) (x : Int) = ((4294967295 ^^^ x : Nat) : Int) := by
  rw [if_neg (by decide), show IntKind.u32.max = ((4294967295 : Nat) : Int) from rfl, bits_xor32 (by decide) hx]
theorem own_set_eq {st : St} {a : Hp} {b : Nat} {X L L' : List Value} {ty : TypeId} (hO : Own st ((b, .cells X ty true) :: a)) (e : L = L') : Own (st.set b (some (.cells L ty true))) ((b, .cells L' ty true) :: a) := by
  rw [e]; exact hO.set rfl (.cells L' ty true) rfl
set_option maxRecDepth 10000 in
theorem block_spec (st : St) (r : Hp) (h m : List Nat) (S B off n c : Nat) (sp : Option Nat) (ow ok : Bool) {kt : TypeId} (hm : ∀ d ∈ m, d < 256) (hh : ∀ d ∈ h, d < 4294967296) (hl : h.length = 8)
    (hmem : (B, .cells (nl m) 5 ow) ∈ r) (hK : (0, .cells (wl ks0) kt ok) ∈ r) (hn : 64 ≤ n) (hoff : off + 64 ≤ m.length) (hO : Own st ((S, .cells (wl h) 103 true) :: r)) (k q : Value → St → Prop)
    (hk : ∀ V st', Own st' ((S, .cells (wl (blk h m off)) 103 true) :: r) → k V st') :
    ACall (C base w0 4) 53 [.pointer (some ⟨S, 0, none⟩), .slice (some ⟨B, off, sp⟩) n c] st k q := by
  refine ACall.of (cx := C base w0 4) mixed Tryd.func53 rfl (by kernel_rfl) (by simp [Tryd.ntmps53]) ?_
  simp only [Tryd.results53]
  simp (config := { implicitDefEqProofs := false }) only [↓GP, ↓GM, GQ, abuiltinX, ↓awp_seq, ↓awp_block, C_ex, Nat.reduceBEq, acap, afieldAddr, aload, astore, abin, anum, astr, aun, isAggD, cond_true, cond_false, ↓reduceIte, C_P, C_G, isTuple, Value.cells, setL, ares, aresL, ares1, reduceCtorEq, Nat.reduceEqDiff, eq_self, Nat.reduceAdd, if_true, if_false, Go.Abs.one, Nat.reduceLeDiff, undef, gsl, aextract, aindexAddr, amake, implies_true, forall_const, alen, abuiltin, anil, isC, Int.reduceEq, Int.reduceLT, Int.reduceLE, Int.reduceAdd, Int.reduceToNat, Int.reduceNeg, Nat.reduceMul, Nat.reduceSub, abuild, afill, Int.reduceBNe, Int.reduceBEq]
  refine ACallF.enter Tryd.func66 rfl (by kernel_rfl) (words_spec st _ m B off n c sp ow hm (List.mem_cons_of_mem _ hmem) hn hoff hO _ _ fun s1 hO1 => ?_)
  generalize hws : wsN m off 64 = ws
  have hwl : ws.length = 64 := by rw [← hws]; exact wsN_length m off 64
  have hwlt : ∀ d ∈ ws, d < 4294967296 := by rw [← hws]; exact wsN_lt hm off 64
  obtain ⟨a0, a1, a2, a3, a4, a5, a6, a7, he⟩ := list8 hl
  have hst : setL (List.replicate 64 (.int .u32 0)) 0 (wl ws) = wl ws := setL_all _ _ (by simp [wl_length, hwl])
  have hone : (wl ws).all one = true := by simp [wl, one]
  have hcs := hO1.head
  have hcs' : s1.H S = some (.cells (wl h) 103 true) := hcs
  have hnS := hO1.freshH
  have hlt := hO1.lt (List.mem_cons_self ..)
  have hcut : cut (wl h) 0 8 = some (wl h) := by have := cut_all (wl h); rw [wl_length, hl] at this; exact this
  have hsz : (wl h).length = 8 := by rw [wl_length, hl]
  have hone2 : (wl h).all one = true := by simp [wl, one]
  have hst2 : setL [.int .u32 0, .int .u32 0, .int .u32 0, .int .u32 0, .int .u32 0, .int .u32 0, .int .u32 0, .int .u32 0] 0 (wl h) = wl h := setL_all _ _ (by simp [wl_length, hl])
  simp (config := { implicitDefEqProofs := false }) only [↓GP, ↓GM, GQ, abuiltinX, ↓awp_seq, ↓awp_block, C_ex, Nat.reduceBEq, acap, afieldAddr, aload, astore, abin, anum, astr, aun, isAggD, cond_true, cond_false, ↓reduceIte, C_P, C_G, isTuple, Value.cells, setL, ares, aresL, ares1, reduceCtorEq, Nat.reduceEqDiff, eq_self, Nat.reduceAdd, if_true, if_false, Go.Abs.one, Nat.reduceLeDiff, undef, gsl, aextract, aindexAddr, amake, implies_true, forall_const, alen, abuiltin, anil, isC, Int.reduceEq, Int.reduceLT, Int.reduceLE, Int.reduceAdd, Int.reduceToNat, Int.reduceNeg, Nat.reduceMul, Nat.reduceSub, abuild, afill, Int.reduceBNe, Int.reduceBEq, aalloc, azc119, azc103, asz119, asz103, List.size_toArray, wl_length, hwl, List.toList_toArray, hone, hst, List.length_replicate, hcs', hnS, Tryd.underlying103, hcut, hl, hone2, hst2,
    show ¬ S = s1.n + 1 by omega, show ¬ s1.n + 1 = s1.n by omega]
  have hO2 : Own _ ((s1.n, .cells (wl ws) 119 true) :: (S, .cells (wl h) 103 true) :: r) := (hO1.new (.cells (List.replicate 64 (.int .u32 0)) 119 true)).set rfl (.cells (wl ws) 119 true) rfl
  have hO3 := (hO2.new (.cells [.int .u32 0, .int .u32 0, .int .u32 0, .int .u32 0, .int .u32 0, .int .u32 0, .int .u32 0, .int .u32 0] 103 true)).set rfl (.cells (wl h) 103 true) rfl
  refine ⟨fun q ρ s => ∃ i : Nat, q = 64 - i ∧ i ≤ 64 ∧ ρ 0 = .pointer (some ⟨S, 0, none⟩) ∧ ρ 4 = .pointer (some ⟨s1.n, 0, none⟩) ∧ ρ 5 = .pointer (some ⟨s1.n + 1, 0, none⟩) ∧ ρ 17 = .int .i64 i ∧
    Own s ((s1.n + 1, .cells (wl (rndI h ks0 ws i)) 103 true) :: (s1.n, .cells (wl ws) 119 true) :: (S, .cells (wl h) 103 true) :: r), ⟨64, 0, rfl, by decide, rfl, rfl, rfl, rfl, hO3⟩, ?_⟩
  rintro _ ρ s ⟨i, rfl, hi, h0, h4, h5, h17, hs⟩
  have hct := hs.head
  have hcw := hs.get (b := s1.n) (o := .cells (wl ws) 119 true) (by simp)
  have hcS := hs.get (b := S) (o := .cells (wl h) 103 true) (by simp)
  have hck := hs.get (b := 0) (o := .cells (wl ks0) kt ok) (by simp [hK])
  have hvl := rndI_length (ks := ks0) (ws := ws) hl i
  have hvlt := rndI_lt (ks := ks0) (ws := ws) hh i
  by_cases him : i < 64
  · have e : rndI h ks0 ws (i + 1) = rnd (rndI h ks0 ws i) (ks0.getD i 0) (ws.getD i 0) := rfl
    obtain ⟨v0, v1, v2, v3, v4, v5, v6, v7, hv⟩ := list8 hvl
    rw [hv] at hct hvlt e hs
    have l0 : v0 < 4294967296 := hvlt _ (by simp)
    have l1 : v1 < 4294967296 := hvlt _ (by simp)
    have l2 : v2 < 4294967296 := hvlt _ (by simp)
    have l4 : v4 < 4294967296 := hvlt _ (by simp)
    have l5 : v5 < 4294967296 := hvlt _ (by simp)
    have l6 : v6 < 4294967296 := hvlt _ (by simp)
    have hgk := wl_get (l := ks0) (i := i) him
    have hgw := wl_get (l := ws) (i := i) (by omega)
    have hwv : wl [v0, v1, v2, v3, v4, v5, v6, v7] = [.int .u32 v0, .int .u32 v1, .int .u32 v2, .int .u32 v3, .int .u32 v4, .int .u32 v5, .int .u32 v6, .int .u32 v7] := rfl
    rw [hwv] at hct
    simp (config := { implicitDefEqProofs := false }) only [↓GP, ↓GM, GQ, abuiltinX, ↓awp_seq, ↓awp_block, C_ex, Nat.reduceBEq, acap, afieldAddr, aload, astore, abin, anum, astr, aun, isAggD, cond_true, cond_false, ↓reduceIte, C_P, C_G, isTuple, Value.cells, setL, ares, aresL, ares1, reduceCtorEq, Nat.reduceEqDiff, eq_self, Nat.reduceAdd, if_true, if_false, Go.Abs.one, Nat.reduceLeDiff, undef, gsl, aextract, aindexAddr, amake, implies_true, forall_const, alen, abuiltin, anil, isC, Int.reduceEq, Int.reduceLT, Int.reduceLE, Int.reduceAdd, Int.reduceToNat, Int.reduceNeg, Nat.reduceMul, Nat.reduceSub, abuild, afill, Int.reduceBNe, Int.reduceBEq, h0, h4, h5, h17, show (i : Int) < 64 by omega, decide_true]
    refine ADraw.of [(0, false, []), (1, false, []), (2, false, []), (3, false, []), (4, false, []), (5, false, [])] [] [] (by kernel_rfl) ?_
    simp (config := { implicitDefEqProofs := false }) only [↓GP, ↓GM, GQ, abuiltinX, ↓awp_seq, ↓awp_block, C_ex, Nat.reduceBEq, acap, afieldAddr, aload, astore, abin, anum, astr, aun, isAggD, cond_true, cond_false, ↓reduceIte, C_P, C_G, isTuple, Value.cells, setL, ares, aresL, ares1, reduceCtorEq, Nat.reduceEqDiff, eq_self, Nat.reduceAdd, if_true, if_false, Go.Abs.one, Nat.reduceLeDiff, undef, gsl, aextract, aindexAddr, amake, implies_true, forall_const, alen, abuiltin, anil, isC, Int.reduceEq, Int.reduceLT, Int.reduceLE, Int.reduceAdd, Int.reduceToNat, Int.reduceNeg, Nat.reduceMul, Nat.reduceSub, abuild, afill, Int.reduceBNe, Int.reduceBEq, h0, h4, h5, h17, hct, asz101, asz103, Tryd.underlying101, Tryd.underlying103]
    have x4 : 4294967295 ^^^ v4 < 4294967296 := xor_lt (by decide) l4
    refine ADraw.of [(0, false, []), (1, true, []), (2, false, []), (4, false, []), (7, false, []), (11, false, []), (12, false, []), (13, true, []), (14, false, []), (15, false, []), (16, false, []), (17, false, []), (18, true, []), (19, false, []), (20, false, []), (22, false, []), (23, false, []), (24, true, []), (26, false, []), (27, false, []), (28, true, []), (3, false, [1, 13, 18, 24, 28]), (5, false, [1, 13, 18, 24, 28]), (6, false, []), (8, false, [1, 13, 18, 24, 28]), (9, false, []), (10, false, []), (21, false, []), (25, false, []), (29, false, []), (30, false, [])] [1, 13, 18, 24, 28] [(1, 3), (1, 5), (1, 8), (13, 3), (13, 5), (13, 8), (18, 3), (18, 5), (18, 8), (24, 3), (24, 5), (24, 8), (28, 3), (28, 5), (28, 8)] (by kernel_rfl) ?_
    simp (config := { implicitDefEqProofs := false }) only [↓GP, ↓GM, GQ, abuiltinX, ↓awp_seq, ↓awp_block, C_ex, Nat.reduceBEq, acap, afieldAddr, aload, astore, abin, anum, astr, aun, isAggD, cond_true, cond_false, ↓reduceIte, C_P, C_G, isTuple, Value.cells, setL, ares, aresL, ares1, reduceCtorEq, Nat.reduceEqDiff, eq_self, Nat.reduceAdd, if_true, if_false, Go.Abs.one, Nat.reduceLeDiff, undef, gsl, aextract, aindexAddr, amake, implies_true, forall_const, alen, abuiltin, anil, isC, Int.reduceEq, Int.reduceLT, Int.reduceLE, Int.reduceAdd, Int.reduceToNat, Int.reduceNeg, Nat.reduceMul, Nat.reduceSub, abuild, afill, Int.reduceBNe, Int.reduceBEq, h0, h4, h5, h17, hct, asz101, asz103, asz119, Tryd.underlying101, Tryd.underlying103, Tryd.underlying119, ev_k, hck, hcw, hgk, hgw, xnot l4, bits_and32 l4 l5, bits_and32 x4 l6, bits_xor32 (and_lt l4 v5) (and_lt x4 v6)]
    refine ⟨by omega, by omega, ?_⟩
    refine rotl s _ 6 _ rfl l4 (by decide) (by decide +kernel) _ _ ?_
    simp (config := { implicitDefEqProofs := false }) only [↓GP, ↓GM, GQ, abuiltinX, ↓awp_seq, ↓awp_block, C_ex, Nat.reduceBEq, acap, afieldAddr, aload, astore, abin, anum, astr, aun, isAggD, cond_true, cond_false, ↓reduceIte, C_P, C_G, isTuple, Value.cells, setL, ares, aresL, ares1, reduceCtorEq, Nat.reduceEqDiff, eq_self, Nat.reduceAdd, if_true, if_false, Go.Abs.one, Nat.reduceLeDiff, undef, gsl, aextract, aindexAddr, amake, implies_true, forall_const, alen, abuiltin, anil, isC, Int.reduceEq, Int.reduceLT, Int.reduceLE, Int.reduceAdd, Int.reduceToNat, Int.reduceNeg, Nat.reduceMul, Nat.reduceSub, abuild, afill, Int.reduceBNe, Int.reduceBEq, h0, h4, h5, h17, hct, asz101, asz103, asz119, Tryd.underlying101, Tryd.underlying103, Tryd.underlying119, ev_k, hck, hcw, hgk, hgw]
    refine rotl s _ 11 _ rfl l4 (by decide) (by decide +kernel) _ _ ?_
    simp (config := { implicitDefEqProofs := false }) only [↓GP, ↓GM, GQ, abuiltinX, ↓awp_seq, ↓awp_block, C_ex, Nat.reduceBEq, acap, afieldAddr, aload, astore, abin, anum, astr, aun, isAggD, cond_true, cond_false, ↓reduceIte, C_P, C_G, isTuple, Value.cells, setL, ares, aresL, ares1, reduceCtorEq, Nat.reduceEqDiff, eq_self, Nat.reduceAdd, if_true, if_false, Go.Abs.one, Nat.reduceLeDiff, undef, gsl, aextract, aindexAddr, amake, implies_true, forall_const, alen, abuiltin, anil, isC, Int.reduceEq, Int.reduceLT, Int.reduceLE, Int.reduceAdd, Int.reduceToNat, Int.reduceNeg, Nat.reduceMul, Nat.reduceSub, abuild, afill, Int.reduceBNe, Int.reduceBEq, h0, h4, h5, h17, hct, asz101, asz103, asz119, Tryd.underlying101, Tryd.underlying103, Tryd.underlying119, ev_k, hck, hcw, hgk, hgw]
    refine rotl s _ 25 _ rfl l4 (by decide) (by decide +kernel) _ _ ?_
    simp (config := { implicitDefEqProofs := false }) only [↓GP, ↓GM, GQ, abuiltinX, ↓awp_seq, ↓awp_block, C_ex, Nat.reduceBEq, acap, afieldAddr, aload, astore, abin, anum, astr, aun, isAggD, cond_true, cond_false, ↓reduceIte, C_P, C_G, isTuple, Value.cells, setL, ares, aresL, ares1, reduceCtorEq, Nat.reduceEqDiff, eq_self, Nat.reduceAdd, if_true, if_false, Go.Abs.one, Nat.reduceLeDiff, undef, gsl, aextract, aindexAddr, amake, implies_true, forall_const, alen, abuiltin, anil, isC, Int.reduceEq, Int.reduceLT, Int.reduceLE, Int.reduceAdd, Int.reduceToNat, Int.reduceNeg, Nat.reduceMul, Nat.reduceSub, abuild, afill, Int.reduceBNe, Int.reduceBEq, h0, h4, h5, h17, hct, asz101, asz103, asz119, Tryd.underlying101, Tryd.underlying103, Tryd.underlying119, ev_k, hck, hcw, hgk, hgw, bits_xor32 (rotN_lt l4 6) (rotN_lt l4 11), bits_xor32 (xor_lt (rotN_lt l4 6) (rotN_lt l4 11)) (rotN_lt l4 25), w_ad]
    refine ADraw.of [(0, false, []), (2, false, []), (5, false, []), (8, false, []), (9, false, []), (10, true, []), (11, false, []), (12, false, []), (13, false, []), (14, true, []), (15, false, []), (16, false, []), (17, false, []), (18, true, []), (19, false, []), (20, true, []), (21, false, []), (22, false, []), (1, false, [10, 14, 18, 20]), (3, false, [10, 14, 18, 20]), (4, false, []), (6, false, [10, 14, 18, 20]), (7, false, []), (23, false, []), (24, false, [])] [10, 14, 18, 20] [(10, 1), (10, 3), (10, 6), (14, 1), (14, 3), (14, 6), (18, 1), (18, 3), (18, 6), (20, 1), (20, 3), (20, 6)] (by kernel_rfl) ?_
    simp (config := { implicitDefEqProofs := false }) only [↓GP, ↓GM, GQ, abuiltinX, ↓awp_seq, ↓awp_block, C_ex, Nat.reduceBEq, acap, afieldAddr, aload, astore, abin, anum, astr, aun, isAggD, cond_true, cond_false, ↓reduceIte, C_P, C_G, isTuple, Value.cells, setL, ares, aresL, ares1, reduceCtorEq, Nat.reduceEqDiff, eq_self, Nat.reduceAdd, if_true, if_false, Go.Abs.one, Nat.reduceLeDiff, undef, gsl, aextract, aindexAddr, amake, implies_true, forall_const, alen, abuiltin, anil, isC, Int.reduceEq, Int.reduceLT, Int.reduceLE, Int.reduceAdd, Int.reduceToNat, Int.reduceNeg, Nat.reduceMul, Nat.reduceSub, abuild, afill, Int.reduceBNe, Int.reduceBEq, h0, h4, h5, h17, hct, asz101, asz103, asz119, Tryd.underlying101, Tryd.underlying103, Tryd.underlying119, ev_k, hck, hcw, hgk, hgw, bits_and32 l0 l1, bits_and32 l0 l2, bits_and32 l1 l2, bits_xor32 (and_lt l0 v1) (and_lt l0 v2), bits_xor32 (xor_lt (and_lt l0 v1) (and_lt l0 v2)) (and_lt l1 v2)]
    refine rotl s _ 2 _ rfl l0 (by decide) (by decide +kernel) _ _ ?_
    simp (config := { implicitDefEqProofs := false }) only [↓GP, ↓GM, GQ, abuiltinX, ↓awp_seq, ↓awp_block, C_ex, Nat.reduceBEq, acap, afieldAddr, aload, astore, abin, anum, astr, aun, isAggD, cond_true, cond_false, ↓reduceIte, C_P, C_G, isTuple, Value.cells, setL, ares, aresL, ares1, reduceCtorEq, Nat.reduceEqDiff, eq_self, Nat.reduceAdd, if_true, if_false, Go.Abs.one, Nat.reduceLeDiff, undef, gsl, aextract, aindexAddr, amake, implies_true, forall_const, alen, abuiltin, anil, isC, Int.reduceEq, Int.reduceLT, Int.reduceLE, Int.reduceAdd, Int.reduceToNat, Int.reduceNeg, Nat.reduceMul, Nat.reduceSub, abuild, afill, Int.reduceBNe, Int.reduceBEq, h0, h4, h5, h17, hct, asz101, asz103, asz119, Tryd.underlying101, Tryd.underlying103, Tryd.underlying119, ev_k, hck, hcw, hgk, hgw]
    refine rotl s _ 13 _ rfl l0 (by decide) (by decide +kernel) _ _ ?_
    simp (config := { implicitDefEqProofs := false }) only [↓GP, ↓GM, GQ, abuiltinX, ↓awp_seq, ↓awp_block, C_ex, Nat.reduceBEq, acap, afieldAddr, aload, astore, abin, anum, astr, aun, isAggD, cond_true, cond_false, ↓reduceIte, C_P, C_G, isTuple, Value.cells, setL, ares, aresL, ares1, reduceCtorEq, Nat.reduceEqDiff, eq_self, Nat.reduceAdd, if_true, if_false, Go.Abs.one, Nat.reduceLeDiff, undef, gsl, aextract, aindexAddr, amake, implies_true, forall_const, alen, abuiltin, anil, isC, Int.reduceEq, Int.reduceLT, Int.reduceLE, Int.reduceAdd, Int.reduceToNat, Int.reduceNeg, Nat.reduceMul, Nat.reduceSub, abuild, afill, Int.reduceBNe, Int.reduceBEq, h0, h4, h5, h17, hct, asz101, asz103, asz119, Tryd.underlying101, Tryd.underlying103, Tryd.underlying119, ev_k, hck, hcw, hgk, hgw]
    refine rotl s _ 22 _ rfl l0 (by decide) (by decide +kernel) _ _ ?_
    simp (config := { implicitDefEqProofs := false }) only [↓GP, ↓GM, GQ, abuiltinX, ↓awp_seq, ↓awp_block, C_ex, Nat.reduceBEq, acap, afieldAddr, aload, astore, abin, anum, astr, aun, isAggD, cond_true, cond_false, ↓reduceIte, C_P, C_G, isTuple, Value.cells, setL, ares, aresL, ares1, reduceCtorEq, Nat.reduceEqDiff, eq_self, Nat.reduceAdd, if_true, if_false, Go.Abs.one, Nat.reduceLeDiff, undef, gsl, aextract, aindexAddr, amake, implies_true, forall_const, alen, abuiltin, anil, isC, Int.reduceEq, Int.reduceLT, Int.reduceLE, Int.reduceAdd, Int.reduceToNat, Int.reduceNeg, Nat.reduceMul, Nat.reduceSub, abuild, afill, Int.reduceBNe, Int.reduceBEq, h0, h4, h5, h17, hct, asz101, asz103, asz119, Tryd.underlying101, Tryd.underlying103, Tryd.underlying119, ev_k, hck, hcw, hgk, hgw, azc103, bits_xor32 (rotN_lt l0 2) (rotN_lt l0 13), bits_xor32 (xor_lt (rotN_lt l0 2) (rotN_lt l0 13)) (rotN_lt l0 22), w_ad]
    refine ⟨64 - (i + 1), by omega, i + 1, rfl, by omega, by rw [w_i64 (by omega)]; rfl, own_set_eq hs ?_⟩
    rw [e]
    simp only [rnd, t1N, t2N, sgA, chN, mjN, wl, List.map_cons, List.map_nil, List.getD_cons_zero, List.getD_cons_succ]
  · obtain rfl : i = 64 := by omega
    simp (config := { implicitDefEqProofs := false }) only [↓GP, ↓GM, GQ, abuiltinX, ↓awp_seq, ↓awp_block, C_ex, Nat.reduceBEq, acap, afieldAddr, aload, astore, abin, anum, astr, aun, isAggD, cond_true, cond_false, ↓reduceIte, C_P, C_G, isTuple, Value.cells, setL, ares, aresL, ares1, reduceCtorEq, Nat.reduceEqDiff, eq_self, Nat.reduceAdd, if_true, if_false, Go.Abs.one, Nat.reduceLeDiff, undef, gsl, aextract, aindexAddr, amake, implies_true, forall_const, alen, abuiltin, anil, isC, Int.reduceEq, Int.reduceLT, Int.reduceLE, Int.reduceAdd, Int.reduceToNat, Int.reduceNeg, Nat.reduceMul, Nat.reduceSub, abuild, afill, Int.reduceBNe, Int.reduceBEq, h0, h4, h5, h17, show ¬ ((64 : Nat) : Int) < 64 by decide, decide_false]
    refine ⟨fun q ρ s' => ∃ i : Nat, q = 8 - i ∧ i ≤ 8 ∧ ρ 0 = .pointer (some ⟨S, 0, none⟩) ∧ ρ 5 = .pointer (some ⟨s1.n + 1, 0, none⟩) ∧ ρ 99 = .int .i64 i ∧
      Own s' ((S, .cells (wl (haddI h (rndI h ks0 ws 64) i)) 103 true) :: (s1.n + 1, .cells (wl (rndI h ks0 ws 64)) 103 true) :: (s1.n, .cells (wl ws) 119 true) :: r), ⟨8, 0, rfl, by decide, h0, h5, rfl, ?_⟩, ?_⟩
    · exact hs.perm ((List.Perm.cons _ (List.Perm.swap _ _ _)).trans (List.Perm.swap _ _ _))
    rintro _ ρ s' ⟨i, rfl, hi, h0, h5, h99, hs'⟩
    have hcS := hs'.head
    have hct := hs'.get (b := s1.n + 1) (o := .cells (wl (rndI h ks0 ws 64)) 103 true) (by simp)
    have hal := haddI_length h (rndI h ks0 ws 64) i
    by_cases him : i < 8
    · have g1 := wl_get (l := haddI h (rndI h ks0 ws 64) i) (i := i) (by omega)
      have g2 := wl_get (l := rndI h ks0 ws 64) (i := i) (by omega)
      have hwl2 := wl_length (haddI h (rndI h ks0 ws 64) i)
      simp (config := { implicitDefEqProofs := false }) only [↓GP, ↓GM, GQ, abuiltinX, ↓awp_seq, ↓awp_block, C_ex, Nat.reduceBEq, acap, afieldAddr, aload, astore, abin, anum, astr, aun, isAggD, cond_true, cond_false, ↓reduceIte, C_P, C_G, isTuple, Value.cells, setL, ares, aresL, ares1, reduceCtorEq, Nat.reduceEqDiff, eq_self, Nat.reduceAdd, if_true, if_false, Go.Abs.one, Nat.reduceLeDiff, undef, gsl, aextract, aindexAddr, amake, implies_true, forall_const, alen, abuiltin, anil, isC, Int.reduceEq, Int.reduceLT, Int.reduceLE, Int.reduceAdd, Int.reduceToNat, Int.reduceNeg, Nat.reduceMul, Nat.reduceSub, abuild, afill, Int.reduceBNe, Int.reduceBEq, h0, h5, h99, show (i : Int) < 8 by omega, decide_true]
      refine ADraw.of [(0, false, []), (1, false, []), (2, false, []), (3, false, []), (4, false, []), (5, false, []), (6, false, []), (7, false, []), (8, false, []), (9, false, []), (10, false, []), (11, false, [])] [] [] (by kernel_rfl) ?_
      simp (config := { implicitDefEqProofs := false }) only [↓GP, ↓GM, GQ, abuiltinX, ↓awp_seq, ↓awp_block, C_ex, Nat.reduceBEq, acap, afieldAddr, aload, astore, abin, anum, astr, aun, isAggD, cond_true, cond_false, ↓reduceIte, C_P, C_G, isTuple, Value.cells, setL, ares, aresL, ares1, reduceCtorEq, Nat.reduceEqDiff, eq_self, Nat.reduceAdd, if_true, if_false, Go.Abs.one, Nat.reduceLeDiff, undef, gsl, aextract, aindexAddr, amake, implies_true, forall_const, alen, abuiltin, anil, isC, Int.reduceEq, Int.reduceLT, Int.reduceLE, Int.reduceAdd, Int.reduceToNat, Int.reduceNeg, Nat.reduceMul, Nat.reduceSub, abuild, afill, Int.reduceBNe, Int.reduceBEq, h0, h5, h99, hcS, hct, g1, g2, asz101, asz103, Tryd.underlying101, Tryd.underlying103, w_ad, wl_set]
      exact ⟨by omega, by omega, by omega, by omega, 8 - (i + 1), by omega, i + 1, rfl, by omega, by rw [w_i64 (by omega)]; rfl, own_set_eq hs' (by rw [haddI])⟩
    · obtain rfl : i = 8 := by omega
      simp (config := { implicitDefEqProofs := false }) only [↓GP, ↓GM, GQ, abuiltinX, ↓awp_seq, ↓awp_block, C_ex, Nat.reduceBEq, acap, afieldAddr, aload, astore, abin, anum, astr, aun, isAggD, cond_true, cond_false, ↓reduceIte, C_P, C_G, isTuple, Value.cells, setL, ares, aresL, ares1, reduceCtorEq, Nat.reduceEqDiff, eq_self, Nat.reduceAdd, if_true, if_false, Go.Abs.one, Nat.reduceLeDiff, undef, gsl, aextract, aindexAddr, amake, implies_true, forall_const, alen, abuiltin, anil, isC, Int.reduceEq, Int.reduceLT, Int.reduceLE, Int.reduceAdd, Int.reduceToNat, Int.reduceNeg, Nat.reduceMul, Nat.reduceSub, abuild, afill, Int.reduceBNe, Int.reduceBEq, h0, h5, h99, show ¬ ((8 : Nat) : Int) < 8 by decide, decide_false]
      refine hk _ _ ?_
      rw [blk, hws]
      exact hs'.sub (List.Sublist.cons_cons _ ((List.sublist_cons_self _ _).trans (List.sublist_cons_self _ _)))
end Go.Proofs.YthohmdkibkompaaDoor
set_option linter.unusedVariables false
set_option linter.unusedSimpArgs false
namespace Go.Proofs.YthohmdkibkompaaDoor
open Go Go.Abs Go.RowKit
variable {base : Nat} {w0 : World} {G : Nat}

theorem aappend_zeros {P : Program} {st : St} {t t' e : TypeId} {n b m : Nat} {z : List Value} {k : IntKind} (hu : P.underlying t = some (.slice e)) (hi : isIntD (P.underlying t') = some true) (hn : asz P e = some (n + 1)) (hz : azc P e = some z) (hb : abytes P e = some (b + 1))
    (hm : m ≠ 0) (hlim : m * (b + 1) ≤ 140737488355328) :
    aappend P st #[t, t'] (.slice none 0 0) (.int k (m : Int)) = some (.slice (some ⟨st.n, 0, some 0⟩) m m, st.new (.cells (zeros z m) e true)) := by
  have hm2 : m ≤ 140737488355328 := Nat.le_trans (Nat.le_mul_of_pos_right _ (by omega)) hlim
  have hpos : 0 < m := by omega
  simp [aappend, aappZ, isZ, fits, hm, hu, hi, aopen, agrown, hn, hz, hb, asrcT, hpos, hlim, show (m : Int) ≤ 140737488355328 by omega]
set_option maxRecDepth 10000 in
theorem Grow_spec (st : St) (r : Hp) (n : Nat) (hn : n ≤ 1000000) (hO : Own st r) (k q : Value → St → Prop)
    (hk : ∀ v hg st', GVx v [] 0 1 5 hg → Own st' (hg ++ r) → k v st') :
    ACall (C base w0 G) 65 [.slice none 0 0, .int .i64 n] st k q := by
  refine ACall.of (cx := C base w0 G) mixed Tryd.func65 rfl (by kernel_rfl) (by simp [Tryd.ntmps65]) ?_
  simp only [Tryd.results65]
  have hw : IntKind.i64.wrap ((n : Int) - IntKind.i64.wrap (0 - 0)) = (n : Int) := by rw [w_i64 (x := (0 : Int) - 0) (by omega), w_i64 (by omega)]; omega
  by_cases h0 : n = 0
  · subst h0
    simp (config := { implicitDefEqProofs := false }) only [↓GP, ↓GM, GQ, abuiltinX, ↓awp_seq, ↓awp_block, C_ex, Nat.reduceBEq, acap, afieldAddr, aload, astore, abin, anum, astr, aun, isAggD, cond_true, cond_false, ↓reduceIte, C_P, C_G, isTuple, Value.cells, setL, ares, aresL, ares1, reduceCtorEq, Nat.reduceEqDiff, eq_self, Nat.reduceAdd, if_true, if_false, Go.Abs.one, Nat.reduceLeDiff, undef, gsl, aextract, aindexAddr, amake, implies_true, forall_const, alen, abuiltin, anil, isC, Int.reduceEq, Int.reduceLT, Int.reduceLE, Int.reduceAdd, Int.reduceToNat, Int.reduceNeg, Nat.reduceMul, Nat.reduceSub, abuild, afill, Int.reduceBNe, Int.reduceBEq, Tryd.underlying38, Tryd.underlying3, hw]
    exact ⟨fun h => absurd h (by decide), fun _ => hk _ [] _ .nil hO⟩
  · simp (config := { implicitDefEqProofs := false }) only [↓GP, ↓GM, GQ, abuiltinX, ↓awp_seq, ↓awp_block, C_ex, Nat.reduceBEq, acap, afieldAddr, aload, astore, abin, anum, astr, aun, isAggD, cond_true, cond_false, ↓reduceIte, C_P, C_G, isTuple, Value.cells, setL, ares, aresL, ares1, reduceCtorEq, Nat.reduceEqDiff, eq_self, Nat.reduceAdd, if_true, if_false, Go.Abs.one, Nat.reduceLeDiff, undef, gsl, aextract, aindexAddr, amake, implies_true, forall_const, alen, abuiltin, anil, isC, Int.reduceEq, Int.reduceLT, Int.reduceLE, Int.reduceAdd, Int.reduceToNat, Int.reduceNeg, Nat.reduceMul, Nat.reduceSub, abuild, afill, Int.reduceBNe, Int.reduceBEq, Tryd.underlying38, Tryd.underlying3, hw, show ¬ (n : Int) < 0 by omega, show (n : Int) > 0 by omega, decide_true, decide_false, aslice, abounds, bnd, asz5]
    rw [aappend_zeros Tryd.underlying38 (by rw [Tryd.underlying3]; rfl) asz5 azc5 aby5 h0 (by omega)]
    have hnew := new_at (st := st) (.cells (zeros [.int .u8 0] n) 5 true)
    have hsl : aslice Tryd.prog (st.new (.cells (zeros [.int .u8 0] n) 5 true)) 38 (.slice (some ⟨st.n, 0, some 0⟩) n n) none (some (.int .i64 0)) none = some (.slice (some ⟨st.n, 0, some 0⟩) 0 n) :=
      (aslice_of (sp := 0) (lo := none) (hi := some (.int .i64 (0 : Nat))) Tryd.underlying38 asz5 (openOK_open hnew asz5) (abounds_hi (Nat.zero_le n))).trans (by simp)
    simp (config := { implicitDefEqProofs := false }) only [↓GP, ↓GM, GQ, abuiltinX, ↓awp_seq, ↓awp_block, C_ex, Nat.reduceBEq, acap, afieldAddr, aload, astore, abin, anum, astr, aun, isAggD, cond_true, cond_false, ↓reduceIte, C_P, C_G, isTuple, Value.cells, setL, ares, aresL, ares1, reduceCtorEq, Nat.reduceEqDiff, eq_self, Nat.reduceAdd, if_true, if_false, Go.Abs.one, Nat.reduceLeDiff, undef, gsl, aextract, aindexAddr, amake, implies_true, forall_const, alen, abuiltin, anil, isC, Int.reduceEq, Int.reduceLT, Int.reduceLE, Int.reduceAdd, Int.reduceToNat, Int.reduceNeg, Nat.reduceMul, Nat.reduceSub, abuild, afill, Int.reduceBNe, Int.reduceBEq, Tryd.underlying38, Tryd.underlying3, hsl]
    exact hk _ [(st.n, .cells (zeros [.int .u8 0] n) 5 true)] _ (.inr (.inr ⟨st.n, n, _, rfl, rfl, by simp [cut]⟩)) (hO.new _)

set_option maxRecDepth 10000 in
theorem Concat_spec (st : St) (r : Hp) (v : Value) (ps : List (Value × List Nat)) (hv : Ps r v ps) (hn : (flat ps).length ≤ 100000) (hl : ps.length ≤ 100000) (hO : Own st r) (k q : Value → St → Prop)
    (hk : ∀ v hg st', GVx v (nl (flat ps)) (flat ps).length 1 5 hg → Own st' (hg ++ r) → k v st') :
    ACall (C base w0 G) 52 [v] st k q := by
  obtain ⟨a, c, hvs⟩ : ∃ a c, v = .slice a ps.length c := by
    obtain ⟨a, c, h, _⟩ := hv.1.isSlice
    rw [List.length_map] at h
    exact ⟨a, c, h⟩
  refine ACall.of (cx := C base w0 G) mixed Tryd.func52 rfl (by kernel_rfl) (by simp [Tryd.ntmps52]) ?_
  simp only [Tryd.results52]
  simp (config := { implicitDefEqProofs := false }) only [↓GP, ↓GM, GQ, abuiltinX, ↓awp_seq, ↓awp_block, C_ex, Nat.reduceBEq, acap, afieldAddr, aload, astore, abin, anum, astr, aun, isAggD, cond_true, cond_false, ↓reduceIte, C_P, C_G, isTuple, Value.cells, setL, ares, aresL, ares1, reduceCtorEq, Nat.reduceEqDiff, eq_self, Nat.reduceAdd, if_true, if_false, Go.Abs.one, Nat.reduceLeDiff, undef, gsl, aextract, aindexAddr, amake, implies_true, forall_const, alen, abuiltin, anil, isC, Int.reduceEq, Int.reduceLT, Int.reduceLE, Int.reduceAdd, Int.reduceToNat, Int.reduceNeg, Nat.reduceMul, Nat.reduceSub, abuild, afill, Int.reduceBNe, Int.reduceBEq, hvs, Tryd.underlying88]
  refine ⟨fun m ρ s => ∃ i : Nat, m = ps.length - i ∧ i ≤ ps.length ∧ ρ 0 = v ∧ ρ 3 = .int .i64 (flat (ps.take i)).length ∧ ρ 9 = v ∧ ρ 10 = .int .i64 ps.length ∧ ρ 11 = .int .i64 i ∧ s = st, ⟨_, 0, rfl, Nat.zero_le _, hvs.symm, rfl, hvs.symm, rfl, rfl, rfl⟩, ?_⟩
  rintro m ρ s ⟨i, rfl, hi, h0, h3, h9, h10, h11, rfl⟩
  have hle := flat_le ps i
  by_cases him : i < ps.length
  · obtain ⟨x, o, sp, c', cs, ty, own, hvx, hmem, hget⟩ := hv.at hO (by intro e; rw [e] at him; simp at him)
    have hp : ps[i]? = some ps[i] := List.getElem?_eq_getElem him
    generalize ps[i] = p at hp
    have hg := hget i p hp
    have hle1 := flat_le ps (i + 1)
    have hft := flat_take ps i p hp
    have hcs := hO.get hmem
    obtain ⟨ap, cp, hps⟩ := (hv.2 p (List.mem_of_getElem? hp)).isSlice
    rw [hft, List.length_append] at hle1
    have hw : IntKind.i64.wrap (((flat (ps.take i)).length : Int) + (p.2.length : Int)) = ((flat (ps.take (i + 1))).length : Int) := by
      rw [w_i64 (by omega), hft, List.length_append]; omega
    simp (config := { implicitDefEqProofs := false }) only [↓GP, ↓GM, GQ, abuiltinX, ↓awp_seq, ↓awp_block, C_ex, Nat.reduceBEq, acap, afieldAddr, aload, astore, abin, anum, astr, aun, isAggD, cond_true, cond_false, ↓reduceIte, C_P, C_G, isTuple, Value.cells, setL, ares, aresL, ares1, reduceCtorEq, Nat.reduceEqDiff, eq_self, Nat.reduceAdd, if_true, if_false, Go.Abs.one, Nat.reduceLeDiff, undef, gsl, aextract, aindexAddr, amake, implies_true, forall_const, alen, abuiltin, anil, isC, Int.reduceEq, Int.reduceLT, Int.reduceLE, Int.reduceAdd, Int.reduceToNat, Int.reduceNeg, Nat.reduceMul, Nat.reduceSub, abuild, afill, Int.reduceBNe, Int.reduceBEq, h0, h3, h9, h10, h11, him, hvx, Int.ofNat_lt, decide_true, Tryd.underlying88, Tryd.underlying38, Tryd.underlying3, asz38, hcs, hg, hps, hw, show ¬ ((flat (ps.take (i + 1))).length : Int) < 0 by omega, decide_false]
    exact ⟨by omega, ps.length - (i + 1), by omega, i + 1, rfl, by omega, rfl, by rw [w_i64 (by omega)]; rfl⟩
  · obtain rfl : i = ps.length := by omega
    rw [List.take_length] at h3 hle
    simp (config := { implicitDefEqProofs := false }) only [↓GP, ↓GM, GQ, abuiltinX, ↓awp_seq, ↓awp_block, C_ex, Nat.reduceBEq, acap, afieldAddr, aload, astore, abin, anum, astr, aun, isAggD, cond_true, cond_false, ↓reduceIte, C_P, C_G, isTuple, Value.cells, setL, ares, aresL, ares1, reduceCtorEq, Nat.reduceEqDiff, eq_self, Nat.reduceAdd, if_true, if_false, Go.Abs.one, Nat.reduceLeDiff, undef, gsl, aextract, aindexAddr, amake, implies_true, forall_const, alen, abuiltin, anil, isC, Int.reduceEq, Int.reduceLT, Int.reduceLE, Int.reduceAdd, Int.reduceToNat, Int.reduceNeg, Nat.reduceMul, Nat.reduceSub, abuild, afill, Int.reduceBNe, Int.reduceBEq, h0, h3, h9, h10, h11, Nat.lt_irrefl, Int.ofNat_lt, decide_false]
    refine ACallF.enter Tryd.func65 rfl (by kernel_rfl) (Grow_spec s r _ (by omega) hO _ _ fun vg hg sg hG hOg => ?_)
    simp (config := { implicitDefEqProofs := false }) only [↓GP, ↓GM, GQ, abuiltinX, ↓awp_seq, ↓awp_block, C_ex, Nat.reduceBEq, acap, afieldAddr, aload, astore, abin, anum, astr, aun, isAggD, cond_true, cond_false, ↓reduceIte, C_P, C_G, isTuple, Value.cells, setL, ares, aresL, ares1, reduceCtorEq, Nat.reduceEqDiff, eq_self, Nat.reduceAdd, if_true, if_false, Go.Abs.one, Nat.reduceLeDiff, undef, gsl, aextract, aindexAddr, amake, implies_true, forall_const, alen, abuiltin, anil, isC, Int.reduceEq, Int.reduceLT, Int.reduceLE, Int.reduceAdd, Int.reduceToNat, Int.reduceNeg, Nat.reduceMul, Nat.reduceSub, abuild, afill, Int.reduceBNe, Int.reduceBEq, h0, hvs, Tryd.underlying88]
    refine ⟨fun m ρ s => ∃ (i : Nat) (vg : Value) (hg : Hp), m = ps.length - i ∧ i ≤ ps.length ∧ ρ 6 = vg ∧ ρ 25 = v ∧ ρ 26 = .int .i64 ps.length ∧ ρ 27 = .int .i64 i ∧ GVx vg (nl (flat (ps.take i))) (flat (ps.take i)).length 1 5 hg ∧ Own s (hg ++ r), ⟨_, 0, vg, hg, rfl, Nat.zero_le _, rfl, hvs.symm, rfl, rfl, hG, hOg⟩, ?_⟩
    rintro m ρ s ⟨i, vg, hg, rfl, hi, h6, h25, h26, h27, hG, hO⟩
    have hle := flat_le ps i
    by_cases him : i < ps.length
    · obtain ⟨x, o, sp, c', cs, ty, own, hvx, hmem, hget⟩ := (hv.sub (fun e he => List.mem_append_right hg he)).at hO (by intro e; rw [e] at him; simp at him)
      have hp : ps[i]? = some ps[i] := List.getElem?_eq_getElem him
      generalize ps[i] = p at hp
      have hgp := hget i p hp
      have hle1 := flat_le ps (i + 1)
      have hft := flat_take ps i p hp
      have hcs := hO.get hmem
      have hsrc := ((hv.2 p (List.mem_of_getElem? hp)).sub (fun e he => List.mem_append_right hg he)).src hO
      rw [hft, List.length_append] at hle1
      simp (config := { implicitDefEqProofs := false }) only [↓GP, ↓GM, GQ, abuiltinX, ↓awp_seq, ↓awp_block, C_ex, Nat.reduceBEq, acap, afieldAddr, aload, astore, abin, anum, astr, aun, isAggD, cond_true, cond_false, ↓reduceIte, C_P, C_G, isTuple, Value.cells, setL, ares, aresL, ares1, reduceCtorEq, Nat.reduceEqDiff, eq_self, Nat.reduceAdd, if_true, if_false, Go.Abs.one, Nat.reduceLeDiff, undef, gsl, aextract, aindexAddr, amake, implies_true, forall_const, alen, abuiltin, anil, isC, Int.reduceEq, Int.reduceLT, Int.reduceLE, Int.reduceAdd, Int.reduceToNat, Int.reduceNeg, Nat.reduceMul, Nat.reduceSub, abuild, afill, Int.reduceBNe, Int.reduceBEq, h6, h25, h26, h27, him, hvx, Int.ofNat_lt, decide_true, Tryd.underlying88, asz38, Tryd.underlying38, hcs, hgp]
      refine ⟨by omega, ?_⟩
      refine GVx.append Tryd.underlying38 (by rw [Tryd.underlying38]; rfl) asz5 azc5 aby5 hG hO hsrc (by rw [nl_length, Nat.mul_one]) (nl_one _) (by omega) fun v' hg' s' hG' hs' => ?_
      simp (config := { implicitDefEqProofs := false }) only [↓GP, ↓GM, GQ, abuiltinX, ↓awp_seq, ↓awp_block, C_ex, Nat.reduceBEq, acap, afieldAddr, aload, astore, abin, anum, astr, aun, isAggD, cond_true, cond_false, ↓reduceIte, C_P, C_G, isTuple, Value.cells, setL, ares, aresL, ares1, reduceCtorEq, Nat.reduceEqDiff, eq_self, Nat.reduceAdd, if_true, if_false, Go.Abs.one, Nat.reduceLeDiff, undef, gsl, aextract, aindexAddr, amake, implies_true, forall_const, alen, abuiltin, anil, isC, Int.reduceEq, Int.reduceLT, Int.reduceLE, Int.reduceAdd, Int.reduceToNat, Int.reduceNeg, Nat.reduceMul, Nat.reduceSub, abuild, afill, Int.reduceBNe, Int.reduceBEq, h25, h26, h27]
      refine ⟨ps.length - (i + 1), by omega, i + 1, v', hg', rfl, by omega, rfl, by rw [w_i64 (by omega)]; rfl, ?_, hs'⟩
      rw [hft, nl_append, List.length_append]
      exact hG'
    · obtain rfl : i = ps.length := by omega
      rw [List.take_length] at hG
      simp (config := { implicitDefEqProofs := false }) only [↓GP, ↓GM, GQ, abuiltinX, ↓awp_seq, ↓awp_block, C_ex, Nat.reduceBEq, acap, afieldAddr, aload, astore, abin, anum, astr, aun, isAggD, cond_true, cond_false, ↓reduceIte, C_P, C_G, isTuple, Value.cells, setL, ares, aresL, ares1, reduceCtorEq, Nat.reduceEqDiff, eq_self, Nat.reduceAdd, if_true, if_false, Go.Abs.one, Nat.reduceLeDiff, undef, gsl, aextract, aindexAddr, amake, implies_true, forall_const, alen, abuiltin, anil, isC, Int.reduceEq, Int.reduceLT, Int.reduceLE, Int.reduceAdd, Int.reduceToNat, Int.reduceNeg, Nat.reduceMul, Nat.reduceSub, abuild, afill, Int.reduceBNe, Int.reduceBEq, h6, h25, h26, h27, Nat.lt_irrefl, Int.ofNat_lt, decide_false]
      exact hk _ _ _ hG hO
end Go.Proofs.YthohmdkibkompaaDoor
