/- What a digest is, as numbers: for the program and for the reference alike. No conditions. -/
import Derived.Test.YtjkmcnhofpnoeaaDoorE11
set_option linter.unusedVariables false
set_option linter.unusedSimpArgs false
namespace Go.Proofs.YtjkmcnhofpnoeaaDoor
open Go Go.Abs Go.RowKit

def ad (a b : Nat) : Nat := (a + b) % 4294967296
def sgA (x a b c : Nat) : Nat := (rotN x a ^^^ rotN x b) ^^^ rotN x c
def sgB (x a b c : Nat) : Nat := (rotN x a ^^^ rotN x b) ^^^ lowN x c
def chN (e f g : Nat) : Nat := (e &&& f) ^^^ ((4294967295 ^^^ e) &&& g)
def mjN (a b c : Nat) : Nat := ((a &&& b) ^^^ (a &&& c)) ^^^ (b &&& c)
def t1N (v : List Nat) (k w : Nat) : Nat := ad (ad (ad (ad (v.getD 7 0) (sgA (v.getD 4 0) 6 11 25)) (chN (v.getD 4 0) (v.getD 5 0) (v.getD 6 0))) k) w
def t2N (v : List Nat) : Nat := ad (sgA (v.getD 0 0) 2 13 22) (mjN (v.getD 0 0) (v.getD 1 0) (v.getD 2 0))
def rnd (v : List Nat) (k w : Nat) : List Nat := [ad (t1N v k w) (t2N v), v.getD 0 0, v.getD 1 0, v.getD 2 0, ad (v.getD 3 0) (t1N v k w), v.getD 4 0, v.getD 5 0, v.getD 6 0]
def rndI (h ks ws : List Nat) : Nat → List Nat
  | 0 => h
  | i + 1 => rnd (rndI h ks ws i) (ks.getD i 0) (ws.getD i 0)
def word (m : List Nat) (o : Nat) : Nat := ((m.getD o 0 * 256 + m.getD (o + 1) 0) * 256 + m.getD (o + 2) 0) * 256 + m.getD (o + 3) 0
def wnext (w : List Nat) (i : Nat) : Nat := ad (ad (ad (sgB (w.getD (i - 2) 0) 17 19 10) (w.getD (i - 7) 0)) (sgB (w.getD (i - 15) 0) 7 18 3)) (w.getD (i - 16) 0)
def wsN (m : List Nat) (o : Nat) : Nat → List Nat
  | 0 => []
  | i + 1 => wsN m o i ++ [bif Nat.blt i 16 then word m (o + 4 * i) else wnext (wsN m o i) i]
def haddI (h v : List Nat) : Nat → List Nat
  | 0 => h
  | i + 1 => (haddI h v i).set i (ad ((haddI h v i).getD i 0) (v.getD i 0))
def blk (h m : List Nat) (o : Nat) : List Nat := haddI h (rndI h ks0 (wsN m o 64) 64) 8
def hsN (m : List Nat) : Nat → List Nat
  | 0 => hs0
  | j + 1 => blk (hsN m j) m (64 * j)
def out4 (x : Nat) : List Nat := [x / 16777216 % 256, x / 65536 % 256, x / 256 % 256, x % 256]
def outN (h : List Nat) : Nat → List Nat
  | 0 => []
  | i + 1 => outN h i ++ out4 (h.getD i 0)
def tailN (n : Nat) : Nat → List Nat
  | 0 => []
  | i + 1 => tailN (n / 256) i ++ [n % 256]
/-- How many zeros: until so many are there but for 8. -/
def zn (n : Nat) : Nat := (119 - (n + 1) % 64) % 64 + 0
def padN (l : List Nat) : List Nat := l ++ [128] ++ List.replicate ((120 - (l.length + 1) % 64) % 64) 0 ++ tailN (l.length * 8 % 18446744073709551616) 8
def digest (l : List Nat) : List Nat := outN (hsN (padN l) ((padN l).length / 64)) 8
theorem digest_abc : digest [97, 98, 99] = [0xba, 0x78, 0x16, 0xbf, 0x8f, 0x01, 0xcf, 0xea, 0x41, 0x41, 0x40, 0xde, 0x5d, 0xae, 0x22, 0x23, 0xb0, 0x03, 0x61, 0xa3, 0x96, 0x17, 0x7a, 0x9c, 0xb4, 0x10, 0xff, 0x61, 0xf2, 0x00, 0x15, 0xad] := by decide +kernel
end Go.Proofs.YtjkmcnhofpnoeaaDoor
