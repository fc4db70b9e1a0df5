/- What append, copy and slices made of elements come to, for the walk. -/
import Derived.Test.YtigjbehgfjjlkaaGreatDoorAbsO
set_option linter.unusedVariables false
set_option linter.unusedSimpArgs false
namespace Go.Abs
open Go.RowKit
section
variable {P : Program} {st : St} {t t' e : TypeId} {n b m len cap B off : Nat} {z cs Cs old : List Value} {x : Value}
theorem pz (hu : P.underlying t = some (.slice e)) (hn : asz P e = some n) (hz : azc P e = some z) :
    aP P st t 0 [] = some (.slice (some ⟨st.n, 0, none⟩) 0 0, st.new (.cells [] e true)) := by
  simp [aP, hu, hn, hz, iH, zeros]
theorem aK {v : Value} (hu : P.underlying t = some (.slice e)) (hn : asz P e = some n) (hz : azc P e = some z) (hl : z.length = n) (hv : isTuple v = false) (hs : v.cells.size = n) (hlim : n ≤ 16777216) :
    aP P st t 1 [(0, v)] = some (.slice (some ⟨st.n, 0, none⟩) 1 1, st.new (.cells v.cells.toList e true)) := by
  have h1 : zeros z 1 = z := by simp [zeros]
  have h2 : setL z 0 v.cells.toList = v.cells.toList := EM _ _ (by simp [hl, hs])
  simp [aP, hu, hn, hz, iH, h1, hv, hs, hl, hlim, h2]
theorem qo (hu : P.underlying t = some (.slice e)) (hi : bQ (P.underlying t') = some false) (hn : asz P e = some (n + 1)) (hz : azc P e = some z) (hb : bE P e = some (b + 1))
    (hs : asrc st (n + 1) x = some (m, Cs)) (ho : Cs.all one = true) (hm : m ≠ 0) (hlim : m * (b + 1) ≤ 140737488355328) :
    bR P st #[t, t'] (.slice none 0 0) x = some (.slice (some ⟨st.n, 0, some 0⟩) m m, st.new (.cells Cs e true)) := by
  simp [bR, hu, hi, hn, hz, hb, hs, ho, hm, hlim]
theorem kJ (hu : P.underlying t = some (.slice e)) (hi : bQ (P.underlying t') = some false) (hn : asz P e = some (n + 1)) (hz : azc P e = some z) (hb : bE P e = some (b + 1))
    (hs : asrc st (n + 1) x = some (0, Cs)) (ho : Cs.all one = true) :
    bR P st #[t, t'] (.slice none 0 0) x = some (.slice none 0 0, st) := by
  simp [bR, hu, hi, hn, hz, hb, hs, ho]
theorem nS {ty : TypeId} {own : Bool} (hu : P.underlying t = some (.slice e)) (hi : bQ (P.underlying t') = some false) (hn : asz P e = some (n + 1)) (hz : azc P e = some z) (hb : bE P e = some (b + 1))
    (hs : asrc st (n + 1) x = some (m, Cs)) (ho : Cs.all one = true) (hB : st.H B = some (.cells cs ty own)) (hm : cap < len + m) (hc : cut cs off (len * (n + 1)) = some old) (hlim : (len + m) * (b + 1) ≤ 140737488355328) :
    bR P st #[t, t'] (.slice (some ⟨B, off, none⟩) len cap) x = some (.slice (some ⟨st.n, 0, some 0⟩) (len + m) (len + m), st.new (.cells (old ++ Cs) e true)) := by
  simp [bR, hu, hi, hn, hz, hb, hs, ho, hB, show ¬ (len + m ≤ cap) by omega, hc, hlim]
theorem qw {ty : TypeId} (hu : P.underlying t = some (.slice e)) (hi : bQ (P.underlying t') = some false) (hn : asz P e = some (n + 1)) (hz : azc P e = some z) (hb : bE P e = some (b + 1))
    (hs : asrc st (n + 1) x = some (m, Cs)) (ho : Cs.all one = true) (hB : st.H B = some (.cells cs ty true)) (hm : len + m ≤ cap) (hc : off + (len + m) * (n + 1) ≤ cs.length) :
    bR P st #[t, t'] (.slice (some ⟨B, off, none⟩) len cap) x = some (.slice (some ⟨B, off, none⟩) (len + m) cap, st.set B (some (.cells (setL cs (off + len * (n + 1)) Cs) ty true))) := by
  simp [bR, hu, hi, hn, hz, hb, hs, ho, hB, hm, hc]
theorem gJ (hu : P.underlying t = some (.slice e)) (hi : bQ (P.underlying t') = some false) (hn : asz P e = some (n + 1)) (hz : azc P e = some z) (hb : bE P e = some (b + 1))
    (hs : asrc st (n + 1) x = some (m, Cs)) (ho : Cs.all one = true) (hB : st.H B = some (.cells cs e true)) (hc : cut cs off (len * (n + 1)) = some old) (hlim : (len + m) * (b + 1) ≤ 140737488355328) (hal : off % (n + 1) = 0 := by exact Nat.zero_mod _) :
    bR P st #[t, t'] (.slice (some ⟨B, off, some 0⟩) len cap) x = some (.slice (some ⟨st.n, 0, some 0⟩) (len + m) (len + m), (st.set B none).new (.cells (old ++ Cs) e true)) := by
  simp [bR, hu, hi, hn, hz, hb, hs, ho, hB, hc, hlim, hal]
theorem yT {c : Nat} {sp : Option Nat} {n : Nat} {ty : TypeId} {own : Bool} (hB : st.H B = some (.cells cs ty own)) (hl : cs.length = n) : asrc st n (.slice (some ⟨B, 0, sp⟩) 1 c) = some (1, cs) := by
  subst hl
  simp [asrc, acut, hB, cut]
theorem kK {len cap hi : Nat} (h : hi ≤ cap) : dD len cap none (some (.int .i64 hi)) none = some (0, hi, cap) := by
  simp [dD, bnd, h]
theorem mR {len cap lo : Nat} (h : lo ≤ len) (h2 : len ≤ cap) : dD len cap (some (.int .i64 lo)) none none = some (lo, len, cap) := by
  simp [dD, bnd, h, h2]
theorem wS {l h k : Nat} {lo hi : Option Value} (hu : P.underlying t = some (.slice e)) (hn : asz P e = some n) (hb : dD len cap lo hi none = some (l, h, k)) :
    aslice P st t (.slice (some ⟨B, off, none⟩) len cap) lo hi none = some (.slice (some ⟨B, off + l * n, none⟩) (h - l) (k - l)) := by
  simp [aslice, hu, hn, hb]
theorem jV {sp : Nat} {l h k : Nat} {lo hi : Option Value} (hu : P.underlying t = some (.slice e)) (hn : asz P e = some n) (ho : kD P st B off cap n (some sp) = true) (hb : dD len cap lo hi none = some (l, h, k)) :
    aslice P st t (.slice (some ⟨B, off, some sp⟩) len cap) lo hi none = some (.slice (some ⟨B, off + l * n, some 0⟩) (h - l) (k - l)) := by
  simp [aslice, hu, hn, ho, hb]
theorem iL {ty : TypeId} (hB : st.H B = some (.cells cs ty true)) (hn : asz P ty = some n) : kD P st B off cap n (some 0) = true := by
  simp [kD, hB, hn]
theorem AU {ty : TypeId} {sp : Option Nat} (hB : st.H B = some (.cells cs ty false)) : kD P st B off cap n sp = true := by
  simp [kD, hB]
end
end Go.Abs
