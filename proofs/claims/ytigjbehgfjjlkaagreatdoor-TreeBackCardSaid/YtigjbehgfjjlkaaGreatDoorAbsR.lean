/- What append, copy and slices made of elements come to, for the walk. -/
import Derived.Test.YtigjbehgfjjlkaaGreatDoorAbsO
set_option linter.unusedVariables false
set_option linter.unusedSimpArgs false
namespace Go.Abs
open Go.RowKit
section
variable {P : Program} {st : St} {t t' e : TypeId} {n b m len cap B off : Nat} {z cs Cs old : List Value} {x : Value}
theorem aI {v : Value} (hu : P.underlying t = some (.slice e)) (hn : asz P e = some n) (hz : azc P e = some z) (hl : z.length = n) (hv : isTuple v = false) (hs : v.cells.size = n) (hlim : n ≤ 16777216) :
    aL P st t 1 [(0, v)] = some (.slice (some ⟨st.n, 0, none⟩) 1 1, st.new (.cells v.cells.toList e true)) := by
  have h1 : zeros z 1 = z := by simp [zeros]
  have h2 : setL z 0 v.cells.toList = v.cells.toList := Hl _ _ (by simp [hl, hs])
  simp [aL, hu, hn, hz, jd, h1, hv, hs, hl, hlim, h2]
theorem rH (hu : P.underlying t = some (.slice e)) (hi : bK (P.underlying t') = some false) (hn : asz P e = some (n + 1)) (hz : azc P e = some z) (hb : bq P e = some (b + 1))
    (hs : asrc st (n + 1) x = some (m, Cs)) (ho : Cs.all one = true) (hm : m ≠ 0) (hlim : m * (b + 1) ≤ 140737488355328) :
    bM P st #[t, t'] (.slice none 0 0) x = some (.slice (some ⟨st.n, 0, some 0⟩) m m, st.new (.cells Cs e true)) := by
  simp [bM, hu, hi, hn, hz, hb, hs, ho, hm, hlim]
theorem kY (hu : P.underlying t = some (.slice e)) (hi : bK (P.underlying t') = some false) (hn : asz P e = some (n + 1)) (hz : azc P e = some z) (hb : bq P e = some (b + 1))
    (hs : asrc st (n + 1) x = some (0, Cs)) (ho : Cs.all one = true) :
    bM P st #[t, t'] (.slice none 0 0) x = some (.slice none 0 0, st) := by
  simp [bM, hu, hi, hn, hz, hb, hs, ho]
theorem o7 {ty : TypeId} {own : Bool} (hu : P.underlying t = some (.slice e)) (hi : bK (P.underlying t') = some false) (hn : asz P e = some (n + 1)) (hz : azc P e = some z) (hb : bq P e = some (b + 1))
    (hs : asrc st (n + 1) x = some (m, Cs)) (ho : Cs.all one = true) (hB : st.H B = some (.cells cs ty own)) (hm : cap < len + m) (hc : cut cs off (len * (n + 1)) = some old) (hlim : (len + m) * (b + 1) ≤ 140737488355328) :
    bM P st #[t, t'] (.slice (some ⟨B, off, none⟩) len cap) x = some (.slice (some ⟨st.n, 0, some 0⟩) (len + m) (len + m), st.new (.cells (old ++ Cs) e true)) := by
  simp [bM, hu, hi, hn, hz, hb, hs, ho, hB, show ¬ (len + m ≤ cap) by omega, hc, hlim]
theorem rJ {ty : TypeId} (hu : P.underlying t = some (.slice e)) (hi : bK (P.underlying t') = some false) (hn : asz P e = some (n + 1)) (hz : azc P e = some z) (hb : bq P e = some (b + 1))
    (hs : asrc st (n + 1) x = some (m, Cs)) (ho : Cs.all one = true) (hB : st.H B = some (.cells cs ty true)) (hm : len + m ≤ cap) (hc : off + (len + m) * (n + 1) ≤ cs.length) :
    bM P st #[t, t'] (.slice (some ⟨B, off, none⟩) len cap) x = some (.slice (some ⟨B, off, none⟩) (len + m) cap, st.set B (some (.cells (setL cs (off + len * (n + 1)) Cs) ty true))) := by
  simp [bM, hu, hi, hn, hz, hb, hs, ho, hB, hm, hc]
theorem gQ (hu : P.underlying t = some (.slice e)) (hi : bK (P.underlying t') = some false) (hn : asz P e = some (n + 1)) (hz : azc P e = some z) (hb : bq P e = some (b + 1))
    (hs : asrc st (n + 1) x = some (m, Cs)) (ho : Cs.all one = true) (hB : st.H B = some (.cells cs e true)) (hc : cut cs off (len * (n + 1)) = some old) (hlim : (len + m) * (b + 1) ≤ 140737488355328) (hal : off % (n + 1) = 0 := by exact Nat.zero_mod _) :
    bM P st #[t, t'] (.slice (some ⟨B, off, some 0⟩) len cap) x = some (.slice (some ⟨st.n, 0, some 0⟩) (len + m) (len + m), (st.set B none).new (.cells (old ++ Cs) e true)) := by
  simp [bM, hu, hi, hn, hz, hb, hs, ho, hB, hc, hlim, hal]
theorem Ap {c : Nat} {sp : Option Nat} {n : Nat} {ty : TypeId} {own : Bool} (hB : st.H B = some (.cells cs ty own)) (hl : cs.length = n) : asrc st n (.slice (some ⟨B, 0, sp⟩) 1 c) = some (1, cs) := by
  subst hl
  simp [asrc, acut, hB, cut]
theorem nS {len cap hi : Nat} (h : hi ≤ cap) : cB len cap none (some (.int .i64 hi)) none = some (0, hi, cap) := by
  simp [cB, bnd, h]
theorem tX {len cap lo : Nat} (h : lo ≤ len) (h2 : len ≤ cap) : cB len cap (some (.int .i64 lo)) none none = some (lo, len, cap) := by
  simp [cB, bnd, h, h2]
theorem yM {l h k : Nat} {lo hi : Option Value} (hu : P.underlying t = some (.slice e)) (hn : asz P e = some n) (hb : cB len cap lo hi none = some (l, h, k)) :
    aslice P st t (.slice (some ⟨B, off, none⟩) len cap) lo hi none = some (.slice (some ⟨B, off + l * n, none⟩) (h - l) (k - l)) := by
  simp [aslice, hu, hn, hb]
theorem qL {sp : Nat} {l h k : Nat} {lo hi : Option Value} (hu : P.underlying t = some (.slice e)) (hn : asz P e = some n) (ho : kS P st B off cap n (some sp) = true) (hb : cB len cap lo hi none = some (l, h, k)) :
    aslice P st t (.slice (some ⟨B, off, some sp⟩) len cap) lo hi none = some (.slice (some ⟨B, off + l * n, some 0⟩) (h - l) (k - l)) := by
  simp [aslice, hu, hn, ho, hb]
theorem mg {ty : TypeId} (hB : st.H B = some (.cells cs ty true)) (hn : asz P ty = some n) : kS P st B off cap n (some 0) = true := by
  simp [kS, hB, hn]
theorem CO {ty : TypeId} {sp : Option Nat} (hB : st.H B = some (.cells cs ty false)) : kS P st B off cap n sp = true := by
  simp [kS, hB]
end
end Go.Abs
