/- What append, copy and slices made of elements come to, for the walk. -/
import Derived.Test.YtohgmkjhbacmpaaGreatDoorAbsO
set_option linter.unusedVariables false
set_option linter.unusedSimpArgs false
namespace Go.Abs
open Go.RowKit
section
variable {P : Program} {st : St} {t t' e : TypeId} {n b m len cap B off : Nat} {z cs Cs old : List Value} {x : Value}

theorem abuildSlice_none (hu : P.underlying t = some (.slice e)) (hn : asz P e = some n) (hz : azc P e = some z) :
    abuildSlice P st t 0 [] = some (.slice (some ⟨st.n, 0, none⟩) 0 0, st.new (.cells [] e true)) := by
  simp [abuildSlice, hu, hn, hz, afill, zeros]
theorem abuildSlice_one {v : Value} (hu : P.underlying t = some (.slice e)) (hn : asz P e = some n) (hz : azc P e = some z) (hl : z.length = n) (hv : isTuple v = false) (hs : v.cells.size = n) (hlim : n ≤ 16777216) :
    abuildSlice P st t 1 [(0, v)] = some (.slice (some ⟨st.n, 0, none⟩) 1 1, st.new (.cells v.cells.toList e true)) := by
  have h1 : zeros z 1 = z := by simp [zeros]
  have h2 : setL z 0 v.cells.toList = v.cells.toList := setL_all _ _ (by simp [hl, hs])
  simp [abuildSlice, hu, hn, hz, afill, h1, hv, hs, hl, hlim, h2]
theorem aappend_nil (hu : P.underlying t = some (.slice e)) (hi : isIntD (P.underlying t') = some false) (hn : asz P e = some (n + 1)) (hz : azc P e = some z) (hb : abytes P e = some (b + 1))
    (hs : asrc st (n + 1) x = some (m, Cs)) (ho : Cs.all one = true) (hm : m ≠ 0) (hlim : m * (b + 1) ≤ 140737488355328) :
    aappend P st #[t, t'] (.slice none 0 0) x = some (.slice (some ⟨st.n, 0, some 0⟩) m m, st.new (.cells Cs e true)) := by
  simp [aappend, hu, hi, hn, hz, hb, hs, ho, hm, hlim]
theorem aappend_nil0 (hu : P.underlying t = some (.slice e)) (hi : isIntD (P.underlying t') = some false) (hn : asz P e = some (n + 1)) (hz : azc P e = some z) (hb : abytes P e = some (b + 1))
    (hs : asrc st (n + 1) x = some (0, Cs)) (ho : Cs.all one = true) :
    aappend P st #[t, t'] (.slice none 0 0) x = some (.slice none 0 0, st) := by
  simp [aappend, hu, hi, hn, hz, hb, hs, ho]
theorem aappend_grow {ty : TypeId} {own : Bool} (hu : P.underlying t = some (.slice e)) (hi : isIntD (P.underlying t') = some false) (hn : asz P e = some (n + 1)) (hz : azc P e = some z) (hb : abytes P e = some (b + 1))
    (hs : asrc st (n + 1) x = some (m, Cs)) (ho : Cs.all one = true) (hB : st.H B = some (.cells cs ty own)) (hm : cap < len + m) (hc : cut cs off (len * (n + 1)) = some old) (hlim : (len + m) * (b + 1) ≤ 140737488355328) :
    aappend P st #[t, t'] (.slice (some ⟨B, off, none⟩) len cap) x = some (.slice (some ⟨st.n, 0, some 0⟩) (len + m) (len + m), st.new (.cells (old ++ Cs) e true)) := by
  simp [aappend, hu, hi, hn, hz, hb, hs, ho, hB, show ¬ (len + m ≤ cap) by omega, hc, hlim]
theorem aappend_fit {ty : TypeId} (hu : P.underlying t = some (.slice e)) (hi : isIntD (P.underlying t') = some false) (hn : asz P e = some (n + 1)) (hz : azc P e = some z) (hb : abytes P e = some (b + 1))
    (hs : asrc st (n + 1) x = some (m, Cs)) (ho : Cs.all one = true) (hB : st.H B = some (.cells cs ty true)) (hm : len + m ≤ cap) (hc : off + (len + m) * (n + 1) ≤ cs.length) :
    aappend P st #[t, t'] (.slice (some ⟨B, off, none⟩) len cap) x = some (.slice (some ⟨B, off, none⟩) (len + m) cap, st.set B (some (.cells (setL cs (off + len * (n + 1)) Cs) ty true))) := by
  simp [aappend, hu, hi, hn, hz, hb, hs, ho, hB, hm, hc]
theorem aappend_open (hu : P.underlying t = some (.slice e)) (hi : isIntD (P.underlying t') = some false) (hn : asz P e = some (n + 1)) (hz : azc P e = some z) (hb : abytes P e = some (b + 1))
    (hs : asrc st (n + 1) x = some (m, Cs)) (ho : Cs.all one = true) (hB : st.H B = some (.cells cs e true)) (hc : cut cs off (len * (n + 1)) = some old) (hlim : (len + m) * (b + 1) ≤ 140737488355328) (hal : off % (n + 1) = 0 := by exact Nat.zero_mod _) :
    aappend P st #[t, t'] (.slice (some ⟨B, off, some 0⟩) len cap) x = some (.slice (some ⟨st.n, 0, some 0⟩) (len + m) (len + m), (st.set B none).new (.cells (old ++ Cs) e true)) := by
  simp [aappend, hu, hi, hn, hz, hb, hs, ho, hB, hc, hlim, hal]
theorem asrc_one {c : Nat} {sp : Option Nat} {n : Nat} {ty : TypeId} {own : Bool} (hB : st.H B = some (.cells cs ty own)) (hl : cs.length = n) : asrc st n (.slice (some ⟨B, 0, sp⟩) 1 c) = some (1, cs) := by
  subst hl
  simp [asrc, acut, hB, cut]
theorem asrc_whole {c : Nat} {sp : Option Nat} {n : Nat} {ty : TypeId} {own : Bool} (hB : st.H B = some (.cells cs ty own)) (hl : cs.length = m * n) : asrc st n (.slice (some ⟨B, 0, sp⟩) m c) = some (m, cs) := by
  simp [asrc, acut, hB, cut, ← hl]
theorem acopy_of {L c : Nat} {sp : Option Nat} {ty : TypeId} (hu : P.underlying t = some (.slice e)) (hn : asz P e = some n) (hs : asrc st n x = some (m, Cs)) (ho : Cs.all one = true) (hB : st.H B = some (.cells cs ty true)) (hl : off + L * n ≤ cs.length) :
    acopy P st #[t, t'] (.slice (some ⟨B, off, sp⟩) L c) x = some (.int .i64 (Nat.min m L : Nat), st.set B (some (.cells (setL cs off (Cs.take (Nat.min m L * n))) ty true))) := by
  simp [acopy, hu, hn, hs, hB, hl, ho]
theorem abounds_hi {len cap hi : Nat} (h : hi ≤ cap) : abounds len cap none (some (.int .i64 hi)) none = some (0, hi, cap) := by
  simp [abounds, bnd, h]
theorem abounds_lo {len cap lo : Nat} (h : lo ≤ len) (h2 : len ≤ cap) : abounds len cap (some (.int .i64 lo)) none none = some (lo, len, cap) := by
  simp [abounds, bnd, h, h2]
theorem abounds_lohi {len cap lo hi : Nat} (h : lo ≤ hi) (h2 : hi ≤ cap) : abounds len cap (some (.int .i64 lo)) (some (.int .i64 hi)) none = some (lo, hi, cap) := by
  simp [abounds, bnd, h, h2]
theorem abounds_no {len cap : Nat} (h2 : len ≤ cap) : abounds len cap none none none = some (0, len, cap) := by
  simp [abounds, bnd, h2]
theorem aslice_exact {l h k : Nat} {lo hi : Option Value} (hu : P.underlying t = some (.slice e)) (hn : asz P e = some n) (hb : abounds len cap lo hi none = some (l, h, k)) :
    aslice P st t (.slice (some ⟨B, off, none⟩) len cap) lo hi none = some (.slice (some ⟨B, off + l * n, none⟩) (h - l) (k - l)) := by
  simp [aslice, hu, hn, hb]
theorem aslice_of {sp : Nat} {l h k : Nat} {lo hi : Option Value} (hu : P.underlying t = some (.slice e)) (hn : asz P e = some n) (ho : openOK P st B off cap n (some sp) = true) (hb : abounds len cap lo hi none = some (l, h, k)) :
    aslice P st t (.slice (some ⟨B, off, some sp⟩) len cap) lo hi none = some (.slice (some ⟨B, off + l * n, some 0⟩) (h - l) (k - l)) := by
  simp [aslice, hu, hn, ho, hb]
theorem openOK_open {ty : TypeId} (hB : st.H B = some (.cells cs ty true)) (hn : asz P ty = some n) : openOK P st B off cap n (some 0) = true := by
  simp [openOK, hB, hn]
theorem openOK_whole {ty : TypeId} {sp : Option Nat} (hB : st.H B = some (.cells cs ty true)) (hn : asz P ty = some n) (h : off + cap * n ≤ cs.length) : openOK P st B off cap n sp = true := by
  simp [openOK, hB, hn, h]
theorem openOK_low {ty : TypeId} {sp : Option Nat} (hB : st.H B = some (.cells cs ty false)) : openOK P st B off cap n sp = true := by
  simp [openOK, hB]
end
end Go.Abs
