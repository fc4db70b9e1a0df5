/- Contracts of the library whose calls make a block, or sort a slice in place. -/
import Derived.Test.YtigjbehgfjjlkaaGreatDoorAbsI
import Derived.Test.YtigjbehgfjjlkaaGreatDoorAbsQ
import Derived.Maps.Own
import Derived.Sort.KeysCollected
import Derived.Laws.AppendOwn
set_option linter.unusedVariables false
set_option linter.unusedSimpArgs false
namespace Go.Abs
open Go.RowKit
theorem HR.grow {cx : Cx} {φ : Emb} {st : St} {w w' : World} (h : HR cx φ st w) (hb : Below w.heap.size w w') (o : Ob) (p : Pl) (hp : w.heap.size ≤ p.blk)
    (ho : ObR cx (φ.ins st.n p) p w' o) : HR cx (φ.ins st.n p) (st.new o) w' where
  below := h.below.trans (hb.mono h.size)
  size := Nat.le_trans h.size hb.size
  glob := h.glob
  ident := fun g hg => let ⟨q, a, b⟩ := h.ident g hg; ⟨q, h.fQ p _ _ a, b⟩
  dom := fun B q hq => by
    unfold Emb.ins at hq
    show B < st.n + 1
    split at hq
    · omega
    · exact Nat.lt_succ_of_lt (h.dom B q hq)
  live := fun B o' hB => by
    by_cases e : B = st.n
    · subst e
      simp [St.new] at hB
      subst hB
      exact ⟨p, by simp [Emb.ins], ho⟩
    · simp [St.new, e] at hB
      obtain ⟨q, hq, hoq⟩ := h.live B o' hB
      exact ⟨q, h.fQ p _ _ hq, hoq.mono (h.fQ p) (hb.block _ hoq.lt)⟩
  dis := fun B1 B2 o1 o2 p1 p2 hne h1 h2 k1 k2 q1 q2 => by
    by_cases e1 : B1 = st.n
    · have e2 : B2 ≠ st.n := fun e => hne (e1.trans e.symm)
      simp [St.new, e2] at h2
      simp [Emb.ins, e1] at q1
      simp [Emb.ins, e2] at q2
      obtain ⟨q, hq, hoq⟩ := h.live B2 o2 h2
      rw [hq] at q2; injection q2 with q2; subst q2 q1
      have := hoq.lt; omega
    · simp [St.new, e1] at h1
      simp [Emb.ins, e1] at q1
      by_cases e2 : B2 = st.n
      · simp [Emb.ins, e2] at q2
        obtain ⟨q, hq, hoq⟩ := h.live B1 o1 h1
        rw [hq] at q1; injection q1 with q1; subst q1 q2
        have := hoq.lt; omega
      · simp [St.new, e2] at h2
        simp [Emb.ins, e2] at q2
        exact h.dis B1 B2 o1 o2 p1 p2 hne h1 h2 k1 k2 q1 q2
  kept := fun d hd => ⟨(h.kept d hd).1, (hb.block _ (Array.getElem?_eq_some_iff.1 (h.kept d hd).2).1).trans (h.kept d hd).2⟩
abbrev b8 (a : List Nat) : List UInt8 := a.map UInt8.ofNat
theorem LW (a : List UInt8) : b8 (a.map UInt8.toNat) = a := by
  rw [b8, List.map_map, show (UInt8.ofNat ∘ UInt8.toNat) = id from funext fun x => by simp, List.map_id]
theorem Hu (a : List Nat) : (str a).data.toList = b8 a := by simp [str, b8]
end Go.Abs
