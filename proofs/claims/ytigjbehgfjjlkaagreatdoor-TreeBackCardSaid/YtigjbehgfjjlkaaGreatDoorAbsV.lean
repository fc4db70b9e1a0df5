/- A walk is cut in two: what holds between. -/
import Derived.Test.YtigjbehgfjjlkaaGreatDoorAbsR
set_option linter.unusedVariables false
set_option linter.unusedSimpArgs false
namespace Go.Abs
open Go.RowKit
section
variable {cx : Cx} {q : dz}
theorem wJ {ops : Array Oper} {Q Q' : Post} (h : ∀ e ρ st, Q e ρ st → Q' e ρ st) : ∀ (l : List Oper) {ρ : Env} {st : St}, aops cx ops l Q q ρ st → aops cx ops l Q' q ρ st
  | [], ρ, st, k => h _ _ _ k
  | o :: r, ρ, st, k => dV k (fun V s hk => wJ h r hk) fun V s hq => hq
theorem nT {n n' : Env → St → Prop} {Q Q' : Post} (hn : ∀ ρ st, n ρ st → n' ρ st) (h : ∀ e ρ st, Q e ρ st → Q' e ρ st) : ∀ e ρ st, oZ n Q e ρ st → oZ n' Q' e ρ st
  | .normal, ρ, st, k => hn _ _ k
  | .exit _, ρ, st, k => h _ _ _ k
  | .ret, ρ, st, k => h _ _ _ k
  | .goto _, ρ, st, k => h _ _ _ k
  | .panic _, ρ, st, k => h _ _ _ k
  | .outgrown, ρ, st, k => h _ _ _ k
theorem vY {i : Nat} {Q Q' : Post} (h : ∀ e ρ st, Q e ρ st → Q' e ρ st) : ∀ e ρ st, gP i Q e ρ st → gP i Q' e ρ st
  | .normal, ρ, st, k => h _ _ _ k
  | .exit j, ρ, st, k => by
    simp only [gP] at k ⊢
    split
    · rename_i e; rw [if_pos e] at k; exact h _ _ _ k
    · rename_i e; rw [if_neg e] at k; exact h _ _ _ k
  | .ret, ρ, st, k => h _ _ _ k
  | .goto _, ρ, st, k => h _ _ _ k
  | .panic _, ρ, st, k => h _ _ _ k
  | .outgrown, ρ, st, k => h _ _ _ k
theorem yN {v : Value} {x y x' y' : Prop} (hx : x → x') (hy : y → y') (h : bN v x y) : bN v x' y' := by
  unfold bN at *
  split at h
  · exact ⟨fun e => hx (h.1 e), fun e => hy (h.2 e)⟩
  · exact h.elim
theorem Ho : ∀ (c : Code) {Q Q' : Post}, (∀ e ρ st, Q e ρ st → Q' e ρ st) → ∀ {ρ : Env} {st : St}, awp cx c Q q ρ st → awp cx c Q' q ρ st := by
  intro c
  induction c with
  | region i ops d =>
    intro Q Q' h ρ st k
    cases d with
    | true =>
      obtain ⟨ks, un, hA⟩ := (show bG cx ops Q q ρ st from k)
      exact (show bG cx ops Q' q ρ st from ⟨ks, un, qI h _ _ _ _ _ hA⟩)
    | false => exact wJ h ops.toList (show aops cx ops ops.toList Q q ρ st from k)
  | seq x y ihx ihy => intro Q Q' h ρ st k; exact ihx (nT (fun ρ st hk => ihy h hk) h) k
  | cond v x y ihx ihy => intro Q Q' h ρ st k; exact yN (ihx h) (ihy h) k
  | block i c ih => intro Q Q' h ρ st k; exact ih (vY h) k
  | loop c ih =>
    intro Q Q' h ρ st k
    obtain ⟨I, h0, hr⟩ := (show tO (fun Q ρ st => awp cx c Q q ρ st) Q ρ st from k)
    exact (show tO (fun Q ρ st => awp cx c Q q ρ st) Q' ρ st from ⟨I, h0, fun n ρ st hI => ih (nT (fun ρ st hk => hk) h) (hr n ρ st hI)⟩)
  | skip => intro Q Q' h ρ st k; exact h _ _ _ k
  | exit i => intro Q Q' h ρ st k; exact h _ _ _ k
  | ret => intro Q Q' h ρ st k; exact h _ _ _ k
  | label l => intro Q Q' h ρ st k; exact h _ _ _ k
  | goto l => intro Q Q' h ρ st k; exact h _ _ _ k
  | rangeFunc g ps x y _ _ =>
    intro Q Q' h ρ st k
    have k' : jw cx (ev cx.G ρ g) ps x y Q q ρ st := k
    show jw cx (ev cx.G ρ g) ps x y Q' q ρ st
    unfold jw at *
    split at k'
    · refine ⟨k'.1, k'.2.mono (fun V st' hk => ?_) fun _ _ hq => hq⟩
      unfold aend at *
      split at hk
      · refine ⟨hk.1, ?_⟩
        have := hk.2
        unfold GA at *
        split at this
        all_goals first
          | exact h _ _ _ this
          | exact this.elim
      · exact hk.elim
    · exact k'.elim
  | _ => intros; rename_i k; exact (show False from k).elim
theorem Ep {x y : Code} {Q : Post} {ρ : Env} {st : St} (I : Env → St → Prop) (h1 : awp cx x (oZ I Q) q ρ st) (h2 : ∀ ρ st, I ρ st → awp cx y Q q ρ st) :
    awp cx (.seq x y) Q q ρ st := Ho x (nT h2 fun _ _ _ h => h) h1
end
def GV (v : Value) (cs : List Value) (n sz : Nat) (e : TypeId) (hg : Hp) : Prop := (v = .slice none 0 0 ∧ n = 0 ∧ cs = [] ∧ hg = []) ∨
  ∃ b, v = .slice (some ⟨b, 0, some 0⟩) n n ∧ hg = [(b, .cells cs e true)] ∧ cs.length = n * sz
theorem GV.nil {sz : Nat} {e : TypeId} : GV (.slice none 0 0) [] 0 sz e [] := .inl ⟨rfl, rfl, rfl, rfl⟩
theorem GV.isSlice {v : Value} {cs : List Value} {n sz : Nat} {e : TypeId} {hg : Hp} (h : GV v cs n sz e hg) : ∃ a, v = .slice a n n := by
  rcases h with ⟨rfl, rfl, rfl, rfl⟩ | ⟨b, rfl, rfl, _⟩
  · exact ⟨none, rfl⟩
  · exact ⟨_, rfl⟩
theorem GV.append {P : Program} {st : St} {t t' e : TypeId} {n sz b m : Nat} {z cs Cs : List Value} {x v : Value} {hg r : Hp} {f : Value → St → Prop}
    (hu : P.underlying t = some (.slice e)) (hi : bK (P.underlying t') = some false) (hn : asz P e = some (sz + 1)) (hz : azc P e = some z) (hb : bq P e = some (b + 1))
    (hG : GV v cs n (sz + 1) e hg) (hO : Own st (hg ++ r)) (hs : asrc st (sz + 1) x = some (m, Cs)) (hm : m ≠ 0) (hl : Cs.length = m * (sz + 1)) (ho : Cs.all one = true) (hlim : (n + m) * (b + 1) ≤ 140737488355328)
    (k : ∀ v' hg' st', GV v' (cs ++ Cs) (n + m) (sz + 1) e hg' → Own st' (hg' ++ r) → f v' st') : alet (bM P st #[t, t'] v x) (stop f .mk) := by
  rcases hG with ⟨rfl, rfl, rfl, rfl⟩ | ⟨B, rfl, rfl, hcl⟩
  · rw [rH hu hi hn hz hb hs ho hm (by simpa using hlim)]
    refine k _ [(st.n, .cells ([] ++ Cs) e true)] _ (.inr ⟨st.n, by simp, rfl, by simpa using hl⟩) ?_
    exact hO.new (.cells Cs e true)
  · have hcut : cut cs 0 (n * (sz + 1)) = some cs := by rw [← hcl]; exact iI cs
    rw [gQ hu hi hn hz hb hs ho hO.head hcut hlim]
    refine k _ [(st.n, .cells (cs ++ Cs) e true)] _ (.inr ⟨st.n, rfl, rfl, by rw [List.length_append, hcl, hl, Nat.add_mul]⟩) ?_
    exact (hO.kill rfl).new (.cells (cs ++ Cs) e true)
theorem GV.fC {P : Program} {st : St} {t t' e : TypeId} {n sz b : Nat} {z cs c : List Value} {v : Value} {hg r : Hp} {f : Value → St → Prop}
    (hu : P.underlying t = some (.slice e)) (hi : bK (P.underlying t') = some false) (hn : asz P e = some (sz + 1)) (hz : azc P e = some z) (hb : bq P e = some (b + 1))
    (hG : GV v cs n (sz + 1) e hg) (hO : Own st (hg ++ r)) (hl : c.length = sz + 1) (ho : c.all one = true) (hlim : (n + 1) * (b + 1) ≤ 140737488355328)
    (k : ∀ v' hg' st', GV v' (cs ++ c) (n + 1) (sz + 1) e hg' → Own st' (hg' ++ r) → f v' st') :
    alet (bM P (st.new (.cells c e true)) #[t, t'] v (.slice (some ⟨st.n, 0, none⟩) 1 1)) (stop f .mk) := by
  have hO2 : Own (st.new (.cells c e true)) (hg ++ ((st.n, .cells c e true) :: r)) := (hO.new (.cells c e true)).perm (aJ hg _ r).symm
  refine GV.append hu hi hn hz hb hG hO2 (Ap (CK _) hl) (by decide) (by rw [hl, Nat.one_mul]) ho hlim fun v' hg' st' h1 h2 => k v' hg' st' h1 ?_
  exact h2.sub (List.Sublist.append_left (List.sublist_cons_self _ r) hg')
def GVx (v : Value) (cs : List Value) (n sz : Nat) (e : TypeId) (hg : Hp) : Prop := (v = .slice none 0 0 ∧ n = 0 ∧ cs = [] ∧ hg = []) ∨
  (∃ b, v = .slice (some ⟨b, 0, none⟩) 0 0 ∧ n = 0 ∧ cs = [] ∧ hg = [(b, .cells [] e true)]) ∨
  ∃ b c D, v = .slice (some ⟨b, 0, some 0⟩) n c ∧ hg = [(b, .cells D e true)] ∧ cut D 0 (n * sz) = some cs
theorem GV.x {v : Value} {cs : List Value} {n sz : Nat} {e : TypeId} {hg : Hp} (h : GV v cs n sz e hg) : GVx v cs n sz e hg := by
  rcases h with h | ⟨b, h1, h2, h3⟩
  · exact .inl h
  · exact .inr (.inr ⟨b, n, cs, h1, h2, by rw [← h3]; exact iI cs⟩)
theorem GVx.nil {sz : Nat} {e : TypeId} : GVx (.slice none 0 0) [] 0 sz e [] := .inl ⟨rfl, rfl, rfl, rfl⟩
theorem GVx.empty {b sz : Nat} {e : TypeId} : GVx (.slice (some ⟨b, 0, none⟩) 0 0) [] 0 sz e [(b, .cells [] e true)] := .inr (.inl ⟨b, rfl, rfl, rfl, rfl⟩)
theorem GVx.isSlice {v : Value} {cs : List Value} {n sz : Nat} {e : TypeId} {hg : Hp} (h : GVx v cs n sz e hg) : ∃ a c, v = .slice a n c := by
  rcases h with ⟨rfl, rfl, rfl, rfl⟩ | ⟨b, rfl, rfl, rfl, rfl⟩ | ⟨b, c, D, rfl, rfl, _⟩
  · exact ⟨none, 0, rfl⟩
  · exact ⟨_, _, rfl⟩
  · exact ⟨_, _, rfl⟩
theorem GVx.o8 {P : Program} {st : St} {t t' e : TypeId} {n sz b m : Nat} {z cs Cs : List Value} {x v : Value} {hg r : Hp} {f : Value → St → Prop}
    (hu : P.underlying t = some (.slice e)) (hi : bK (P.underlying t') = some false) (hn : asz P e = some (sz + 1)) (hz : azc P e = some z) (hb : bq P e = some (b + 1))
    (hG : GVx v cs n (sz + 1) e hg) (hO : Own st (hg ++ r)) (hs : asrc st (sz + 1) x = some (m, Cs)) (hm : m ≠ 0) (hl : Cs.length = m * (sz + 1)) (ho : Cs.all one = true) (hlim : (n + m) * (b + 1) ≤ 140737488355328)
    (k : ∀ v' hg' st', GV v' (cs ++ Cs) (n + m) (sz + 1) e hg' → Own st' (hg' ++ r) → f v' st') : alet (bM P st #[t, t'] v x) (stop f .mk) := by
  rcases hG with ⟨rfl, rfl, rfl, rfl⟩ | ⟨B, rfl, rfl, rfl, rfl⟩ | ⟨B, c, D, rfl, rfl, hcl⟩
  · rw [rH hu hi hn hz hb hs ho hm (by simpa using hlim)]
    refine k _ [(st.n, .cells ([] ++ Cs) e true)] _ (.inr ⟨st.n, by simp, rfl, by simpa using hl⟩) ?_
    exact hO.new (.cells Cs e true)
  · rw [o7 (cs := []) (old := []) hu hi hn hz hb hs ho hO.head (by omega) (by simp [cut]) hlim]
    refine k _ [(st.n, .cells ([] ++ Cs) e true)] _ (.inr ⟨st.n, by simp, rfl, by simpa using hl⟩) ?_
    exact hO.tail.new (.cells ([] ++ Cs) e true)
  · rw [gQ hu hi hn hz hb hs ho hO.head hcl hlim]
    have hlen := (iK hcl).2.2
    refine k _ [(st.n, .cells (cs ++ Cs) e true)] _ (.inr ⟨st.n, rfl, rfl, by rw [List.length_append, hlen, hl, Nat.add_mul]⟩) ?_
    exact (hO.kill rfl).new (.cells (cs ++ Cs) e true)
theorem GVx.append {P : Program} {st : St} {t t' e : TypeId} {n sz b m : Nat} {z cs Cs : List Value} {x v : Value} {hg r : Hp} {f : Value → St → Prop}
    (hu : P.underlying t = some (.slice e)) (hi : bK (P.underlying t') = some false) (hn : asz P e = some (sz + 1)) (hz : azc P e = some z) (hb : bq P e = some (b + 1))
    (hG : GVx v cs n (sz + 1) e hg) (hO : Own st (hg ++ r)) (hs : asrc st (sz + 1) x = some (m, Cs)) (hl : Cs.length = m * (sz + 1)) (ho : Cs.all one = true) (hlim : (n + m) * (b + 1) ≤ 140737488355328)
    (k : ∀ v' hg' st', GVx v' (cs ++ Cs) (n + m) (sz + 1) e hg' → Own st' (hg' ++ r) → f v' st') : alet (bM P st #[t, t'] v x) (stop f .mk) := by
  by_cases hm : m = 0
  · subst hm
    have hC : Cs = [] := List.eq_nil_of_length_eq_zero (by simpa using hl)
    subst hC
    rcases hG with ⟨rfl, rfl, rfl, rfl⟩ | ⟨B, rfl, rfl, rfl, rfl⟩ | ⟨B, c, D, rfl, rfl, hcl⟩
    · rw [kY hu hi hn hz hb hs ho]
      exact k _ [] _ .nil hO
    · rw [rJ (cs := []) hu hi hn hz hb hs ho hO.head (by omega) (by simp), setL, set_self hO.head]
      exact k _ _ _ (.inr (.inl ⟨B, rfl, rfl, rfl, rfl⟩)) hO
    · rw [gQ hu hi hn hz hb hs ho hO.head hcl hlim]
      have hlen := (iK hcl).2.2
      refine k _ [(st.n, .cells (cs ++ []) e true)] _ (GV.x (.inr ⟨st.n, rfl, rfl, by simpa using hlen⟩)) ?_
      exact (hO.kill rfl).new (.cells (cs ++ []) e true)
  · exact GVx.o8 hu hi hn hz hb hG hO hs hm hl ho hlim fun v' hg' st' h1 h2 => k v' hg' st' h1.x h2
theorem GVx.fC {P : Program} {st : St} {t t' e : TypeId} {n sz b : Nat} {z cs c : List Value} {v : Value} {hg r : Hp} {f : Value → St → Prop}
    (hu : P.underlying t = some (.slice e)) (hi : bK (P.underlying t') = some false) (hn : asz P e = some (sz + 1)) (hz : azc P e = some z) (hb : bq P e = some (b + 1))
    (hG : GVx v cs n (sz + 1) e hg) (hO : Own st (hg ++ r)) (hl : c.length = sz + 1) (ho : c.all one = true) (hlim : (n + 1) * (b + 1) ≤ 140737488355328)
    (k : ∀ v' hg' st', GV v' (cs ++ c) (n + 1) (sz + 1) e hg' → Own st' (hg' ++ r) → f v' st') :
    alet (bM P (st.new (.cells c e true)) #[t, t'] v (.slice (some ⟨st.n, 0, none⟩) 1 1)) (stop f .mk) := by
  have hO2 : Own (st.new (.cells c e true)) (hg ++ ((st.n, .cells c e true) :: r)) := (hO.new (.cells c e true)).perm (aJ hg _ r).symm
  refine GVx.o8 hu hi hn hz hb hG hO2 (Ap (CK _) hl) (by decide) (by rw [hl, Nat.one_mul]) ho hlim fun v' hg' st' h1 h2 => k v' hg' st' h1 ?_
  exact h2.sub (List.Sublist.append_left (List.sublist_cons_self _ r) hg')
end Go.Abs
