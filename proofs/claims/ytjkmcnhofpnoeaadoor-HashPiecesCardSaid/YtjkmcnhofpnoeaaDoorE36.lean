/- HashPieces answers true over the abstract heap. No conditions. -/
import Derived.Test.YtjkmcnhofpnoeaaDoorE34
set_option linter.unusedVariables false
set_option linter.unusedSimpArgs false
namespace Go.Proofs.YtjkmcnhofpnoeaaDoor
open Go Go.Abs Go.RowKit
variable {base : Nat} {w0 : World} {G : Nat}

/-- A slice whose room is known: nothing, or so much. -/
def Exact (v : Value) (n : Nat) : Prop := v = .slice none 0 0 ∨ ∃ B o c, v = .slice (some ⟨B, o, none⟩) n c ∧ n ≤ c
theorem fit_exact {w : World} {v : Value} (h : ArgFit Tryd.prog (st0 w) 23 v) : ∀ a n c, v = .slice a n c → Exact v n := by
  obtain ⟨n, h⟩ := h
  rw [Tryd.underlying23] at h
  cases n with
  | zero => exact h.elim
  | succ n =>
    simp only at h
    unfold Fit at h
    rw [Tryd.underlying23] at h
    simp only at h
    rintro a m c rfl
    rcases h with h | h | ⟨B, off, len, cap, h, hl, _⟩
    · cases h
    · exact .inl (by simpa using h)
    · simp at h
      obtain ⟨rfl, rfl, rfl⟩ := h
      exact .inr ⟨B, off, _, rfl, hl⟩
theorem nb_parts {R : Hp} {v : Value} {b : List Nat} (hb : Nb R v b) (hx : Exact v b.length) {k : Nat} (hk : k ≤ b.length) :
    (∃ v1, (∀ st, aslice Tryd.prog st 23 v none (some (.int .i64 k)) none = some v1) ∧ Nb R v1 (b.take k)) ∧ ∃ v2, (∀ st, aslice Tryd.prog st 23 v (some (.int .i64 k)) none none = some v2) ∧ Nb R v2 (b.drop k) := by
  rcases hx with rfl | ⟨B, o, c, rfl, hc⟩
  · have hb0 : b = [] := by
      obtain ⟨a, c, e⟩ := hb.isSlice
      injection e with _ e _
      exact List.eq_nil_of_length_eq_zero e.symm
    subst hb0
    obtain rfl : k = 0 := by simpa using hk
    exact ⟨⟨.slice none 0 0, fun st => by simp [aslice, Tryd.underlying23, asz5, abounds, bnd], hb⟩, ⟨.slice none 0 0, fun st => by simp [aslice, Tryd.underlying23, asz5, abounds, bnd], hb⟩⟩
  · refine ⟨⟨.slice (some ⟨B, o, none⟩) k c, fun st => ?_, ?_, fun d hd => hb.2 d (List.mem_of_mem_take hd)⟩, ⟨.slice (some ⟨B, o + k, none⟩) (b.length - k) (c - k), fun st => ?_, ?_, fun d hd => hb.2 d (List.mem_of_mem_drop hd)⟩⟩
    · rw [aslice_exact Tryd.underlying23 asz5 (abounds_hi (by omega))]
      simp
    · by_cases h0 : k = 0
      · subst h0
        exact .inl ⟨rfl, .inr ⟨B, o, none, c, rfl⟩⟩
      · rcases hb.1 with ⟨h1, _⟩ | ⟨x, o', sp, c', cs, ty, own, h1, hm, hcut⟩
        · have : b.length = 0 := by simpa using h1
          omega
        · injection h1 with e1 e2 e3
          injection e1 with e1
          injection e1 with e4 e5 e6
          subst e4 e5
          refine .inr ⟨B, o, none, c, cs, ty, own, ?_, hm, ?_⟩
          · rw [List.length_map, List.length_take, Nat.min_eq_left hk]
          · rw [List.length_map] at hcut
            have hs := cut_spec hcut
            rw [List.length_map, List.length_take, Nat.min_eq_left hk, cut, if_pos (by omega), List.map_take, show bl ((b.map fun n : Nat => (n : Int)).take k) = (bl (b.map fun n : Nat => (n : Int))).take k by simp [bl, List.map_take], hs.2.1, List.take_take, Nat.min_eq_left hk]
    · rw [aslice_exact Tryd.underlying23 asz5 (abounds_lo hk hc)]
      simp
    · rcases hb.1 with ⟨h1, _⟩ | ⟨x, o', sp, c', cs, ty, own, h1, hm, hcut⟩
      · have h2 : b = [] := by simpa using h1
        subst h2
        exact .inl ⟨by simp, .inr ⟨B, o + k, none, c - k, by simp⟩⟩
      · injection h1 with e1 e2 e3
        injection e1 with e1
        injection e1 with e4 e5 e6
        subst e4 e5
        refine .inr ⟨B, o + k, none, c - k, cs, ty, own, by rw [List.length_map, List.length_drop], hm, ?_⟩
        rw [List.length_map] at hcut
        have hs := cut_spec hcut
        rw [List.length_map, List.length_drop, cut, if_pos (by omega), List.map_drop, show bl ((b.map fun n : Nat => (n : Int)).drop k) = (bl (b.map fun n : Nat => (n : Int))).drop k by simp [bl, List.map_drop], hs.2.1, List.drop_take, List.drop_drop]
def fPs (ps : List (Value × List Nat)) : Fact := ⟨fun h R V => h = [] ∧ Ps R V ps, fun _ _ _ _ hs hb => ⟨hb.1, hb.2.sub hs⟩⟩
theorem build3v {st : St} {u v x : Value} (hu : ∃ a n c, u = .slice a n c) (hv : ∃ a n c, v = .slice a n c) (hx : ∃ a n c, x = .slice a n c) : abuildSlice Tryd.prog st 22 3 [(0, u), (1, v), (2, x)] = some (.slice (some ⟨st.n, 0, none⟩) 3 3, st.new (.cells [u, v, x] 23 true)) := by
  obtain ⟨a, n, c, rfl⟩ := hu
  obtain ⟨a2, n2, c2, rfl⟩ := hv
  obtain ⟨a3, n3, c3, rfl⟩ := hx
  simp [abuildSlice, Tryd.underlying22, asz23, azc23, afill, zeros, isTuple, Value.cells, setL, List.replicate]
theorem ps3 {h : Hp} {b : Nat} {u v x : Value} {k l m : List Nat} (hm : (b, Ob.cells [u, v, x] 23 true) ∈ h) (hu : Nb h u k) (hv : Nb h v l) (hx : Nb h x m) : Ps h (.slice (some ⟨b, 0, none⟩) 3 3) [(u, k), (v, l), (x, m)] := Ps.of (ps := [(u, k), (v, l), (x, m)]) hm rfl fun p hp => by
  simp only [List.mem_cons, List.not_mem_nil, or_false] at hp
  rcases hp with rfl | rfl | rfl
  · exact hu
  · exact hv
  · exact hx
theorem mac_long {l b : List Nat} (h : 64 < l.length) : mac l b = mac (digest l) b := by
  have e1 : keyOf l = digest l := by rw [keyOf, show Nat.blt 64 l.length = true from Nat.ble_eq_true_of_le h, cond_true]
  have e2 : keyOf (digest l) = digest l := by
    have hb : Nat.blt 64 (digest l).length = false := by rw [digest_length]; rfl
    rw [keyOf, hb, cond_false]
  rw [mac, mac, e1, e2]
theorem nb_nil {R : Hp} : Nb R (.slice none 0 0) [] := ⟨.inl ⟨rfl, .inl rfl⟩, fun d hd => by simp at hd⟩
theorem append_room {st : St} {r : Hp} {B n : Nat} {l key : List Nat} {kv : Value} (hl : l.length = n) (hld : ∀ d ∈ l, d < 256) (hk : Nb r kv key) (hn : n ≤ 100000) (hkl : key.length ≤ 100000) (hO : Own st ((B, .cells (nl l) 5 true) :: r)) {f : Value → St → Prop}
    (k : ∀ v s' R', Own s' R' → (∀ e ∈ r, e ∈ R') → Nb R' v (l ++ key) → f v s') : alet (aappend Tryd.prog st #[23, 23] (.slice (some ⟨B, 0, none⟩) n n) kv) (stop f .mk) := by
  have hsrc := hk.src hO.tail
  have hd : ∀ d ∈ l ++ key, d < 256 := fun d hd => (List.mem_append.1 hd).elim (hld d) (hk.2 d)
  by_cases h0 : key.length = 0
  · have hk0 : key = [] := List.eq_nil_of_length_eq_zero h0
    subst hk0
    rw [aappend_fit Tryd.underlying23 (by rw [Tryd.underlying23]; rfl) asz5 azc5 aby5 hsrc (nl_one _) hO.head (by simp) (by rw [nl_length, hl]; simp), show nl ([] : List Nat) = [] from rfl, setL, set_self hO.head]
    refine k _ _ _ hO (fun e he => List.mem_cons_of_mem _ he) ?_
    rw [List.append_nil]
    have := nb_exact (b := B) (l := l) (sp := none) (c := n) (h := (B, Ob.cells (nl l) 5 true) :: r) (by simp) hld
    rw [hl] at this
    exact this
  · have hcut : cut (nl l) 0 (n * 1) = some (nl l) := by
      have := cut_all (nl l)
      rwa [nl_length, hl, ← Nat.mul_one n] at this
    rw [aappend_grow Tryd.underlying23 (by rw [Tryd.underlying23]; rfl) asz5 azc5 aby5 hsrc (nl_one _) hO.head (by omega) hcut (by omega), ← nl_append]
    refine k _ _ _ (hO.new (.cells (nl (l ++ key)) 5 true)) (fun e he => List.mem_cons_of_mem _ (List.mem_cons_of_mem _ he)) ?_
    have := nb_exact (b := st.n) (l := l ++ key) (sp := some 0) (c := n + key.length) (h := (st.n, Ob.cells (nl (l ++ key)) 5 true) :: (B, Ob.cells (nl l) 5 true) :: r) (by simp) hd
    rw [List.length_append, hl] at this
    exact this
end Go.Proofs.YtjkmcnhofpnoeaaDoor
