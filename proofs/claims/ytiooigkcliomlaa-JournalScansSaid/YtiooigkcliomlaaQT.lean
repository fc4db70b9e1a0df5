/- JournalTorn answers true for every input, and leaves what came in as it was. No conditions. -/
import Derived.Test.YtiooigkcliomlaaQE
import Derived.Test.YtiooigkcliomlaaAbsL
set_option linter.unusedVariables false
set_option linter.unusedSimpArgs false
namespace Go.Proofs.Ytiooigkcliomlaa
open Go Go.Abs Go.RowKit Go.ChangeShapes

theorem own : ownKnob Try.prog.godebug = none := by kernel_rfl
theorem laidOut : laidOutB Try.prog = true := by kernel_rfl
theorem fit_nb {w : World} {n : Nat} {cs : List Value} (h : Fit Try.prog (st0 w) n 23 cs) : ∃ v l, cs = [v] ∧ Nb (foreign w) v l ∧ l.length ≤ maxLen := by
  obtain ⟨v, l, rfl, hb, hl, hr⟩ := fit_bytes' Try.underlying23 Try.underlying5 (by kernel_rfl) h
  refine ⟨v, l.map Int.toNat, rfl, ⟨?_, fun d hd => ?_⟩, by rw [List.length_map]; exact hl⟩
  · have : (l.map Int.toNat).map (fun n : Nat => (n : Int)) = l := by
      rw [List.map_map]
      conv => rhs; rw [← List.map_id l]
      apply List.map_congr_left
      intro x hx
      have := hr x hx
      simp; omega
    rw [this]
    exact hb
  · obtain ⟨x, hx, rfl⟩ := List.mem_map.1 hd
    have := hr x hx
    omega
theorem fit_nb1 {w : World} {v : Value} (h : ArgFit Try.prog (st0 w) 23 v) : ∃ l, Nb (foreign w) v l ∧ l.length ≤ maxLen := by
  obtain ⟨n, h⟩ := h
  rw [Try.underlying23] at h
  obtain ⟨v', l, e, hb⟩ := fit_nb h
  injection e with e _
  subst e
  exact ⟨l, hb⟩
theorem fit_ps {w : World} {v : Value} (h : ArgFit Try.prog (st0 w) 22 v) : ∃ ps, Ps (foreign w) v ps ∧ ps.length ≤ maxLen ∧ ∀ p ∈ ps, p.2.length ≤ maxLen := by
  obtain ⟨n, h⟩ := h
  rw [Try.underlying22] at h
  obtain ⟨v', xs, e, hr, hlen, m, hf⟩ := fit_slice' (sz := 0) Try.underlying22 (by kernel_rfl) h
  injection e with e _
  subst e
  have : ∃ ps : List (Value × List Nat), xs = ps.map (fun p => [p.1]) ∧ ∀ p ∈ ps, Nb (foreign w) p.1 p.2 ∧ p.2.length ≤ maxLen := by
    clear hr hlen
    induction xs with
    | nil => exact ⟨[], rfl, fun p hp => by simp at hp⟩
    | cons x xs ih =>
      obtain ⟨ps, e1, e2⟩ := ih fun y hy => hf y (List.mem_cons_of_mem _ hy)
      obtain ⟨u, l, rfl, hb⟩ := fit_nb (hf x (List.mem_cons_self ..))
      refine ⟨(u, l) :: ps, by rw [e1]; rfl, fun p hp => ?_⟩
      rcases List.mem_cons.1 hp with rfl | hp
      · exact hb
      · exact e2 p hp
  obtain ⟨ps, rfl, hp⟩ := this
  exact ⟨ps, ⟨hr, fun p h => (hp p h).1⟩, by simpa using hlen, fun p h => (hp p h).2⟩
theorem fit_cut {w : World} {v : Value} (h : ArgFit Try.prog (st0 w) 24 v) : ∃ a b c, v = .agg #[.int .i64 a, .int .i64 b, .int .i64 c] := by
  obtain ⟨n, h⟩ := h
  rw [Try.underlying24] at h
  obtain ⟨cs, rfl, hf⟩ := h
  obtain ⟨hl, m, hf⟩ := fit_array' Try.underlying24 hf
  have hlen : cs.toList.length = 3 := hl.trans (by kernel_rfl)
  have c3 : Try.prog.cellsOf 3 = 1 := by kernel_rfl
  obtain ⟨l⟩ := cs
  match l, hlen with
  | [x, y, z], _ =>
    have f0 := hf 0 (by decide)
    have f1 := hf 1 (by decide)
    have f2 := hf 2 (by decide)
    rw [c3] at f0 f1 f2
    obtain ⟨a, ha, _⟩ := fit_int' Try.underlying3 f0
    obtain ⟨b, hb, _⟩ := fit_int' Try.underlying3 f1
    obtain ⟨c, hc, _⟩ := fit_int' Try.underlying3 f2
    have ha' : x = .int .i64 a := (List.cons.inj (show [x] = [.int .i64 a] from ha)).1
    have hb' : y = .int .i64 b := (List.cons.inj (show [y] = [.int .i64 b] from hb)).1
    have hc' : z = .int .i64 c := (List.cons.inj (show [z] = [.int .i64 c] from hc)).1
    exact ⟨a, b, c, by rw [ha', hb', hc']⟩
set_option maxRecDepth 100000 in
theorem torn_lifted (os : Os) (started : os.Started) (H : Type) (enc : TypeId × Value → H) :
    ReturnsInHanded {} Try.checked os 3 .any (Rows.journalTornSpec.pre6 enc Try.prog Try.f3 Rows.journalTornRow.domain false) (Rows.journalTornSpec.post enc Try.prog Try.f3 false true false false) := by
  refine law_lift (C := Try.checked) (G := 0) (ex := fun t => false) (tb := 4) own started (by kernel_rfl) Try.func3 laidOut (by kernel_rfl) (by kernel_rfl) Try.underlying4 rfl (fun ds hd => ?_)
    (ChangeSpec.witness6 (enc := enc) (C := Try.checked) false ⟨#[], #[.slice none 0 0, .slice none 0 0, .agg #[.int .i64 0, .int .i64 0, .int .i64 0]], []⟩ 8 (by kernel_rfl) (by kernel_rfl) (by kernel_rfl) (by kernel_rfl)) (fun W args hn hf _ => ⟨Nat.zero_le _, ?_⟩)
  · rw [Try.params3] at hd
    obtain ⟨a, b, c, rfl⟩ : ∃ a b c, ds = [a, b, c] := by
      match ds, hd with
      | [a, b, c], _ => exact ⟨a, b, c, rfl⟩
    rfl
  · rw [Try.params3] at hn hf
    obtain ⟨a, b, c, rfl⟩ : ∃ a b c, args = #[a, b, c] := by
      obtain ⟨l⟩ := args
      match l, hn with
      | [a, b, c], _ => exact ⟨a, b, c, rfl⟩
    obtain ⟨ps, hps, hpl, _⟩ := fit_ps (hf 0 22 a rfl rfl)
    obtain ⟨l, hl, hll⟩ := fit_nb1 (hf 1 23 b rfl rfl)
    obtain ⟨x, y, z, hc⟩ := fit_cut (hf 2 24 c rfl rfl)
    have hm : maxLen ≤ 9223372036854775807 := by decide
    simp only [List.map_cons, List.map_nil, hc]
    exact torn_spec _ _ _ _ ps l x y z (own_foreign W) hps hl (Nat.le_trans hpl hm) (Nat.le_trans hll hm) _ _ fun _ => rfl

theorem journalTorn_holds : Rows.JournalTornSaid :=
  OpenClaim.holds_of_wide 3 Try.f3 rfl rfl rfl rfl rfl rfl rfl ⟨rfl, rfl, rfl, rfl, rfl⟩ rfl rfl rfl rfl rfl (by kernel_rfl) Try.func3 (by kernel_rfl)
    (of_decide_eq_true (by kernel_rfl)) (by unfold Func.isWrapper; first | (rw [if_pos (by decide +kernel)]; kernel_rfl) | (rw [if_neg (by decide +kernel)]; exact ⟨rfl, rfl⟩))
    (fun os started H enc _ => torn_lifted os started H enc)
#print axioms journalTorn_holds
end Go.Proofs.Ytiooigkcliomlaa
