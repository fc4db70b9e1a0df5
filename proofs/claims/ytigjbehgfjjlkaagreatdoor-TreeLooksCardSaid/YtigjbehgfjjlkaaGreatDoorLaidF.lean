/- Trees that come in (plain). -/
import Derived.Test.YtigjbehgfjjlkaaGreatDoorLaidC
import Derived.Test.YtigjbehgfjjlkaaGreatDoorTrGA
set_option linter.unusedVariables false
set_option maxRecDepth 100000
namespace Go.Proofs.YtigjbehgfjjlkaaGreatDoor
open Go Go.Abs Go.RowKit Go.Xml
theorem fK {P : Program} {st : St} {t : TypeId} {n : Nat} {cs : List Value} (hu : P.underlying t = some .string) (h : Fit P st n t cs) : ∃ l : Tx, cs = [.string (tx l)] := by
  obtain ⟨m, h1, _⟩ := zZ hu h
  exact ⟨m.data.toList, by rw [Jh]; exact h1⟩
theorem GN {st : St} {n : Nat} {cs : List Value} (h : Fit Tryz.prog st n 59 cs) : ∃ a : Att, cs = attC a := by
  obtain ⟨hl, m, hf⟩ := iV Tryz.underlying59 h
  have hlen : cs.length = 4 := hl.trans (by kernel_rfl)
  have c9 : Tryz.prog.cellsOf 9 = 1 := by kernel_rfl
  match cs, hlen with
  | [v0, v1, v2, v3], _ =>
    simp only [List.mem_cons, List.not_mem_nil, or_false, forall_eq_or_imp, forall_eq, c9] at hf
    obtain ⟨f0, f1, f2, f3⟩ := hf
    obtain ⟨z0, e0⟩ := fK Tryz.underlying9 f0
    obtain ⟨z1, e1⟩ := fK Tryz.underlying9 f1
    obtain ⟨z2, e2⟩ := fK Tryz.underlying9 f2
    obtain ⟨z3, e3⟩ := fK Tryz.underlying9 f3
    simp at e0 e1 e2 e3
    subst e0 e1 e2 e3
    exact ⟨⟨z0, z1, z2, z3⟩, rfl⟩
theorem GR {st : St} {n : Nat} {cs : List Value} (h : Fit Tryz.prog st n 61 cs) : ∃ a : Dcl, cs = dclC a := by
  obtain ⟨hl, m, hf⟩ := iV Tryz.underlying61 h
  have hlen : cs.length = 2 := hl.trans (by kernel_rfl)
  have c9 : Tryz.prog.cellsOf 9 = 1 := by kernel_rfl
  match cs, hlen with
  | [v0, v1], _ =>
    simp only [List.mem_cons, List.not_mem_nil, or_false, forall_eq_or_imp, forall_eq, c9] at hf
    obtain ⟨f0, f1⟩ := hf
    obtain ⟨z0, e0⟩ := fK Tryz.underlying9 f0
    obtain ⟨z1, e1⟩ := fK Tryz.underlying9 f1
    simp at e0 e1
    subst e0 e1
    exact ⟨⟨z0, z1⟩, rfl⟩
theorem xV {α : Type} {f : α → List Value} {xs : List (List Value)} (h : ∀ x ∈ xs, ∃ a, x = f a) : ∃ l : List α, xs = l.map f := by
  induction xs with
  | nil => exact ⟨[], rfl⟩
  | cons x xs ih =>
    obtain ⟨a, rfl⟩ := h x (List.mem_cons_self ..)
    obtain ⟨l, rfl⟩ := ih fun y hy => h y (List.mem_cons_of_mem _ hy)
    exact ⟨a :: l, rfl⟩
theorem FQ {w : World} {n : Nat} {cs : List Value} (h : Fit Tryz.prog (st0 w) n 55 cs) : ∃ (n : Nx) (kv av dv : Value), cs = ndX n kv av dv ∧ NdX (foreign w) n kv av dv := by
  obtain ⟨hl, m, hf⟩ := iV Tryz.underlying55 h
  have hlen : cs.length = 9 := hl.trans (by kernel_rfl)
  have c9 : Tryz.prog.cellsOf 9 = 1 := by kernel_rfl
  have c3 : Tryz.prog.cellsOf 3 = 1 := by kernel_rfl
  have ci : Tryz.prog.cellsOf 47 = 1 := by kernel_rfl
  have ca : Tryz.prog.cellsOf 52 = 1 := by kernel_rfl
  have cd : Tryz.prog.cellsOf 53 = 1 := by kernel_rfl
  have za : Tryz.prog.cellsOf 59 = 3 + 1 := by kernel_rfl
  have zd : Tryz.prog.cellsOf 61 = 1 + 1 := by kernel_rfl
  match cs, hlen with
  | [v0, v1, v2, v3, v4, v5, v6, v7, v8], _ =>
    simp only [List.mem_cons, List.not_mem_nil, or_false, forall_eq_or_imp, forall_eq, c9, c3, ci, ca, cd] at hf
    obtain ⟨f0, f1, f2, f3, f4, f5, f6, f7, f8⟩ := hf
    obtain ⟨z0, e0, _⟩ := lV Tryz.underlying3 f0
    obtain ⟨z1, e1, _⟩ := lV Tryz.underlying3 f1
    obtain ⟨kv, xs, e2, hr, _, mk, hfk⟩ := kW (w := w) Tryz.underlying47 (sz := 0) c3 f2
    obtain ⟨z3, e3⟩ := fK Tryz.underlying9 f3
    obtain ⟨z4, e4⟩ := fK Tryz.underlying9 f4
    obtain ⟨z5, e5⟩ := fK Tryz.underlying9 f5
    obtain ⟨av, ys, e6, hra, _, ma, hfa⟩ := kW (w := w) Tryz.underlying52 za f6
    obtain ⟨dv, zs, e7, hrd, _, md, hfd⟩ := kW (w := w) Tryz.underlying53 zd f7
    obtain ⟨z8, e8⟩ := fK Tryz.underlying9 f8
    simp at e0 e1 e2 e3 e4 e5 e6 e7 e8
    subst e0 e1 e2 e3 e4 e5 e6 e7 e8
    obtain ⟨ks, rfl⟩ := xV (f := fun k : Int => [Value.int .i64 k]) (xs := xs) fun x hx => by obtain ⟨k, h1, _⟩ := lV Tryz.underlying3 (hfk x hx); exact ⟨k, h1⟩
    obtain ⟨aas, rfl⟩ := xV (f := attC) (xs := ys) fun x hx => GN (hfa x hx)
    obtain ⟨ds, rfl⟩ := xV (f := dclC) (xs := zs) fun x hx => GR (hfd x hx)
    exact ⟨⟨z0, z1, ks, z3, z4, z5, aas, ds, z8⟩, v2, v6, v7, rfl, ⟨hr, hra, hrd⟩⟩
theorem GU {w : World} {V : Value} (h : um Tryz.prog (st0 w) 24 V) : ∃ v ns, V = .agg #[v] ∧ DocX (foreign w) v ns := by
  obtain ⟨n, h⟩ := h
  rw [Tryz.underlying24] at h
  obtain ⟨cs, rfl, h⟩ := h
  obtain ⟨hl, m, hf⟩ := iV Tryz.underlying24 h
  have hlen : cs.toList.length = 1 := hl.trans (by kernel_rfl)
  have cn : Tryz.prog.cellsOf 22 = 1 := by kernel_rfl
  have z9 : Tryz.prog.cellsOf 55 = 8 + 1 := by kernel_rfl
  obtain ⟨cs⟩ := cs
  match cs, hlen with
  | [v0], _ =>
    simp only [List.mem_cons, List.not_mem_nil, or_false, forall_eq_or_imp, forall_eq, cn] at hf
    obtain ⟨v, xs, e0, hr, hml, mx, hfx⟩ := kW (w := w) Tryz.underlying22 z9 hf
    simp at e0
    subst e0
    have : ∃ ns : List Nx, xs.length = ns.length ∧ ∀ (i : Nat) (n : Nx), ns[i]? = some n → ∃ kv av dv, xs[i]? = some (ndX n kv av dv) ∧ NdX (foreign w) n kv av dv := by
      clear hr hf h hl hml
      induction xs with
      | nil => exact ⟨[], rfl, fun i n hi => by simp at hi⟩
      | cons x xs ih =>
        obtain ⟨ns, h1, h2⟩ := ih fun y hy => hfx y (List.mem_cons_of_mem _ hy)
        obtain ⟨n, kv, av, dv, hx, hn⟩ := FQ (hfx x (List.mem_cons_self ..))
        refine ⟨n :: ns, by rw [List.length_cons, List.length_cons, h1], fun i m hi => ?_⟩
        cases i with
        | zero =>
          simp at hi
          subst hi
          exact ⟨kv, av, dv, by simp [hx], hn⟩
        | succ i => exact h2 i m (by simpa using hi)
    obtain ⟨ns, h1, h2⟩ := this
    exact ⟨v0, ns, rfl, xs, h1, hr, h2⟩
end Go.Proofs.YtigjbehgfjjlkaaGreatDoor
