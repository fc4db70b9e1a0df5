/- Contracts of the program's functions over the abstract heap, and what follows from them (a part of the proof of this seat's laws). -/
import Derived.Test.YtfmpfgcdbpjpgaaD10
set_option linter.unusedVariables false
set_option linter.unusedSimpArgs false
namespace Go.Proofs.Ytfmpfgcdbpjpgaa
open Go Go.Abs Go.RowKit Go.ChangeShapes
variable {base : Nat} {w0 : World} {G : Nat}

theorem gomod (x m : Int) (h : 0 < m) (h2 : m ≤ 1000) : ∃ n : Nat, (IntKind.i64.wrap (x.tmod m + m)).tmod m = n ∧ (n : Int) < m := by
  have h3 := Int.lt_tmod_of_pos x h
  have h4 := Int.tmod_lt_of_pos x h
  rw [w_i64 (by omega)]
  have h5 := Int.tmod_nonneg m (show 0 ≤ x.tmod m + m by omega)
  have h6 := Int.tmod_lt_of_pos (x.tmod m + m) h
  exact ⟨((x.tmod m + m).tmod m).toNat, by omega, by omega⟩

/-- The cells of an act. -/
def actC (k a m b : Int) (raw : Value) : List Value := [.int .i64 k, .int .i64 a, .int .i64 m, .int .u8 b, raw]
def IsAct (h : Hp) (x : List Value) : Prop := ∃ k a m b raw l, x = actC k a m b raw ∧ Bs h raw l ∧ l.length ≤ maxLen ∧ -9223372036854775808 ≤ m ∧ m ≤ 9223372036854775807
theorem fit_act {w : World} {n : Nat} {x : List Value} (h : Fit Try.prog (st0 w) n 38 x) : IsAct (foreign w) x := by
  obtain ⟨hl, m, hf⟩ := fit_struct' Try.underlying38 h
  have hlen : x.length = 5 := hl.trans (by kernel_rfl)
  match x, hlen with
  | [v0, v1, v2, v3, v4], _ =>
    have c3 : Try.prog.cellsOf 3 = 1 := by kernel_rfl
    have c5 : Try.prog.cellsOf 5 = 1 := by kernel_rfl
    have c28 : Try.prog.cellsOf 28 = 1 := by kernel_rfl
    simp only [List.mem_cons, List.not_mem_nil, or_false, forall_eq_or_imp, forall_eq, c3, c5, c28, List.drop_zero, List.take_succ_cons, List.take_zero, List.drop_succ_cons] at hf
    obtain ⟨f0, f1, f2, f3, f4⟩ := hf
    obtain ⟨k, h0, _⟩ := fit_int' Try.underlying3 f0
    obtain ⟨a, h1, _⟩ := fit_int' Try.underlying3 f1
    obtain ⟨m, h2, hm1, hm2⟩ := fit_int' Try.underlying3 f2
    obtain ⟨b, h3, _⟩ := fit_int' Try.underlying5 f3
    obtain ⟨raw, l, h4, hb, hlm, _⟩ := fit_bytes' Try.underlying28 Try.underlying5 c5 f4
    injection h0 with h0 _
    injection h1 with h1 _
    injection h2 with h2 _
    injection h3 with h3 _
    injection h4 with h4 _
    subst h0 h1 h2 h3 h4
    exact ⟨k, a, m, b, v4, l, rfl, hb, hlm, by simpa [IntKind.min, IntKind.signed, IntKind.bits] using hm1, by simpa [IntKind.max, IntKind.signed, IntKind.bits] using hm2⟩
theorem fit_acts {w : World} {V : Value} (h : ArgFit Try.prog (st0 w) 35 V) : ∃ xs, Rws (foreign w) V 5 xs ∧ ∀ x ∈ xs, IsAct (foreign w) x := by
  obtain ⟨n, h⟩ := h
  rw [Try.underlying35] at h
  obtain ⟨v, xs, hv, hr, _, m, hx⟩ := fit_slice' Try.underlying35 (show Try.prog.cellsOf 38 = 4 + 1 by kernel_rfl) h
  injection hv with hv _
  subst hv
  exact ⟨xs, hr, fun x hx' => fit_act (hx x hx')⟩
end Go.Proofs.Ytfmpfgcdbpjpgaa
