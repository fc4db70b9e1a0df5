/- LoginDumps answers true for every input, and leaves what came in as it was. No conditions. -/
import Derived.Test.YthohmdkibkompaaDoorLoginS
import Derived.Test.YthohmdkibkompaaDoorLoginK
set_option linter.unusedVariables false
set_option linter.unusedSimpArgs false
set_option maxRecDepth 100000
namespace Go.Proofs.YthohmdkibkompaaDoor
open Go Go.Abs Go.RowKit Go.ChangeShapes

theorem fit_chg {w : World} {n : Nat} {cs : List Value} (h : Fit Tryd.prog (st0 w) n 36 cs) : ∃ x : Chg, cs = x.cells ∧ ChgT x := by
  obtain ⟨hl, m, hf⟩ := fit_struct' Tryd.underlying36 h
  have hlen : cs.length = 7 := hl.trans (by kernel_rfl)
  have c3 : Tryd.prog.cellsOf 3 = 1 := by kernel_rfl
  have c9 : Tryd.prog.cellsOf 9 = 1 := by kernel_rfl
  match cs, hlen with
  | [v0, v1, v2, v3, v4, v5, v6], _ =>
    simp only [List.mem_cons, List.not_mem_nil, or_false, forall_eq_or_imp, forall_eq, c3, c9] at hf
    obtain ⟨f0, f1, f2, f3, f4, f5, f6⟩ := hf
    obtain ⟨z0, e0, _⟩ := fit_int' Tryd.underlying3 f0
    obtain ⟨s1, e1, _⟩ := fit_string' Tryd.underlying9 f1
    obtain ⟨s2, e2, _⟩ := fit_string' Tryd.underlying9 f2
    obtain ⟨s3, e3, _⟩ := fit_string' Tryd.underlying9 f3
    obtain ⟨s4, e4, _⟩ := fit_string' Tryd.underlying9 f4
    obtain ⟨z5, e5, lo5, hi5⟩ := fit_int' Tryd.underlying3 f5
    obtain ⟨z6, e6, lo6, hi6⟩ := fit_int' Tryd.underlying3 f6
    simp at e0 e1 e2 e3 e4 e5 e6
    subst e0 e1 e2 e3 e4 e5 e6
    refine ⟨⟨z0, byt s1, byt s2, byt s3, byt s4, z5, z6⟩, ?_, byt_lt s1, byt_lt s2, ?_, ?_, ?_⟩
    · simp [Chg.cells, str_byt]
    · simpa [IntKind.min, IntKind.signed, IntKind.bits] using lo5
    · simpa [IntKind.min, IntKind.signed, IntKind.bits] using lo6
    · simpa [IntKind.max, IntKind.signed, IntKind.bits] using hi6
theorem fit_chgs {w : World} {v : Value} (h : ArgFit Tryd.prog (st0 w) 31 v) : ∃ l, CL' (foreign w) v l ∧ ∀ x ∈ l, ChgT x := by
  obtain ⟨n, h⟩ := h
  rw [Tryd.underlying31] at h
  obtain ⟨v', xs, e, hr, hl, m, hf⟩ := fit_slice' (sz := 6) Tryd.underlying31 (by kernel_rfl) h
  injection e with e _
  subst e
  have : ∃ l : List Chg, xs = l.map Chg.cells ∧ ∀ x ∈ l, ChgT x := by
    clear hr hl
    induction xs with
    | nil => exact ⟨[], rfl, fun x hx => (by cases hx)⟩
    | cons x xs ih =>
      obtain ⟨l, e, hl⟩ := ih fun y hy => hf y (List.mem_cons_of_mem _ hy)
      obtain ⟨z, hz, hzt⟩ := fit_chg (hf x (List.mem_cons_self ..))
      refine ⟨z :: l, by rw [e, hz]; rfl, fun y hy => ?_⟩
      rcases List.mem_cons.1 hy with rfl | hy
      · exact hzt
      · exact hl y hy
  obtain ⟨l, rfl, hlt⟩ := this
  exact ⟨l, hr, hlt⟩
theorem fit_act {w : World} {V : Value} (h : ArgFit Tryd.prog (st0 w) 47 V) : ∃ a : AskA, V = .agg a.cells.toArray ∧ Bt a.name ∧ Bt a.c.a := by
  obtain ⟨n, h⟩ := h
  rw [Tryd.underlying47] at h
  obtain ⟨cs, rfl, h⟩ := h
  obtain ⟨hl, m, hf⟩ := fit_struct' Tryd.underlying47 h
  have hlen : cs.toList.length = 11 := hl.trans (by kernel_rfl)
  have c3 : Tryd.prog.cellsOf 3 = 1 := by kernel_rfl
  have c4 : Tryd.prog.cellsOf 4 = 1 := by kernel_rfl
  have c9 : Tryd.prog.cellsOf 9 = 1 := by kernel_rfl
  have c7 : Tryd.prog.cellsOf 36 = 7 := by kernel_rfl
  obtain ⟨cs⟩ := cs
  match cs, hlen with
  | [v0, v1, v2, v3, v4, v5, v6, v7, v8, v9, v10], _ =>
    simp only [List.mem_cons, List.not_mem_nil, or_false, forall_eq_or_imp, forall_eq, c3, c4, c9, c7] at hf
    obtain ⟨f0, f1, f2, f3, f4⟩ := hf
    obtain ⟨z0, e0, _⟩ := fit_int' Tryd.underlying3 f0
    obtain ⟨z1, e1, _⟩ := fit_int' Tryd.underlying3 f1
    obtain ⟨s2, e2, _⟩ := fit_string' Tryd.underlying9 f2
    obtain ⟨b3, e3⟩ := fit_bool' Tryd.underlying4 f3
    obtain ⟨x, e4, hx⟩ := fit_chg f4
    simp [Chg.cells] at e0 e1 e2 e3 e4
    subst e0 e1 e2 e3
    obtain ⟨rfl, rfl, rfl, rfl, rfl, rfl, rfl⟩ := e4
    exact ⟨⟨z0, z1, byt s2, b3, x⟩, by simp [AskA.cells, str_byt], byt_lt s2, hx.1⟩
set_option maxRecDepth 100000 in
theorem dumps_lifted (os : Os) (started : os.Started) (H : Type) (enc : TypeId × Value → H) :
    ReturnsInHanded {} Tryd.checked os 6 .any (fun w args => (Rows.loginDumpsSpec.pre enc Tryd.prog Tryd.f6 Rows.loginDumpsRow.domain false w args ∧ laidMetH Tryd.prog laidK w) ∧ sizedMet enc Tryd.prog Tryd.f6 (OpenSpec.ofChange Rows.loginDumpsSpec) false w args)
      (Rows.loginDumpsSpec.post enc Tryd.prog Tryd.f6 false true false false) := by
  refine law_lift_laid (C := Tryd.checked) (G := 4) (ex := fun t => t == 88) (tb := 4) own started (by kernel_rfl) Tryd.func6 laidOut (by kernel_rfl) (by kernel_rfl) Tryd.underlying4 rfl (fun ds hd => ?_)
    (ChangeSpec.witness_shaped (enc := enc) (C := Tryd.checked) (os := os) (X := fun w _ => laidMetH Tryd.prog laidK w) false (World.laidAll Tryd.prog os laidK) #[.agg #[.int .i64 0, .int .i64 0, .int .i64 0, .int .i64 0], .slice none 0 0, .agg #[.int .i64 0, .int .i64 0, .string ⟨#[]⟩, .bool false, .int .i64 0, .string ⟨#[]⟩, .string ⟨#[]⟩, .string ⟨#[]⟩, .string ⟨#[]⟩, .int .i64 0, .int .i64 0]] 8 (World.laidAll_os _ _ _)
      (World.shaped_of_ZipB (by kernel_rfl) (by kernel_rfl)) (by kernel_rfl) (by kernel_rfl) (by kernel_rfl)
      (by rw [MakeChecks.laidMetH_plain _ _ _ (by kernel_rfl)]; exact laidMet_laidAll _ (by kernel_rfl) (by kernel_rfl))) (fun W args hn hf hL => ?_)
  · rw [Tryd.params6] at hd
    obtain ⟨a, b, c, rfl⟩ : ∃ a b c, ds = [a, b, c] := by
      match ds, hd with
      | [a, b, c], _ => exact ⟨a, b, c, rfl⟩
    rfl
  · rw [Tryd.params6] at hn hf
    obtain ⟨a, b, c, rfl⟩ : ∃ a b c, args = #[a, b, c] := by
      obtain ⟨l⟩ := args
      match l, hn with
      | [a, b, c], _ => exact ⟨a, b, c, rfl⟩
    obtain ⟨U, hU⟩ := fit_rules (hf 0 23 a rfl rfl)
    obtain ⟨l, hl, hlt⟩ := fit_chgs (hf 1 31 b rfl rfl)
    obtain ⟨ac, hac, ha1, ha2⟩ := fit_act (hf 2 47 c rfl rfl)
    obtain ⟨hT, ⟨kt, hK⟩, hG⟩ := laid_all hL
    refine ⟨hG, ?_⟩
    simp only [List.map_cons, List.map_nil, hU, hac]
    exact LoginDumps_spec _ _ U _ l ac false hl hlt ha1 ha2 hT hK (own_foreign W) _ _ fun _ => rfl
theorem loginDumps_row_holds : Rows.LoginDumpsSaid :=
  OpenClaim.holds_of_wide 6 Tryd.f6 rfl rfl rfl rfl rfl rfl rfl ⟨rfl, rfl, rfl, rfl, rfl⟩ rfl rfl rfl rfl rfl (by kernel_rfl) Tryd.func6 (by kernel_rfl)
    (of_decide_eq_true (by kernel_rfl)) (by unfold Func.isWrapper; first | (rw [if_pos (by decide +kernel)]; kernel_rfl) | (rw [if_neg (by decide +kernel)]; exact ⟨rfl, rfl⟩))
    (fun os started H enc _ => dumps_lifted os started H enc)
theorem loginDumps_holds : Rows.LoginDumpsCardSaid :=
  Claim7.holds_tied_plain_at .later [] [.data, .data, .data, .data] true (true, "b702a6455130421e64f208764259bf7f47d084bd74adb5cbd00fdf4a4ecdfebe") false
    loginDumps_row_holds (fun _ h => by cases h) (by kernel_rfl) (fun _ h => by cases h) loginDumps_row_tie rfl ⟨rfl, rfl⟩ (by kernel_rfl) rfl
    (fun f fn hf hfn => by
      obtain rfl : f = 6 := Option.some.inj ((show Tryd.prog.funcNamed "lanyard/lanyardlaw21.LoginDumps" = some 6 by kernel_rfl).symm.trans hf) |>.symm
      obtain rfl : fn = Tryd.f6 := (Option.some.inj (Tryd.func6.symm.trans hfn)).symm
      exact ⟨by kernel_rfl, fun j t ht => by
        rw [Tryd.params6] at ht
        have hm : t ∈ [23, 31, 47] := by simpa using Array.mem_of_getElem? ht
        have hall : ([23, 31, 47].all fun u => !Tryd.prog.wantsStandIn u) = true := by kernel_rfl
        exact (show Tryd.prog.wantsStandIn t = false by simpa using List.all_eq_true.1 hall t hm)⟩)
    (by kernel_rfl)
#print axioms loginDumps_holds
end Go.Proofs.YthohmdkibkompaaDoor
