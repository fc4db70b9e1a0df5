/- Contracts of the library, proved elsewhere over worlds: as calls over the abstract heap. -/
import Derived.Test.YtigjbehgfjjlkaaGreatDoorAbsM
import Derived.Lib.LaidTab
import Derived.Lib.ItoaMem
set_option linter.unusedVariables false
set_option linter.unusedSimpArgs false
namespace Go.Abs
open Go.RowKit
def lf : Value → Bool
  | .bool _ | .int _ _ | .string _ | .float _ _ => true
  | _ => false
theorem VR.yO {φ : Emb} {V v : Value} (h : VR φ V v) (hl : lf V = true) : v = V := by
  cases h <;> simp [lf] at hl <;> rfl
theorem VR.lf {φ : Emb} {V : Value} (hl : lf V = true) : VR φ V V := by
  cases V <;> simp [Abs.lf] at hl <;> constructor
theorem VRL.yO {φ : Emb} : ∀ {As as : List Value}, VRL φ As as → (∀ a ∈ As, lf a = true) → as = As
  | [], as, h, _ => List.eq_nil_of_length_eq_zero (by have := h.1; simpa using this.symm)
  | A :: As, as, h, hl => by
    obtain ⟨a, r, rfl, ha, hr⟩ := h.bO
    rw [ha.yO (hl A (by simp)), hr.yO fun x hx => hl x (by simp [hx])]
theorem au.world {cx : Cx} {f : Nat} {fn : Func} {args : List Value} {st : St} {k q : Value → St → Prop} {V : Value} (hf : cx.P.funcs[f]? = some fn) (hb : fn.body.isSome = true) (hn : (fn.name == "runtime.NumGoroutine") = false)
    (ha : ∀ a ∈ args, lf a = true) (hV : ∀ φ, VR φ V V) (hc : ∀ w, cx.G ≤ cx.base → Below cx.base cx.w0 w → Calls cx.P f args.toArray w fun e w' => e = .returned V ∧ Below w.heap.size w w') (hk : k V st) : au cx f args st k q := by
  refine .inl ⟨⟨fn, hf, hb, hn⟩, fun kd φ w vals h hv => ?_⟩
  have e1 : vals.toList = args := hv.yO ha
  have e2 : vals = args.toArray := by rw [← e1]
  subst e2
  refine (hc w h.glob h.below).mono fun e w' ⟨he, hb'⟩ => ?_
  subst he
  exact ⟨φ, V, st, Emb.le_refl _, hV φ, h.of_below hb', hk⟩
theorem au.same {cx : Cx} {f : Nat} {fn : Func} {X : Value} {st : St} {k q : Value → St → Prop} (hf : cx.P.funcs[f]? = some fn) (hn : (fn.name == "runtime.NumGoroutine") = false) (hb : fn.body.isNone = true) (h1 : Extern.findNext fn = none)
    (he : Extern.find fn = some Extern.AbiNoEscape.same) (hk : k X st) : au cx f [X] st k q := by
  refine .inr fun kd φ w vals h hv => ?_
  obtain ⟨vals⟩ := vals
  obtain ⟨x, r, e1, hx, hr⟩ := hv.bO
  have : r = [] := List.eq_nil_of_length_eq_zero (by have := hr.1; simpa using this.symm)
  subst this
  simp only at e1
  subst e1
  exact ⟨φ, X, x, st, w, by rw [run_callFunc_extern hf hn hb h1 he]; rfl, Emb.le_refl _, hx, h, hk⟩
end Go.Abs
