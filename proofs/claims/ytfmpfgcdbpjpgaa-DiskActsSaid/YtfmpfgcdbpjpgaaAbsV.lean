/- A walk is cut in two: what holds between. -/
import Derived.Test.YtfmpfgcdbpjpgaaAbsR
set_option linter.unusedVariables false
set_option linter.unusedSimpArgs false
namespace Go.Abs
open Go.RowKit
section
variable {cx : Cx} {q : PostP}

theorem aops_mono {ops : Array Oper} {Q Q' : Post} (h : ∀ e ρ st, Q e ρ st → Q' e ρ st) : ∀ (l : List Oper) {ρ : Env} {st : St}, aops cx ops l Q q ρ st → aops cx ops l Q' q ρ st
  | [], ρ, st, k => h _ _ _ k
  | o :: r, ρ, st, k => aexec_mono k (fun V s hk => aops_mono h r hk) fun V s hq => hq
theorem apend_mono {recs : List (Nat × (St → Prop))} {x y : Prop} (h : x → y) : ∀ {l : List Nat} {st : St}, apend recs l st x → apend recs l st y
  | [], st, k => h k
  | i :: r, st, k => ⟨k.1, apend_mono h k.2⟩
theorem adraw_mono {ops : Array Oper} {Q Q' : Post} (h : ∀ e ρ st, Q e ρ st → Q' e ρ st) : ∀ (π : Plan) {recs : List (Nat × (St → Prop))} {ρ : Env} {st : St}, adraw cx ops π recs Q q ρ st → adraw cx ops π recs Q' q ρ st
  | [], recs, ρ, st, k => h _ _ _ k
  | (i, kp, pd) :: π, recs, ρ, st, k => by
    rw [adraw_cons] at k ⊢
    cases ho : ops[i]? with
    | none => rw [ho] at k; exact k.elim
    | some o =>
      rw [ho] at k
      exact aexec_mono (show aexec cx ops o ρ st _ q from k) (fun V s hk => apend_mono (adraw_mono h π) hk) fun V s hq => hq
theorem thenQ_mono {n n' : Env → St → Prop} {Q Q' : Post} (hn : ∀ ρ st, n ρ st → n' ρ st) (h : ∀ e ρ st, Q e ρ st → Q' e ρ st) : ∀ e ρ st, thenQ n Q e ρ st → thenQ n' Q' e ρ st
  | .normal, ρ, st, k => hn _ _ k
  | .exit _, ρ, st, k => h _ _ _ k
  | .ret, ρ, st, k => h _ _ _ k
  | .goto _, ρ, st, k => h _ _ _ k
  | .panic _, ρ, st, k => h _ _ _ k
  | .outgrown, ρ, st, k => h _ _ _ k
theorem inBlockQ_mono {i : Nat} {Q Q' : Post} (h : ∀ e ρ st, Q e ρ st → Q' e ρ st) : ∀ e ρ st, inBlockQ i Q e ρ st → inBlockQ i Q' e ρ st
  | .normal, ρ, st, k => h _ _ _ k
  | .exit j, ρ, st, k => by
    simp only [inBlockQ] at k ⊢
    split
    · rename_i e; rw [if_pos e] at k; exact h _ _ _ k
    · rename_i e; rw [if_neg e] at k; exact h _ _ _ k
  | .ret, ρ, st, k => h _ _ _ k
  | .goto _, ρ, st, k => h _ _ _ k
  | .panic _, ρ, st, k => h _ _ _ k
  | .outgrown, ρ, st, k => h _ _ _ k
theorem abranch_mono {v : Value} {x y x' y' : Prop} (hx : x → x') (hy : y → y') (h : abranch v x y) : abranch v x' y' := by
  unfold abranch at *
  split at h
  · exact ⟨fun e => hx (h.1 e), fun e => hy (h.2 e)⟩
  · exact h.elim
theorem awp_mono : ∀ (c : Code) {Q Q' : Post}, (∀ e ρ st, Q e ρ st → Q' e ρ st) → ∀ {ρ : Env} {st : St}, awp cx c Q q ρ st → awp cx c Q' q ρ st := by
  intro c
  induction c with
  | region i ops d =>
    intro Q Q' h ρ st k
    cases d with
    | true =>
      obtain ⟨π, ks, un, h1, h2, h3, h4⟩ := (show ADraw cx ops Q q ρ st from k)
      exact (show ADraw cx ops Q' q ρ st from ⟨π, ks, un, h1, h2, h3, adraw_mono h π h4⟩)
    | false => exact aops_mono h ops.toList (show aops cx ops ops.toList Q q ρ st from k)
  | seq x y ihx ihy => intro Q Q' h ρ st k; exact ihx (thenQ_mono (fun ρ st hk => ihy h hk) h) k
  | cond v x y ihx ihy => intro Q Q' h ρ st k; exact abranch_mono (ihx h) (ihy h) k
  | block i c ih => intro Q Q' h ρ st k; exact ih (inBlockQ_mono h) k
  | loop c ih =>
    intro Q Q' h ρ st k
    obtain ⟨I, h0, hr⟩ := (show ALoop (fun Q ρ st => awp cx c Q q ρ st) Q ρ st from k)
    exact (show ALoop (fun Q ρ st => awp cx c Q q ρ st) Q' ρ st from ⟨I, h0, fun n ρ st hI => ih (thenQ_mono (fun ρ st hk => hk) h) (hr n ρ st hI)⟩)
  | skip => intro Q Q' h ρ st k; exact h _ _ _ k
  | exit i => intro Q Q' h ρ st k; exact h _ _ _ k
  | ret => intro Q Q' h ρ st k; exact h _ _ _ k
  | label l => intro Q Q' h ρ st k; exact h _ _ _ k
  | goto l => intro Q Q' h ρ st k; exact h _ _ _ k
  | _ => intros; rename_i k; exact (show False from k).elim

/-- Behind a block: what holds there, and the rest from it. -/
theorem block_cut {id : Nat} {c : Code} {N : Env → St → Prop} {Q : Post} {ρ : Env} {st : St} (I : Env → St → Prop) (h1 : awp cx c (inBlockQ id (thenQ I Q)) q ρ st) (h2 : ∀ ρ st, I ρ st → N ρ st) :
    awp cx (.block id c) (thenQ N Q) q ρ st := awp_mono c (inBlockQ_mono (thenQ_mono h2 fun _ _ _ h => h)) h1
/-- Behind the first of two. -/
theorem seq_cut {x y : Code} {Q : Post} {ρ : Env} {st : St} (I : Env → St → Prop) (h1 : awp cx x (thenQ I Q) q ρ st) (h2 : ∀ ρ st, I ρ st → awp cx y Q q ρ st) :
    awp cx (.seq x y) Q q ρ st := awp_mono x (thenQ_mono h2 fun _ _ _ h => h) h1
end
end Go.Abs
