/- Code, functions: a weakest precondition over the abstract heap, and that the model meets it. -/
import Derived.Test.YtigjbehgfjjlkaaGreatDoorAbsX
set_option linter.unusedVariables false
set_option linter.unusedSimpArgs false
namespace Go.Abs
open Go.RowKit
def oZ (n : Env → St → Prop) (Q : Post) : Post := fun e ρ st => match e with
  | .normal => n ρ st
  | e => Q e ρ st
def gP (id : Nat) (Q : Post) : Post := fun e ρ st => match e with
  | .exit i => if i = id then Q .normal ρ st else Q (.exit i) ρ st
  | e => Q e ρ st
def tO (F : Post → Env → St → Prop) (Q : Post) (ρ : Env) (st : St) : Prop :=
  ∃ I : Nat → Env → St → Prop, (∃ n, I n ρ st) ∧ ∀ n ρ st, I n ρ st → F (oZ (fun ρ' st' => ∃ m, m < n ∧ I m ρ' st') Q) ρ st
def bG (cx : Cx) (ops : Array Oper) (Q : Post) (q : dz) (ρ : Env) (st : St) : Prop :=
  ∃ (ks : Nat → Bool) (un : Nat → Nat → Bool), AAny cx ops ks un Q q ops.size (Array.replicate ops.size false) (fun _ _ => True) ρ st
def bN (v : Value) (x y : Prop) : Prop :=
  match v with
  | .bool b => (b = true → x) ∧ (b = false → y)
  | _ => False
def GA (Q : Post) (ρ : Env) (st : St) : Option Code → Prop
  | none => Q .normal ρ st
  | some .ret => Q .ret ρ st
  | some (.exit i) => Q (.exit i) ρ st
  | some (.goto l) => Q (.goto l) ρ st
  | some _ => False
def aend (B : Nat) (Q : Post) (ρ : Env) (st : St) : Option Ob → Prop
  | some (.loop r) => r.state ≠ .busy ∧ GA Q ρ (st.set B none) r.pend
  | _ => False
def jw (cx : Cx) (g : Value) (ps : Array Nat) (x y : Code) (Q : Post) (q : dz) (ρ : Env) (st : St) : Prop :=
  match g with
  | .func (.func n) first captured => (∃ fn, cx.P.funcs[n]? = some fn ∧ fn.body.isSome = true ∧ (fn.name == "runtime.NumGoroutine") = false) ∧
      ay cx n (first.toList ++ [.func (.yield st.n) #[] #[]] ++ captured.toList) (st.new (.loop ⟨ρ, ps, x, y, .ready, none⟩)) (fun _ st' => aend st.n Q ρ st' (st'.H st.n)) q
  | _ => False
def awp (cx : Cx) : Code → Post → dz → Env → St → Prop
  | .skip, Q, _, ρ, st => Q .normal ρ st
  | .region _ ops d, Q, q, ρ, st => bif d then bG cx ops Q q ρ st else aops cx ops ops.toList Q q ρ st
  | .seq x y, Q, q, ρ, st => awp cx x (oZ (fun ρ st => awp cx y Q q ρ st) Q) q ρ st
  | .cond c x y, Q, q, ρ, st => bN (ev cx.G ρ c) (awp cx x Q q ρ st) (awp cx y Q q ρ st)
  | .block id c, Q, q, ρ, st => awp cx c (gP id Q) q ρ st
  | .loop c, Q, q, ρ, st => tO (fun Q ρ st => awp cx c Q q ρ st) Q ρ st
  | .exit i, Q, _, ρ, st => Q (.exit i) ρ st
  | .ret, Q, _, ρ, st => Q .ret ρ st
  | .label _, Q, _, ρ, st => Q .normal ρ st
  | .goto l, Q, _, ρ, st => Q (.goto l) ρ st
  | .rangeFunc g ps x y, Q, q, ρ, st => jw cx (ev cx.G ρ g) ps x y Q q ρ st
  | _, _, _, _, _ => False
abbrev okC (N : Nat) (c : Code) : Bool := okCr true (fun t => decide (t < N)) c
section
variable {cx : Cx} {fx : Fx} {kd : Nat → Bool}
theorem HR.fewer {φ : Emb} {st : St} {w : World} {k1 : Nat → Bool} (h : HR (cx.at kd) φ st w) (hk : ∀ d, k1 d = true → kd d = true) : HR (cx.at k1) φ st w where
  below := h.below
  size := h.size
  glob := h.glob
  ident := h.ident
  dom := h.dom
  live := h.live
  dis := h.dis
  kept := fun d hd => h.kept d (hk d hd)
theorem Marks.le {k0 : Nat → Bool} : ∀ {ds : List Deferred} {k1 : Nat → Bool}, Marks k0 k1 ds → ∀ d, k0 d = true → k1 d = true
  | [], k1, h, d, hd => by rw [show k1 = k0 from h]; exact hd
  | m :: r, k1, h, d, hd => by
    obtain ⟨e, k2, _, _, rfl, h'⟩ := h
    simp [h'.le d hd]
theorem HR.more {φ : Emb} {st : St} {w : World} (h : HR (cx.at kd) φ st w) : kd w.heap.size = false ∧ HR (cx.at fun x => kd x || x == w.heap.size) φ st (w.alloc (.deferred (some []))) := by
  have hf : kd w.heap.size = false := by
    cases e : kd w.heap.size with
    | false => rfl
    | true =>
      have := (Array.getElem?_eq_some_iff.1 (h.kept _ e).2).1
      exact absurd this (Nat.lt_irrefl _)
  have h1 : HR (cx.at kd) φ st (w.alloc (.deferred (some []))) := h.of_below ((Below.refl _ _).alloc (Nat.le_refl _) _)
  refine ⟨hf, ⟨h1.below, h1.size, h1.glob, h1.ident, h1.dom, h1.live, h1.dis, fun d hd => ?_⟩⟩
  have hd' : (kd d || d == w.heap.size) = true := hd
  rw [Bool.or_eq_true] at hd'
  rcases hd' with hd' | hd'
  · exact h1.kept d hd'
  · have e : d = w.heap.size := by simpa using hd'
    subst e
    exact ⟨h.size, World.alloc_heap_new _ _⟩
theorem HR.shut {φ : Emb} {st : St} {w : World} {d : Nat} {k1 : Nat → Bool} (h : HR (cx.at fun x => k1 x || x == d) φ st w) (hd : k1 d = false) : HR (cx.at k1) φ st (w.putObj d (.deferred none)) := by
  have hdd := h.kept d (by simp)
  have hlt := (Array.getElem?_eq_some_iff.1 hdd.2).1
  have hb : Below cx.base w (w.putObj d (.deferred none)) := ⟨rfl, rfl, rfl, by simp, fun k hk => World.putObj_heap_other (by have := hdd.1; have : cx.base ≤ d := this; omega)⟩
  refine ⟨h.below.trans hb, by have := h.size; simpa using this, h.glob, h.ident, h.dom, fun B o hB => ?_, h.dis, fun x hx => ?_⟩
  · obtain ⟨p, hp, ho⟩ := h.live B o hB
    refine ⟨p, hp, ho.mono (Emb.le_refl _) (World.putObj_heap_other fun e => ?_)⟩
    exact ho.Gt (e ▸ hdd.2)
  · have hx' : k1 x = true := hx
    obtain ⟨g1, g2⟩ := h.kept x (show (k1 x || x == d) = true by rw [hx']; rfl)
    refine ⟨g1, ?_⟩
    rw [World.putObj_heap_other fun e => by subst e; rw [hd] at hx'; cases hx']
    exact g2
theorem dW {P : Program} {fn : Func} {tmps : Array Value} {R : Ending → World → Prop} {φ : Emb} {st : St} {k0 : Nat → Bool} {u : FrameMode} (hu : u ≠ .run) (hP : P = cx.P)
    {dl : List Deferred} (hR : ∀ w, HR (cx.at k0) φ st w → LeavesInM Fence.wide 0 P fn tmps R dl u w) : ∀ (ds : List Deferred) (k1 : Nat → Bool) (w : World), Marks k0 k1 ds → HR (cx.at k1) φ st w → LeavesInM Fence.wide 0 P fn tmps R (ds ++ dl) u w
  | [], k1, w, hm, h => by
    obtain rfl : k1 = k0 := hm
    exact hR w h
  | m :: r, k1, w, hm, h => by
    obtain ⟨d, k2, rfl, hd, rfl, hm'⟩ := hm
    exact ⟨hu, .inl ⟨d, _, rfl, run_takeDeferred (h.kept d (by simp)).2, dW hu hP hR r k2 _ hm' (h.shut hd)⟩⟩
theorem HR.yC {φ : Emb} {st : St} {w : World} (h : HR cx φ st w) {B : Nat} {r : ARec} (hB : st.H B = some (.loop r)) : ∃ p fn tmps D, φ B = some p ∧ w.heap[p.blk]? = some (.loop { state := r.state, pending := r.pend, fn := fn, tmps := tmps, params := r.ps, assign := r.assign, body := r.body, defers := D }) ∧
    (r.ps.all (· < tmps.size) = true ∧ okCr false (fun t => decide (t < tmps.size)) r.assign = true ∧ okCr false (fun t => decide (t < tmps.size)) r.body = true) ∧ (∀ t, VR φ (r.ρ t) (tmps.getD t undef)) ∧
    ∀ (s : LoopState) (pd : Option Code), HR cx φ (st.set B (some (.loop { r with state := s, pend := pd }))) (w.putObj p.blk (.loop { state := s, pending := pd, fn := fn, tmps := tmps, params := r.ps, assign := r.assign, body := r.body, defers := D })) := by
  obtain ⟨p, hp, fn, tmps, D, h1, h2, h3, h4, h5, h6⟩ := h.live B _ hB
  have hlt := (Array.getElem?_eq_some_iff.1 h1).1
  refine ⟨p, fn, tmps, D, hp, h1, h5, h6, fun s pd => ?_⟩
  have hoth : ∀ g, g ≠ p.blk → (w.putObj p.blk (.loop { state := s, pending := pd, fn := fn, tmps := tmps, params := r.ps, assign := r.assign, body := r.body, defers := D })).heap[g]? = w.heap[g]? := fun g hg => World.putObj_heap_other hg
  refine h.turn hB hp rfl rfl ⟨rfl, rfl, rfl, by simp, fun k hk => hoth k (by omega)⟩ hoth (fun q hq _ o1 ho1 hown _ => ?_) ⟨fn, tmps, D, World.putObj_heap_same hlt, h2, h3, h4, h5, h6⟩
  exact ho1.mono (Emb.le_refl _) (hoth _ hq)
theorem Cm {fx : Fx} {d : Nat} (h : fx.can d = true) : decide (d < fx.N) = true := by
  unfold Fx.can at h
  rw [Bool.and_eq_true] at h
  exact h.2
theorem Jj {fx : Fx} {ps : Array Nat} (h : ps.all fx.can = true) : (ps.all fun t => decide (t < fx.N)) = true := by
  rw [Array.all_eq_true] at h ⊢
  exact fun i hi => Cm (h i hi)
theorem qJ {can can' : Nat → Bool} (hc : ∀ d, can d = true → can' d = true) {rf : Bool} : ∀ {c : Code}, okCr rf can c = true → okCr rf can' c = true := by
  intro c
  induction c generalizing rf with
  | region i ops d =>
    intro h
    simp only [okCr] at h ⊢
    rw [Array.all_eq_true] at h ⊢
    intro i hi
    have := h i hi
    cases hd : ops[i].dst with
    | none => rfl
    | some d => rw [hd] at this; simp at this ⊢; exact hc d this
  | seq x y ihx ihy => intro h; simp only [okCr, Bool.and_eq_true] at h ⊢; exact ⟨ihx h.1, ihy h.2⟩
  | cond c x y ihx ihy => intro h; simp only [okCr, Bool.and_eq_true] at h ⊢; exact ⟨ihx h.1, ihy h.2⟩
  | block i c ih => intro h; simp only [okCr] at h ⊢; exact ih h
  | loop c ih => intro h; simp only [okCr] at h ⊢; exact ih h
  | rangeFunc g ps x y ihx ihy =>
    intro h
    simp only [okCr, Bool.and_eq_true] at h ⊢
    refine ⟨⟨⟨h.1.1.1, ?_⟩, ihx h.1.2⟩, ihy h.2⟩
    have := h.1.1.2
    rw [Array.all_eq_true] at this ⊢
    exact fun i hi => hc _ (this i hi)
  | _ => intro _; rfl
theorem En {ops : Array Oper} {ks : Nat → Bool} {un : Nat → Nat → Bool} (φ0 : Emb) (hN : ops.all (fun o => o.dst.all fx.can) = true) {Q : Post} {q : dz} (ro : Option Nat) : ∀ (n : Nat) (listed : Array Bool) (recs : Nat → St → Prop) (φ : Emb) (ρ : Env) (st : St) (a : Act) (w : World),
    φ0.le φ → HR (cx.at kd) φ st w → EnvR φ fx kd ρ a → AAny cx ops ks un Q q n listed recs ρ st → wpAnyIn (fen ro) 0 cx.P .any ops (lift cx fx φ0 Q q) n listed a w
  | 0, listed, recs, φ, ρ, st, a, w, hle, h, he, hA => ⟨hA.1, .inl ⟨kd, φ, ρ, st, rfl, hle, h, he, hA.2⟩⟩
  | n + 1, listed, recs, φ, ρ, st, a, w, hle, h, he, hA => by
    refine ⟨fun hr => .inl ⟨kd, φ, ρ, st, rfl, hle, h, he, hA.1 hr⟩, fun i hi => ?_⟩
    obtain ⟨o, ho, hex⟩ := hA.2 i hi
    have hlt := (Array.getElem?_eq_some_iff.1 ho).1
    have hd : o.dst.all fx.can = true := by
      have := Array.all_eq_true.1 hN i hlt
      rw [(Array.getElem?_eq_some_iff.1 ho).2] at this
      exact this
    refine rF ops h he i o ho hex (fun φ' V v st' w' h1 h2 h3 h4 => ?_) (fun φ' V v st' w' h1 h2 h3 h4 => ?_)
    · exact En φ0 hN ro n _ _ φ' _ st' _ w' (Emb.le_trans hle h1) h3 ((he.mono h1).put hd h2) h4.2
    · exact .inr ⟨kd, φ', V, v, st', rfl, Emb.le_trans hle h1, h2, h3, he.gone, h4⟩
theorem vT {F : Fence} {n0 : Nat} {P : Program} {c : Code} {Q : Exit → Act → World → Prop} {a : Act} {w : World} (I : Nat → Act → World → Prop) (h₀ : ∃ n, I n a w)
    (round : ∀ n a w, I n a w → c.wpIn F n0 P (Exit.then (fun a' w' => ∃ m, m < n ∧ I m a' w') Q) a w) : (Code.loop c).wpIn F n0 P Q a w := by
  intro b k cs hro hb hr
  have key : ∀ n a w, I n a w → ∃ e a' w', Q e a' w' ∧ ArrivesIn (Machine.fenced P F) P (lone (b.atR a (.code c :: .inLoop c :: k)) cs w) b k cs e a' w' := by
    intro n
    induction n using Nat.strongRecOn with
    | _ n ih =>
      intro a w hI
      obtain ⟨e, a₁, w₁, hq, harr⟩ := round n a w hI b (.inLoop c :: k) cs hro hb hr
      cases e with
      | normal =>
        obtain ⟨m, hlt, hI₁⟩ := hq
        obtain ⟨e₂, a₂, w₂, hq₂, harr₂⟩ := ih m hlt a₁ w₁ hI₁
        exact ⟨e₂, a₂, w₂, hq₂, .of_steps (StepsIn.trans harr (.one (fenced_calm hb hr rfl) stepR_inLoop)) harr₂⟩
      | exit id => exact ⟨_, a₁, w₁, hq, .pass (x := .inLoop c) rfl (fun _ _ => .inl (by simp)) harr⟩
      | goto l => exact ⟨_, a₁, w₁, hq, .pass (x := .inLoop c) rfl (fun _ _ => .inl (by simp)) harr⟩
      | ret => exact ⟨_, a₁, w₁, hq, .pass (x := .inLoop c) rfl (fun _ _ => .inl (by simp)) harr⟩
      | panic ch => exact ⟨_, a₁, w₁, hq, .pass (x := .inLoop c) rfl (fun _ _ => .inl (by simp)) harr⟩
      | outgrown => exact ⟨_, a₁, w₁, hq, .pass (x := .inLoop c) rfl (fun _ _ => .inl (by simp)) harr⟩
  obtain ⟨n, hn⟩ := h₀
  obtain ⟨e, a', w', hq, harr⟩ := key n a w hn
  exact ⟨e, a', w', hq, .of_steps (.one (fenced_calm hb hr rfl) stepR_loop) harr⟩
theorem aP {φ0 φ : Emb} {Q : Post} {q : dz} {e : Exit} {a : Act} {w : World} {ρ : Env} {st : St} (hp : Gz e = true) (hle : φ0.le φ) (h : HR (cx.at kd) φ st w) (he : EnvR φ fx kd ρ a) (hq : Q e ρ st) : lift cx fx φ0 Q q e a w :=
  .inl ⟨kd, φ, ρ, st, hp, hle, h, he, hq⟩
theorem iC (hm : cx.P.follows .mixedOrders = true) {rf : Bool} {ro : Option Nat} (hrf : rf = true → ro = none) (hfl : fx.flat = true → rf = false) : ∀ (c : Code), okCr rf fx.can c = true → ∀ (Q : Post) (q : dz) (kd : Nat → Bool) (φ0 φ : Emb) (ρ : Env) (st : St) (a : Act) (w : World), φ0.le φ → HR (cx.at kd) φ st w → EnvR φ fx kd ρ a →
    awp cx c Q q ρ st → c.wpIn (fen ro) 0 cx.P (lift cx fx φ0 Q q) a w := by
  intro c
  induction c with
  | skip => exact fun _ Q q kd φ0 φ ρ st a w hle h he hq => wpIn_skip (aP rfl hle h he hq)
  | region id ops d =>
    intro hok Q q kd φ0 φ ρ st a w hle h he hq
    cases d with
    | false =>
      have := tH ops φ0 hok Q q ro ops.toList 0 φ ρ st a w rfl hle h he hq
      exact wpIn_region (by simpa using this)
    | true =>
      obtain ⟨ks, un, hA⟩ := (show bG cx ops Q q ρ st from hq)
      exact wpIn_region_any hm (En φ0 hok ro ops.size _ _ φ ρ st a w.drew hle h.drew he hA)
  | seq x y ihx ihy =>
    intro hok Q q kd φ0 φ ρ st a w hle h he hq
    simp only [okCr, Bool.and_eq_true] at hok
    refine wpIn_seq (wpIn_mono (ihx hok.1 _ q kd φ0 φ ρ st a w hle h he hq) fun e a' w' hl => ?_)
    rcases hl with ⟨kd', φ', ρ', st', hp, hle', h', he', hq'⟩ | ⟨kd', φ', V, v, st', rfl, hle', hv, h', hd, hq'⟩
    · cases e with
      | normal => exact ihy hok.2 Q q kd' φ0 φ' ρ' st' a' w' hle' h' he' hq'
      | exit i => exact aP rfl hle' h' he' hq'
      | goto i => exact aP rfl hle' h' he' hq'
      | ret => exact aP rfl hle' h' he' hq'
      | panic ch => cases hp
      | outgrown => cases hp
    · exact .inr ⟨kd', φ', V, v, st', rfl, hle', hv, h', hd, hq'⟩
  | cond c x y ihx ihy =>
    intro hok Q q kd φ0 φ ρ st a w hle h he hq
    simp only [okCr, Bool.and_eq_true] at hok
    have hc := he.ev h c
    have hq' : bN (ev cx.G ρ c) (awp cx x Q q ρ st) (awp cx y Q q ρ st) := hq
    unfold bN at hq'
    split at hq'
    · rename_i b hb
      have hb : ev (cx.at kd).G ρ c = .bool b := hb
      rw [hb] at hc
      exact wpIn_cond_split hc.gM (fun e => ihx hok.1 Q q kd φ0 φ ρ st a w hle h he (hq'.1 e)) (fun e => ihy hok.2 Q q kd φ0 φ ρ st a w hle h he (hq'.2 e))
    · exact hq'.elim
  | block id c ih =>
    intro hok Q q kd φ0 φ ρ st a w hle h he hq
    refine wpIn_block (wpIn_mono (ih hok _ q kd φ0 φ ρ st a w hle h he hq) fun e a' w' hl => ?_)
    rcases hl with ⟨kd', φ', ρ', st', hp, hle', h', he', hq'⟩ | ⟨kd', φ', V, v, st', rfl, hle', hv, h', hd, hq'⟩
    · cases e with
      | normal => exact aP rfl hle' h' he' hq'
      | exit i =>
        simp only [Exit.inBlock]
        simp only [gP] at hq'
        split
        · rename_i hi; rw [if_pos hi] at hq'; exact aP rfl hle' h' he' hq'
        · rename_i hi; rw [if_neg hi] at hq'; exact aP rfl hle' h' he' hq'
      | goto i => exact aP rfl hle' h' he' hq'
      | ret => exact aP rfl hle' h' he' hq'
      | panic ch => cases hp
      | outgrown => cases hp
    · exact .inr ⟨kd', φ', V, v, st', rfl, hle', hv, h', hd, hq'⟩
  | loop c ih =>
    intro hok Q q kd φ0 φ ρ st a w hle h he hq
    obtain ⟨I, ⟨n, hn⟩, hround⟩ := (show tO (fun Q ρ st => awp cx c Q q ρ st) Q ρ st from hq)
    refine vT (fun n a w => ∃ kd φ ρ st, φ0.le φ ∧ HR (cx.at kd) φ st w ∧ EnvR φ fx kd ρ a ∧ I n ρ st) ⟨n, kd, φ, ρ, st, hle, h, he, hn⟩ fun n a w hI => ?_
    obtain ⟨kd1, φ1, ρ1, st1, hle1, h1, he1, hI1⟩ := hI
    refine wpIn_mono (ih hok _ q kd1 φ0 φ1 ρ1 st1 a w hle1 h1 he1 (hround n ρ1 st1 hI1)) fun e a' w' hl => ?_
    rcases hl with ⟨kd', φ', ρ', st', hp, hle', h', he', hq'⟩ | ⟨kd', φ', V, v, st', rfl, hle', hv, h', hd, hq'⟩
    · cases e with
      | normal =>
        obtain ⟨m, hm, hIm⟩ := hq'
        exact ⟨m, hm, kd', φ', ρ', st', hle', h', he', hIm⟩
      | exit i => exact aP rfl hle' h' he' hq'
      | goto i => exact aP rfl hle' h' he' hq'
      | ret => exact aP rfl hle' h' he' hq'
      | panic ch => cases hp
      | outgrown => cases hp
    · exact .inr ⟨kd', φ', V, v, st', rfl, hle', hv, h', hd, hq'⟩
  | exit i => exact fun _ Q q kd φ0 φ ρ st a w hle h he hq => wpIn_exit (aP rfl hle h he hq)
  | ret => exact fun _ Q q kd φ0 φ ρ st a w hle h he hq => wpIn_ret (aP rfl hle h he hq)
  | label l => exact fun _ Q q kd φ0 φ ρ st a w hle h he hq => wpIn_label (aP rfl hle h he hq)
  | goto l => exact fun _ Q q kd φ0 φ ρ st a w hle h he hq => wpIn_goto (aP rfl hle h he hq)
  | rangeFunc g ps x y _ _ =>
    intro hok Q q kd φ0 φ ρ st a w hle h he hq
    simp only [okCr, Bool.and_eq_true] at hok
    obtain ⟨⟨⟨hrf1, hps⟩, hx⟩, hy⟩ := hok
    obtain rfl := hrf hrf1
    have hq' : jw cx (ev cx.G ρ g) ps x y Q q ρ st := hq
    unfold jw at hq'
    split at hq'
    · rename_i n first captured hg
      obtain ⟨⟨fd, g1, g2, g3⟩, hcall⟩ := hq'
      refine wpIn_rangeFunc fun fn hfn => ?_
      have hgv := he.ev h g
      have hg : ev (cx.at kd).G ρ g = .func (.func n) first captured := hg
      rw [hg] at hgv
      generalize hg2 : a.eval g = gv at hgv
      cases hgv with
      | func _ h0 k1 k2 k3 k4 =>
      rename_i as bs
      obtain ⟨hfree, h1⟩ := h.more
      have hrec : HR (cx.at fun x => kd x || x == w.heap.size) (φ.ins st.n ⟨w.heap.size + 1, 0, 1, 0⟩) (st.new (.loop ⟨ρ, ps, x, y, .ready, none⟩)) ((w.alloc (.deferred (some []))).alloc (.loop { state := .ready, pending := none, fn, tmps := a.tmps, params := ps, assign := x, body := y, defers := w.heap.size })) :=
        h1.new _ _ _ (by simp) ⟨fn, a.tmps, w.heap.size, by
          have := World.alloc_heap_new (w.alloc (.deferred (some []))) (.loop { state := .ready, pending := none, fn, tmps := a.tmps, params := ps, assign := x, body := y, defers := w.heap.size })
          simpa using this, Nat.le_succ_of_le h.size, rfl, rfl, by rw [he.size]; exact ⟨Jj hps, qJ (fun d h => Cm h) hx, qJ (fun d h => Cm h) hy⟩, fun t => (he.slot t).mono (h1.fQ _)⟩
      have hleφ : φ.le (φ.ins st.n ⟨w.heap.size + 1, 0, 1, 0⟩) := h.fQ _
      have hev : ({ a with defers := [{ target := .collected w.heap.size, args := #[] }] ++ a.defers } : Act).eval g = .func (.func n) as bs := by rw [← hg2]; cases g <;> rfl
      have hent : ∀ W, (callFunc n (as ++ #[Value.func (.yield (w.heap.size + 1)) #[] #[]] ++ bs)).run cx.P W = .ok (.enter n (as ++ #[Value.func (.yield (w.heap.size + 1)) #[] #[]] ++ bs)) W := fun W => by
        unfold callFunc
        simp only [Sem.run_bind, run_program, Result.andThen_ok, g1, g3, Bool.false_eq_true, if_false]
        have : fd.body.isNone = false := by cases hbd : fd.body <;> simp_all
        rw [this]
        rfl
      have hlay := run_enterLoop_outer (P := cx.P) (w := w) fn a.tmps ps x y
      generalize hW : (w.alloc (.deferred (some []))).alloc (.loop { state := .ready, pending := none, fn, tmps := a.tmps, params := ps, assign := x, body := y, defers := w.heap.size }) = W at hlay hrec
      have hres : (resolve a.eval (rangeCall g (w.heap.size + 1)) 0).run cx.P W = .ok { target := .fn (.func n) bs, args := as ++ #[Value.func (.yield (w.heap.size + 1)) #[] #[]] } W := by
        have e : resolve a.eval (rangeCall g (w.heap.size + 1)) 0 = Deferred.ofValue (a.eval g) #[Value.func (.yield (w.heap.size + 1)) #[] #[]] := by
          simp only [resolve, rangeCall, List.map_toArray, List.map_cons, List.map_nil]
          rfl
        rw [e, hg2]
        rfl
      have hinv : (invoke (.fn (.func n) bs) (as ++ #[Value.func (.yield (w.heap.size + 1)) #[] #[]])).run cx.P W = .ok (.enter n (as ++ #[Value.func (.yield (w.heap.size + 1)) #[] #[]] ++ bs)) W := by
        simp only [invoke]
        exact hent W
      refine ⟨w.heap.size + 1, [{ target := .collected w.heap.size, args := #[] }], W, { target := .fn (.func n) bs, args := as ++ #[Value.func (.yield (w.heap.size + 1)) #[] #[]] }, W, n, as ++ #[Value.func (.yield (w.heap.size + 1)) #[] #[]] ++ bs, W,
        hlay, hres, fun _ _ => trivial, hinv, fun e => absurd (show (none : Option Nat).isSome = true from e) (by simp), ?_⟩
      · have hargs : VRL (φ.ins st.n ⟨w.heap.size + 1, 0, 1, 0⟩) (first.toList ++ [.func (.yield st.n) #[] #[]] ++ captured.toList) (as ++ #[Value.func (.yield (w.heap.size + 1)) #[] #[]] ++ bs).toList := by
          simp only [Array.toList_append]
          exact (((show VRA φ first as from ⟨k1, k2⟩).mono hleφ).toL.append (VRL.nil.cons (.yield (p := ⟨w.heap.size + 1, 0, 1, 0⟩) (by simp [Emb.ins])))).append ((show VRA φ captured bs from ⟨k3, k4⟩).mono hleφ).toL
        refine (callsIn_wide (n := 0 - 1)).2 ((hcall _ _ _ _ hrec hargs).mono fun e w' hew => ?_)
        have hmk : Ck fx (fun x => kd x || x == w.heap.size) ({ target := .collected w.heap.size, args := #[] } :: a.defers) := by
          obtain ⟨ms, m1, m2, _⟩ := he.defers
          exact ⟨{ target := .collected w.heap.size, args := #[] } :: ms, by rw [m1]; rfl, ⟨_, _, rfl, hfree, rfl, m2⟩, fun e => by have := hfl e; rw [hrf1] at this; cases this⟩
        cases e with
        | returned v =>
          obtain ⟨φ', V, st', x1, x2, x3, x4⟩ := hew
          unfold aend at x4
          split at x4
          · rename_i r hB
            obtain ⟨hnb, hleft⟩ := x4
            obtain ⟨p, fn', tmps', D', hp, e1, _, _, e3⟩ := x3.yC hB
            have hp2 : φ' st.n = some ⟨w.heap.size + 1, 0, 1, 0⟩ := x1 _ _ (by simp [Emb.ins])
            rw [hp2] at hp; injection hp with hp; subst hp
            refine ⟨_, _, run_endLoop e1 hnb, ?_⟩
            have h4 := (e3 .exhausted r.pend).kill st.n
            have hset : ∀ o, (st'.set st.n o).set st.n none = st'.set st.n none := fun o => by
              unfold St.set
              congr 1
              funext b
              by_cases e : b = st.n <;> simp [e]
            rw [hset] at h4
            have he4 : EnvR φ' fx (fun x => kd x || x == w.heap.size) ρ { a with defers := [{ target := .collected w.heap.size, args := #[] }] ++ a.defers } := ⟨he.size, hmk, fun t => (he.slot t).mono (Emb.le_trans hleφ x1), he.keep⟩
            have hle4 : φ0.le φ' := Emb.le_trans hle (Emb.le_trans hleφ x1)
            unfold GA at hleft
            split at hleft
            · rename_i hpd
              simp only [hpd]
              simp only [hpd] at h4
              exact aP rfl hle4 h4 he4 hleft
            · rename_i hpd
              simp only [hpd]
              simp only [hpd] at h4
              exact wpIn_ret (aP rfl hle4 h4 he4 hleft)
            · rename_i hpd
              simp only [hpd]
              simp only [hpd] at h4
              exact wpIn_exit (aP rfl hle4 h4 he4 hleft)
            · rename_i hpd
              simp only [hpd]
              simp only [hpd] at h4
              exact wpIn_goto (aP rfl hle4 h4 he4 hleft)
            · exact hleft.elim
          · exact x4.elim
        | panicked ch =>
          obtain ⟨φ', V, v, st', rfl, x1, x2, x3, x4⟩ := hew
          exact .inr ⟨_, φ', V, v, st', rfl, Emb.le_trans hle (Emb.le_trans hleφ x1), x2, x3, ⟨hmk, he.keep⟩, x4⟩
        | outgrown => exact hew.elim
    · exact hq'.elim
  | scope c _ => exact fun _ Q q kd φ0 φ ρ st a w hle h he hq => (show False from hq).elim
  | refuse s => exact fun _ Q q kd φ0 φ ρ st a w hle h he hq => (show False from hq).elim
def env0 (args : List Value) : Env := fun t => args.getD t undef
def tQ (P : Program) (ρ : Env) (st : St) : ResultVar → Option Value
  | .tmp t => some (ρ t)
  | .cell a t => kV P st t (ρ a)
def nG (P : Program) (ρ : Env) (st : St) : List ResultVar → Option (List Value)
  | [] => some []
  | r :: rs => match tQ P ρ st r, nG P ρ st rs with
    | some v, some vs => some (v :: vs)
    | _, _ => none
def ares (P : Program) (rs : Array ResultVar) (ρ : Env) (st : St) : Option Value :=
  match nG P ρ st rs.toList with
  | some [v] => some v
  | some vs => some (.tuple vs.toArray)
  | none => none
def retQ (P : Program) (rs : Array ResultVar) (k : Value → St → Prop) : Post := fun e ρ st => match e with
  | .normal | .ret => match ares P rs ρ st with
    | some v => k v st
    | none => False
  | _ => False
def resF (a : Act) : ResultVar → Sem Value
  | .tmp t => pure (a.tmps.getD t undef)
  | .cell x t => do loadVar t (← asAddr (a.tmps.getD x undef))
theorem rG {φ : Emb} {st : St} {w : World} {ρ : Env} {a : Act} (h : HR (cx.at kd) φ st w) (he : EnvR φ fx kd ρ a) : ∀ (rs : List ResultVar) (Vs : List Value), nG cx.P ρ st rs = some Vs →
    ∃ vs, (rs.mapM (resF a)).run cx.P w = .ok vs w ∧ VRL φ Vs vs
  | [], Vs, h' => by simp [nG] at h'; subst h'; exact ⟨[], rfl, VRL.nil⟩
  | r :: rs, Vs, h' => by
    unfold nG at h'
    split at h'
    · rename_i V Vs' h1 h2
      injection h' with h'; subst h'
      obtain ⟨vs, e1, e2⟩ := rG h he rs Vs' h2
      have one : ∃ v, (resF a r).run cx.P w = .ok v w ∧ VR φ V v := by
        cases r with
        | tmp t => simp [tQ] at h1; subst h1; exact ⟨_, rfl, he.slot t⟩
        | cell x t =>
          have h1' : kV cx.P st t (ρ x) = some V := h1
          unfold kV at h1'
          split at h1'
          · rename_i B off hx
            have hc := he.slot x
            rw [hx] at hc
            generalize hx2 : a.tmps.getD x undef = xv at hc
            cases hc with
            | ptr hp =>
              obtain ⟨v, r1, r2⟩ := rC h hp h1'
              refine ⟨v, ?_, r2⟩
              simp only [resF, hx2, asAddr, Sem.run_bind, Sem.run_pure, Result.andThen_ok]
              simpa [Instr.loadAt, Instr.sureAddr] using r1
          · cases h1'
      obtain ⟨v, r1, r2⟩ := one
      refine ⟨v :: vs, ?_, e2.cons r2⟩
      rw [List.mapM_cons]
      simp only [Sem.run_bind, Sem.run_pure, Result.andThen_ok]
      rw [r1]
      simp only [Result.andThen_ok]
      rw [e1]
      rfl
    · cases h'
theorem tT {φ : Emb} {st : St} {w : World} {ρ : Env} {a : Act} {fn : Func} {V : Value} (h : HR (cx.at kd) φ st w) (he : EnvR φ fx kd ρ a) (hr : ares cx.P fn.results ρ st = some V) :
    ∃ v, (results fn a.tmps).run cx.P w = .ok v w ∧ VR φ V v := by
  unfold ares at hr
  cases hl : nG cx.P ρ st fn.results.toList with
  | none => rw [hl] at hr; cases hr
  | some Vs =>
    rw [hl] at hr
    obtain ⟨vs, e1, e2⟩ := rG h he _ _ hl
    have hm : (fn.results.mapM (resF a)).run cx.P w = .ok vs.toArray w := by
      rw [Array.mapM_eq_mapM_toList, Sem.run_map, e1]
      rfl
    unfold results
    simp only [Sem.run_bind]
    refine ⟨if h : vs.toArray.size = 1 then vs.toArray[0] else .tuple vs.toArray, ?_, ?_⟩
    · refine (congrArg (fun r => Result.andThen r _) hm).trans ?_
      rfl
    · have := e2.1
      match Vs, vs, e2, hr with
      | [V1], [v1], e2, hr => injection hr with hr; subst hr; obtain ⟨v', r', e, hv, _⟩ := e2.bO; injection e with e3 e4; subst e3; simpa using hv
      | [], [], e2, hr => injection hr with hr; subst hr; exact .junk _
      | V1 :: V2 :: R, v1 :: v2 :: r, e2, hr => injection hr with hr; subst hr; have := e2.toA; simpa using VR.tuple this.1 this.2
theorem ay.of (hm : cx.P.follows .mixedOrders = true) {f : Nat} {fn : Func} {c : Code} {args : List Value} {st : St} {k q : Value → St → Prop} (hf : cx.P.funcs[f]? = some fn) (hb : fn.body = some c) (hN : okC fn.ntmps c = true) (hl : args.length ≤ fn.ntmps)
    (h : awp cx c (retQ cx.P fn.results k) q (env0 args) st) : ay cx f args st k q := by
  intro kd φ w vals hr hv
  have hsz : vals.size = args.length := by have := hv.1; simpa using this.symm
  have he : EnvR φ ⟨fn.ntmps, kd, [], fun _ => none, false⟩ kd (env0 args) { tmps := vals ++ Array.replicate (fn.ntmps - vals.size) undef, defers := [] } := by
    refine ⟨by simp; omega, ⟨[], rfl, rfl, fun _ => rfl⟩, fun t => ?_, fun _ _ h => by cases h⟩
    unfold env0
    by_cases ht : t < args.length
    · obtain ⟨v, h1, h2⟩ := hv.2 t args[t] (by simp [ht])
      have e1 : args.getD t undef = args[t] := by simp [List.getD, ht]
      have hts : t < vals.size := by omega
      rw [e1, Array.getD_eq_getD_getElem?, Array.getElem?_append_left hts]
      rw [← Array.getElem?_toList, h1]
      exact h2
    · have e1 : args.getD t undef = undef := by simp [List.getD, List.getElem?_eq_none (by omega : args.length ≤ t)]
      rw [e1]
      exact .junk _
  refine (callsIn_wide (n := 0)).1 (callsIn_of_wp_marks hf hb trivial (wpIn_mono (iC (ro := none) (fx := ⟨fn.ntmps, kd, [], fun _ => none, false⟩) hm (fun _ => rfl) (fun e => by cases e) c hN _ q kd φ φ _ st _ w (Emb.le_refl _) hr he h) fun e a' w' hl => ?_))
  rcases hl with ⟨kd', φ', ρ', st', hp, hle', h', he', hq'⟩ | ⟨kd', φ', V, v, st', rfl, hle', hv, h', hd, hq'⟩
  · have ret : ∀ (hq' : match ares cx.P fn.results ρ' st' with | some v => k v st' | none => False), LeavesInM Fence.wide 0 cx.P fn a'.tmps (fun e w' => match e with
        | .returned v => ∃ φ' V st', φ.le φ' ∧ VR φ' V v ∧ HR (cx.at kd) φ' st' w' ∧ k V st'
        | .panicked ch => ∃ φ' V v st', ch = [{ v := v, recovered := false }] ∧ φ.le φ' ∧ VR φ' V v ∧ HR (cx.at kd) φ' st' w' ∧ q V st'
        | .outgrown => False) a'.defers .returning w' := by
      intro hq'
      cases hres : ares cx.P fn.results ρ' st' with
      | none => rw [hres] at hq'; exact hq'.elim
      | some V =>
        rw [hres] at hq'
        obtain ⟨ms, em, hms, _⟩ := he'.defers
        rw [em]
        refine dW (cx := cx) (by simp) rfl (fun w'' h'' => ?_) ms _ _ hms h'
        have he'' : EnvR φ' ⟨fn.ntmps, kd, [], fun _ => none, false⟩ kd ρ' { tmps := a'.tmps, defers := [] } := ⟨he'.size, ⟨[], rfl, rfl, fun _ => rfl⟩, he'.slot, fun _ _ h => by cases h⟩
        obtain ⟨v, r1, r2⟩ := tT (fn := fn) h'' he'' hres
        exact ⟨v, r1, φ', V, st', hle', r2, h'', hq'⟩
    cases e with
    | normal => exact ret hq'
    | ret => exact ret hq'
    | exit i => exact hq'.elim
    | goto i => exact hq'.elim
    | panic ch => cases hp
    | outgrown => cases hp
  · obtain ⟨⟨ms, em, hms, _⟩, _⟩ := hd
    show LeavesInM Fence.wide 0 cx.P fn a'.tmps _ a'.defers _ w'
    rw [em]
    refine dW (cx := cx) (by simp) rfl (fun w'' h'' => ?_) ms _ _ hms h'
    exact (show ∃ φ' V v' st', [({ v := v, recovered := false } : PanicEntry)] = [{ v := v', recovered := false }] ∧ φ.le φ' ∧ VR φ' V v' ∧ HR (cx.at kd) φ' st' w'' ∧ q V st' from ⟨φ', V, v, st', rfl, hle', hv, h'', hq'⟩)
def putP (ρ : Env) : List Nat → List Value → Env
  | p :: ps, v :: vs => putP (put ρ p v) ps vs
  | _, _ => ρ
def wH (B : Nat) (k : Value → St → Prop) (jump : Option Code) (st : St) : Option Ob → Prop
  | some (.loop r) => k (.bool jump.isNone) (st.set B (some (.loop { r with state := if jump.isNone then .ready else .done, pend := jump })))
  | _ => False
def KI (B : Nat) (k : Value → St → Prop) : Post := fun e _ st => match e with
  | .normal => wH B k none st (st.H B)
  | .ret => wH B k (some .ret) st (st.H B)
  | .exit i => wH B k (some (.exit i)) st (st.H B)
  | .goto l => wH B k (some (.goto l)) st (st.H B)
  | _ => False
def Cn (B : Nat) (k : St → Prop) (st : St) : Option Ob → Prop
  | some (.loop r) => r.state = .ready ∧ k (st.set B (some (.loop { r with state := .busy })))
  | _ => False
def KJ (B : Nat) (F : Env → St → Prop) : Post := fun e ρ st => match e with
  | .normal => Cn B (F ρ) st (st.H B)
  | _ => False
theorem wI {φ : Emb} : ∀ {ps : List Nat} {args vals : List Value} {ρ : Env} {tmps : Array Value}, (∀ p ∈ ps, p < tmps.size) → VRL φ args vals → ps.length = args.length → (∀ t, VR φ (ρ t) (tmps.getD t undef)) →
    ∀ t, VR φ (putP ρ ps args t) (((ps.zip vals).foldl (fun tmps (x : Nat × Value) => tmps.setIfInBounds x.1 x.2) tmps).getD t undef)
  | [], [], vals, ρ, tmps, _, _, _, h, t => by simpa [putP] using h t
  | p :: ps, a :: as, vals, ρ, tmps, hp, hv, hl, h, t => by
    obtain ⟨v, vs, rfl, h1, h2⟩ := hv.bO
    simp only [putP, List.zip_cons_cons, List.foldl_cons]
    refine wI (fun p' hp' => by simpa using hp p' (by simp [hp'])) h2 (by simpa using hl) (fun t => ?_) t
    by_cases e : t = p
    · subst e
      have := hp t (by simp)
      simp only [Abs.put, if_true]
      rw [Array.getD_eq_getD_getElem?, Array.getElem?_setIfInBounds_self_of_lt this]
      exact h1
    · simp only [Abs.put, if_neg e]
      rw [Array.getD_eq_getD_getElem?, Array.getElem?_setIfInBounds_ne (Ne.symm e), ← Array.getD_eq_getD_getElem?]
      exact h t
theorem tV : ∀ (l : List (Nat × Value)) (tmps : Array Value), (l.foldl (fun tmps (x : Nat × Value) => tmps.setIfInBounds x.1 x.2) tmps).size = tmps.size
  | [], _ => rfl
  | x :: l, tmps => by rw [List.foldl_cons, tV l]; simp
theorem kW.of (hm : cx.P.follows .mixedOrders = true) {B : Nat} {r : ARec} {args : List Value} {st : St} {k : Value → St → Prop} (hB : st.H B = some (.loop r)) (hl : r.ps.size = args.length)
    (h : awp cx r.assign (KJ B fun ρ st => awp cx r.body (KI B k) (fun _ _ => False) ρ st) (fun _ _ => False) (putP r.ρ r.ps.toList args) st) : kW cx B args st k := by
  intro kd φ w vals p hr hp hv
  obtain ⟨p', fn, tmps, D, hp', h1, ⟨h2, h3, h4⟩, h5, h6⟩ := hr.yC hB
  rw [hp] at hp'; injection hp' with hp'; subst hp'
  have hsz : vals.size = r.ps.size := by have := hv.1; simp at this; omega
  refine ⟨_, _, _, _, run_yield h1 hsz, roundIn_of_wpIn trivial ?_⟩
  have hfx : ((r.ps.zip vals).foldl (fun tmps (t, a) => tmps.setIfInBounds t a) tmps).size = tmps.size := by
    rw [← Array.foldl_toList]
    exact tV _ _
  have he : EnvR φ ⟨tmps.size, kd, [], fun _ => none, false⟩ kd (putP r.ρ r.ps.toList args) { tmps := (r.ps.zip vals).foldl (fun tmps (t, a) => tmps.setIfInBounds t a) tmps, defers := [] } := by
    refine ⟨hfx, ⟨[], rfl, rfl, fun _ => rfl⟩, fun t => ?_, fun _ _ h => by cases h⟩
    have := wI (ps := r.ps.toList) (fun p hp => by
      have := Array.all_eq_true'.1 h2 p (by simpa using hp)
      simpa using this) hv (by simpa using hl) h5 t
    rw [← Array.foldl_toList, Array.toList_zip]
    exact this
  refine wpIn_mono (iC (rf := false) (ro := some p.blk) (fx := ⟨tmps.size, kd, [], fun _ => none, false⟩) hm (fun e => by cases e) (fun e => by cases e) r.assign h3 _ _ kd φ φ _ st _ w (Emb.le_refl _) hr he h) fun e a' w' hl => ?_
  rcases hl with ⟨kd', φ', ρ', st', hpl, hle', h', he', hq'⟩ | ⟨kd', φ', V, v, st', rfl, hle', hv, h', hd, hq'⟩
  case inr => exact hq'.elim
  have turn : ∀ {φ' : Emb} {st' : St} {w' : World} {kd' : Nat → Bool} (h' : HR (cx.at kd') φ' st' w') {r' : ARec} (hB' : st'.H B = some (.loop r')) (hle : φ.le φ'), ∃ (r2 : Loop), w'.heap[p.blk]? = some (.loop r2) ∧ r2.state = r'.state ∧
      ∀ (s : LoopState) (pd : Option Code), HR (cx.at kd') φ' (st'.set B (some (.loop { r' with state := s, pend := pd }))) (w'.putObj p.blk (.loop { r2 with state := s, pending := pd })) := by
    intro φ' st' w' kd' h' r' hB' hle
    obtain ⟨p', fn, tmps, D, hp', g1, _, _, g6⟩ := h'.yC hB'
    rw [hle _ _ hp] at hp'; injection hp' with hp'; subst hp'
    exact ⟨_, g1, rfl, g6⟩
  cases e with
  | normal =>
    have hq1 : Cn B _ st' (st'.H B) := hq'
    unfold Cn at hq1
    split at hq1
    · rename_i r1 hB1
      obtain ⟨hst, hbody⟩ := hq1
      obtain ⟨r2, g1, g2, g3⟩ := turn h' hB1 hle'
      refine ⟨_, run_beginRound g1 (by rw [g2, hst]), ?_⟩
      have g4 := g3 .busy r1.pend
      have hsame : ({ r2 with state := LoopState.busy, pending := r1.pend } : Loop) = { r2 with state := .busy } := by
        obtain ⟨p', fn', tmps', D', hp', g1', _⟩ := h'.yC hB1
        rw [hle' _ _ hp] at hp'; injection hp' with hp'; subst hp'
        rw [g1] at g1'
        injection g1' with g1'; injection g1' with g1'
        subst g1'
        rfl
      rw [hsame] at g4
      refine wpIn_mono (iC (rf := false) (ro := some p.blk) (fx := ⟨tmps.size, kd, [], fun _ => none, false⟩) hm (fun e => by cases e) (fun e => by cases e) r.body h4 _ _ kd' φ φ' _ _ _ _ hle' g4 he' hbody) fun e a'' w'' hl => ?_
      rcases hl with ⟨kd2, φ2, ρ2, st2, hpl2, hle2, h2', he2, hq2⟩ | ⟨kd2, φ2, V, v, st2, rfl, hle2, hv, h2', hd, hq2⟩
      case inr => exact hq2.elim
      have fin : ∀ (jump : Option Code), wH B k jump st2 (st2.H B) → ∃ v w', (Instr.endRound p.blk jump).run cx.P w'' = .ok v w' ∧ ∃ φ' V st', φ.le φ' ∧ VR φ' V v ∧ HR (cx.at kd) φ' st' w' ∧ k V st' := by
        intro jump ht
        unfold wH at ht
        split at ht
        · rename_i r3 hB3
          obtain ⟨r4, e1, e2, e3⟩ := turn h2' hB3 hle2
          exact ⟨_, _, run_endRound jump e1, φ2, _, _, hle2, .bool _, (e3 _ jump).fewer (by obtain ⟨ms, _, hms, _⟩ := he2.defers; exact hms.le), ht⟩
        · exact ht.elim
      cases e with
      | normal => exact fin none hq2
      | ret => exact fin (some .ret) hq2
      | exit i => exact fin (some (.exit i)) hq2
      | goto l => exact fin (some (.goto l)) hq2
      | panic ch => cases hpl2
      | outgrown => cases hpl2
    · exact hq1.elim
  | exit i => exact hq'.elim
  | goto i => exact hq'.elim
  | ret => exact hq'.elim
  | panic ch => cases hpl
  | outgrown => cases hpl
end
end Go.Abs
