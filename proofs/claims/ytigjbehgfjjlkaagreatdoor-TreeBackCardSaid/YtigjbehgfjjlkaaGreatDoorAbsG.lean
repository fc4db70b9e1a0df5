/- One operation, whichever: what it does to the abstract heap; that the model's does the same. -/
import Derived.Test.YtigjbehgfjjlkaaGreatDoorAbsF
import Derived.Lib.Builder
set_option linter.unusedVariables false
set_option linter.unusedSimpArgs false
namespace Go.Abs
open Go.RowKit
section
variable {cx : Cx} {φ : Emb} {st : St} {w : World}
def aun (op : UnOp) (x : Value) : Option Value :=
  match op, x with
  | .neg, .int k n => some (.int k (k.wrap (0 - n)))
  | .xor, .int k n => some (.int k (bits .xor k (if k.signed then -1 else k.max) n))
  | .not, .bool b => some (.bool !b)
  | _, _ => none
theorem ET {op : UnOp} {X x V : Value} (hx : VR φ X x) (h : aun op X = some V) : (Op.unary op x).run cx.P w = .ok V w ∧ VR φ V V := by
  unfold aun at h
  split at h
  · injection h with h; subst h; obtain rfl := hx.bA; exact ⟨by simp [Op.unary, Op.intArith], by constructor⟩
  · injection h with h; subst h; obtain rfl := hx.bA; exact ⟨by simp [Op.unary, intBits_xor], by constructor⟩
  · injection h with h; subst h; obtain rfl := hx.gM; exact ⟨by simp [Op.unary], by constructor⟩
  · cases h
def u8s : List Value → Option (List Int)
  | [] => some []
  | .int .u8 n :: r => (u8s r).map (n :: ·)
  | _ :: _ => none
theorem yg : ∀ {l : List Value} {ns : List Int}, u8s l = some ns → l = ns.map (Value.int .u8)
  | [], ns, h => by simp [u8s] at h; subst h; rfl
  | v :: r, ns, h => by
    unfold u8s at h
    split at h
    · rename_i heq; cases heq
    · rename_i n r' heq
      injection heq with h1 h2
      subst h1 h2
      cases hr : u8s r with
      | none => simp [hr] at h
      | some ms => simp [hr] at h; subst h; rw [yg hr]; rfl
    · cases h
def strOf (ns : List Int) : ByteArray := ⟨(ns.map fun n => UInt8.ofNat n.toNat).toArray⟩
theorem rD : ∀ (ns : List Int) (r : ByteArray), ns.foldl (fun r n => r.push (UInt8.ofNat n.toNat)) r = ⟨r.data ++ (ns.map fun n => UInt8.ofNat n.toNat).toArray⟩
  | [], r => by simp
  | n :: ns, r => by
    rw [List.foldl_cons, rD ns]
    congr 1
    apply Array.ext'
    simp [ByteArray.push]
def kT (s : ByteArray) : List Value := s.data.toList.map fun b => .int .u8 b.toNat
def isU8 : Option TypeDesc → Bool
  | some (.int .u8) => true
  | _ => false
theorem EU {d : Option TypeDesc} (h : isU8 d = true) : d = some (.int .u8) := by
  unfold isU8 at h
  split at h
  · rfl
  · cases h
def dL (P : Program) (st : St) (src dst : TypeId) (x : Value) : Option (Value × St) :=
  match P.underlying src, P.underlying dst, x with
  | some _, some (.int k), .int _ n => some (.int k (k.wrap n), st)
  | some _, some .string, .string s => some (.string s, st)
  | some _, some .string, .int _ n => some (.string (Utf8.encode n), st)
  | some (.slice e), some .string, .slice a len cap => match P.underlying e with
    | some (.int .u8) => match asrc st 1 (.slice a len cap) with
      | some (_, Cs) => (u8s Cs).map fun ns => (.string (strOf ns), st)
      | none => none
    | _ => none
  | some .string, some (.slice e), .string s => match P.underlying e, asz P e with
    | some (.int .u8), some 1 => some (.slice (some ⟨st.n, 0, some 0⟩) s.size s.size, st.new (.cells (kT s) e true))
    | _, _ => none
  | some (.slice _), some (.slice e), .slice (some ⟨B, off, sp⟩) len cap => match P.underlying e, st.H B with
    | some (.int .u8), some (.cells _ ty true) => if src = dst ∧ 0 < cap ∧ isU8 (P.underlying ty) = true then some (.slice (some ⟨B, off, sp⟩) len cap, st) else none
    | _, _ => none
  | some (.pointer t), some .unsafePointer, .pointer (some ⟨B, off, none⟩) => match st.H B, asz P t with
    | some (.cells cs _ true), some (_ + 1) => if off < cs.length then some (.pointer (some ⟨B, off, none⟩), st) else none
    | _, _ => none
  | some .unsafePointer, some (.pointer u), .pointer (some ⟨B, off, none⟩) => match st.H B, asz P u with
    | some (.cells cs ty true), some (n + 1) => if ty = u ∧ off % (n + 1) = 0 ∧ off + (n + 1) ≤ cs.length then some (.pointer (some ⟨B, off, none⟩), st) else none
    | _, _ => none
  | _, _, _ => none
theorem zY {P : Program} {t : TypeId} {n : Nat} (h : asz P t = some n) : ∃ j, P.info? t = some j ∧ j.size = n := by
  unfold asz at h
  cases hi : P.info? t with
  | none => simp [hi] at h
  | some i => simp [hi] at h; exact ⟨i, rfl, h⟩
theorem zZ {P : Program} {e : TypeId} {n off cells : Nat} (hc : P.cellsOf e = n + 1) (hal : off % (n + 1) = 0) (hle : off + (n + 1) ≤ cells) : liesAt P P.depth e (cells / P.cellsOf e) off e 1 = true := by
  have hd : P.depth = (2 * (P.types.size + Made.depth) + 1) + 1 := rfl
  have h1 : off / (n + 1) + 1 ≤ cells / (n + 1) := by
    have h2 : off = (n + 1) * (off / (n + 1)) := by have := Nat.div_add_mod off (n + 1); omega
    rw [Nat.le_div_iff_mul_le (by omega), Nat.add_mul, Nat.mul_comm (off / (n + 1))]
    omega
  rw [hd]
  simp only [liesAt, Bool.or_eq_true]
  left
  rw [hd]
  simp only [rowAt, hc]
  simp [hal, h1, sameLayout]
theorem VRL.LG {ns : List Int} {k : IntKind} {as : List Value} (h : VRL φ (ns.map (Value.int k)) as) : as = ns.map (Value.int k) := by
  apply List.ext_getElem?
  intro i
  by_cases hi : i < ns.length
  · obtain ⟨v, hv, hr⟩ := h.2 i (.int k ns[i]) (by simp [hi])
    rw [hv, hr.bA]
    simp [hi]
  · rw [List.getElem?_eq_none (by rw [← h.1]; simpa using hi), List.getElem?_eq_none (by simpa using hi)]
theorem z8 (s : ByteArray) : VRL φ (kT s) (kT s) := by
  refine ⟨rfl, fun i V hi => ⟨V, hi, ?_⟩⟩
  unfold kT at hi
  rw [List.getElem?_map] at hi
  cases hb : s.data.toList[i]? with
  | none => rw [hb] at hi; cases hi
  | some b => rw [hb] at hi; injection hi with hi; subst hi; exact .int _ _
theorem HR.mark (h : HR cx φ st w) {B : Nat} {cs : List Value} {ty : TypeId} {p : Pl} (hu : cx.P.underlying ty = some (.int .u8)) (hB : st.H B = some (.cells cs ty true)) (hp : φ B = some p) (off : Nat) :
    ∃ w', (markStringish ⟨p.blk, off, none⟩).run cx.P w = .ok () w' ∧ HR cx φ st w' := by
  obtain ⟨p0, hp0, hop⟩ := h.live B _ hB
  rw [hp] at hp0; injection hp0 with hp0; subst hp0
  have hop' := hop
  obtain ⟨ccs, fz, h1, h2, h3, h4, h5, h6⟩ := hop
  obtain ⟨lo, hi⟩ := fz
  have hsh : w.shape? p.blk = some (ty, ccs.size) ∨ ∃ t', w.shape? p.blk = some (t', ccs.size) := by
    simp [World.shape?, h1]
  obtain ⟨t', hsh⟩ : ∃ t', w.shape? p.blk = some (t', ccs.size) := by
    rcases hsh with e | e
    · exact ⟨_, e⟩
    · exact e
  refine ⟨w.freeze ⟨p.blk, ccs.size, none⟩ 1, by simp [markStringish, hsh], ?_⟩
  have hfz : ∃ fz' : Nat × Nat, (fz'.1 = fz'.2 ∨ (ccs.size ≤ fz'.1 ∧ cx.P.underlying ty = some (.int .u8))) ∧ (w.freeze ⟨p.blk, ccs.size, none⟩ 1).heap[p.blk]? = some (.cells ccs ty fz') := by
    have h7 := (h6 rfl).2.2
    refine ⟨if lo == hi then (ccs.size, ccs.size + 1) else (min lo ccs.size, max hi (ccs.size + 1)), ?_, ?_⟩
    · by_cases e : lo = hi
      · rw [if_pos (by simpa using e)]; exact .inr ⟨Nat.le_refl _, hu⟩
      · rw [if_neg (by simpa using e)]
        rcases h7 with h7 | ⟨h7, _⟩
        · exact absurd h7 e
        · exact .inr ⟨by simp at h7 ⊢; omega, hu⟩
    · unfold World.freeze
      rw [if_neg (by decide)]
      simp [Array.getElem?_modify, h1]
  have hoth : ∀ g, g ≠ p.blk → (w.freeze ⟨p.blk, ccs.size, none⟩ 1).heap[g]? = w.heap[g]? := fun g hg => by
    unfold World.freeze
    rw [if_neg (by decide)]
    simp [Array.getElem?_modify, Ne.symm hg]
  obtain ⟨fz', hz, hblk⟩ := hfz
  have hbel : Below cx.base w (w.freeze ⟨p.blk, ccs.size, none⟩ 1) := by
    refine ⟨rfl, rfl, rfl, ?_, fun k hk => hoth k (by have := (h6 rfl).1; omega)⟩
    unfold World.freeze
    rw [if_neg (by decide)]
    simp
  have := h.turn (o' := .cells cs ty true) hB hp rfl rfl hbel hoth (fun q hq _ o1 ho1 hown _ => ?_) ⟨ccs, fz', hblk, h2, h3, h4, h5, fun _ => ⟨(h6 rfl).1, (h6 rfl).2.1, hz⟩⟩
  · rw [set_self hB] at this
    exact this
  · exact ho1.mono (Emb.le_refl _) (hoth _ hq)
theorem Aa (h : HR cx φ st w) {src dst : TypeId} {X x V : Value} {st' : St} (hx : VR φ X x) (ha : dL cx.P st src dst X = some (V, st')) : Out cx φ V st' ((convert src dst x).run cx.P w) := by
  unfold dL at ha
  split at ha
  · rename_i d k k' n hs hd
    injection ha with ha; simp only [Prod.mk.injEq] at ha; obtain ⟨rfl, rfl⟩ := ha
    obtain rfl := hx.bA
    exact ⟨φ, _, w, by simp [convert, run_underlying hs, run_underlying hd, Conv.intToInt], Emb.le_refl _, .int _ _, h⟩
  · rename_i d s hs hd
    injection ha with ha; simp only [Prod.mk.injEq] at ha; obtain ⟨rfl, rfl⟩ := ha
    obtain rfl := hx.bS
    exact ⟨φ, _, w, by simp [convert, run_underlying hs, run_underlying hd], Emb.le_refl _, .string _, h⟩
  · rename_i d k n hs hd
    injection ha with ha; simp only [Prod.mk.injEq] at ha; obtain ⟨rfl, rfl⟩ := ha
    obtain rfl := hx.bA
    exact ⟨φ, _, w, by simp [convert, run_underlying hs, run_underlying hd, Conv.intToString], Emb.le_refl _, .string _, h⟩
  · rename_i e a len cap hs hd
    split at ha
    case h_2 => cases ha
    rename_i he
    split at ha
    case h_2 => cases ha
    rename_i m Cs hsrc
    cases hu : u8s Cs with
    | none => simp [hu] at ha
    | some ns =>
      simp [hu] at ha
      obtain ⟨rfl, rfl⟩ := ha
      obtain rfl := yg hu
      obtain ⟨hl, hlen, hread⟩ := fZ h hx hsrc
      obtain ⟨cs, hr, hrun⟩ := hread m (Nat.le_refl _)
      rw [← hl, List.take_length] at hr
      obtain rfl := hr.LG
      have hrun := hrun w rfl
      have key : ∀ (a' : Option Addr) (cap' : Nat), x = .slice a' len cap' → (convert src dst x).run cx.P w = .ok (.string (strOf ns)) w := by
        intro a' cap' e1
        subst e1
        rw [run_convert_bytes_string w src dst e a' len cap' hs he hd]
        have hm : m = len := by simp [Builtin.lenOf] at hlen; exact hlen.symm
        subst hm
        cases a' with
        | none =>
          have hns : ns = [] := by
            simp [Builtin.firstCells] at hrun
            exact hrun
          subst hns
          rfl
        | some a' =>
          have hld : (loadCells a' m).run cx.P w = .ok (ns.map (Value.int .u8)).toArray w := by simpa [Builtin.firstCells] using hrun
          rw [run_bytesToString w a' m cap' ns hld, rD]
          simp [strOf, ByteArray.empty, ByteArray.emptyWithCapacity]
          rfl
      have hshape : ∃ a' cap', x = .slice a' len cap' := by cases hx <;> exact ⟨_, _, rfl⟩
      obtain ⟨a', cap', e1⟩ := hshape
      exact ⟨φ, _, w, key a' cap' e1, Emb.le_refl _, .string _, h⟩
  · rename_i e s hs hd
    split at ha
    · rename_i he hsz
      injection ha with ha; simp only [Prod.mk.injEq] at ha; obtain ⟨rfl, rfl⟩ := ha
      obtain rfl := hx.bS
      have hrun := run_bytes_of_string (P := cx.P) w src dst e s hs hd he
      have hge : s.size ≤ grownCap w s.size 0 e := grownCap_ge w s.size 0 e
      have hN : (bytesRow s (grownCap w s.size 0 e)).size = grownCap w s.size 0 e := by
        simp [bytesRow]; omega
      have hsz' := eH hsz
      refine ⟨φ.ins st.n ⟨w.heap.size, 0, grownCap w s.size 0 e, 1⟩, _, _, hrun, h.fQ _, .slcO (by simp [Emb.ins]; rfl) (Nat.le_refl _) hge (.inr (.inr (by simp))) (.inl rfl), ?_⟩
      refine h.drew.new _ _ _ rfl ?_
      refine ⟨bytesRow s (grownCap w s.size 0 e), _, heap_alloc_new _ _, by simp [kT]; omega, by simp [hN], fun i V hi => ?_, (fun e => by cases e), (fun _ => ⟨h.size, ⟨hsz', Nat.zero_mod _⟩, .inr ⟨by simp [hN], he⟩⟩)⟩
      obtain ⟨v, hv, hr⟩ := (z8 (φ := φ) s).2 i V hi
      refine ⟨v, ?_, hr.mono (h.fQ _)⟩
      have hl := (List.getElem?_eq_some_iff.1 hv).1
      unfold bytesRow
      rw [Nat.zero_add, Array.getElem?_append_left (by simpa [kT] using hl)]
      rw [← hv]
      simp [kT]
    · cases ha
  · rename_i e0 e B off sp len cap hs hd
    split at ha
    · rename_i cs0 ty he hB
      split at ha
      · rename_i hc
        obtain ⟨rfl, hcap, hu8⟩ := hc
        have hu8 := EU hu8
        injection ha with ha; simp only [Prod.mk.injEq] at ha; obtain ⟨rfl, rfl⟩ := ha
        have key : ∀ (p : Pl) (a : Addr) (cap' : Nat), φ B = some p → a = ⟨p.blk, p.off + off, none⟩ → VR φ (.slice (some ⟨B, off, sp⟩) len cap) (.slice (some a) len cap') →
            Out cx φ (.slice (some ⟨B, off, sp⟩) len cap) st ((convert src src (.slice (some a) len cap')).run cx.P w) := by
          intro p a cap' hp e1 hv
          subst e1
          obtain ⟨w', h1, h2⟩ := h.mark hu8 hB hp (p.off + off)
          refine ⟨φ, _, w', ?_, Emb.le_refl _, hv, h2⟩
          simp [convert, run_underlying hd, run_underlying he, h1]
        cases hx with
        | slcX hp hl ha' => exact key _ _ _ hp (by rcases ha' with e1 | e1; exact e1; omega) (.slcX hp hl ha')
        | slcO hp hl hc hw ha' => exact key _ _ _ hp (by rcases ha' with e1 | e1; exact e1; omega) (.slcO hp hl hc hw ha')
      · cases ha
    · cases ha
  · rename_i t B off hs hd
    split at ha
    · rename_i cs ty n hB hn
      split at ha
      · rename_i hlt
        injection ha with ha; simp only [Prod.mk.injEq] at ha; obtain ⟨rfl, rfl⟩ := ha
        cases hx with
        | ptr hp =>
          rename_i p
          obtain ⟨p0, hp0, ccs, fz, h1, h2, h3, h4, h5, h6⟩ := h.live B _ hB
          rw [hp] at hp0; injection hp0 with hp0; subst hp0
          obtain ⟨j, hj, hjs⟩ := zY hn
          exact ⟨φ, _, w, Go.Lib.run_to_unsafe (e := ty) (cells := ccs.size) w _ hs hd hj (by simp [hjs]) (by simp [World.shape?, h1]) (by show p.off + off < ccs.size; omega), Emb.le_refl _, .ptr hp, h⟩
      · cases ha
    · cases ha
  · rename_i u B off hs hd
    split at ha
    · rename_i cs ty n hB hn
      split at ha
      · rename_i hc
        obtain ⟨rfl, hal, hle⟩ := hc
        injection ha with ha; simp only [Prod.mk.injEq] at ha; obtain ⟨rfl, rfl⟩ := ha
        cases hx with
        | ptr hp =>
          rename_i p
          obtain ⟨p0, hp0, ccs, fz, h1, h2, h3, h4, h5, h6⟩ := h.live B _ hB
          rw [hp] at hp0; injection hp0 with hp0; subst hp0
          obtain ⟨j, hj, hjs⟩ := zY hn
          have hsz := (h6 rfl).2.1.1
          have hal2 := (h6 rfl).2.1.2
          rw [← hsz, eH hn] at hal2
          refine ⟨φ, _, w, Go.Lib.run_from_unsafe (e := ty) (cells := ccs.size) w _ hs hd hj (by simp [World.shape?, h1]) ?_, Emb.le_refl _, .ptr hp, h⟩
          exact zZ (eH hn) (by show (p.off + off) % (n + 1) = 0; rw [Nat.add_mod, hal2, hal]; exact Nat.zero_mod _) (by show p.off + off + (n + 1) ≤ ccs.size; omega)
      · cases ha
    · cases ha
  · cases ha
def alen (P : Program) (st : St) (t : TypeId) (x : Value) : Option Value :=
  match P.underlying t, x with
  | some .string, .string s => some (.int .i64 s.size)
  | some (.slice _), .slice _ n _ => some (.int .i64 n)
  | some (.array n _), _ => some (.int .i64 n)
  | some (.map _ _), .map none => some (.int .i64 0)
  | some (.map _ _), .map (some B) => match st.H B with
    | some (.map es _) => some (.int .i64 es.length)
    | _ => none
  | _, _ => none
theorem HR.LH (h : HR cx φ st w) {B : Nat} {es : List MapEntry} {clock : Nat} (hB : st.H B = some (.map es clock)) :
    ∃ p ces, φ B = some p ∧ w.heap[p.blk]? = some (.map ces clock) ∧ es.length = ces.size ∧ ∀ (i : Nat) (E : MapEntry), es[i]? = some E → ∃ e, ces[i]? = some e ∧ EntR φ E e := by
  obtain ⟨p, hp, ces, h1, h2, h3, h4, h5, h6⟩ := h.live B _ hB
  exact ⟨p, ces, hp, h1, h5, h6⟩
theorem Ce (h : HR cx φ st w) {t ty : TypeId} {tys : Array TypeId} {X x V : Value} (ht : tys[0]? = some t) (hx : VR φ X x) (ha : alen cx.P st t X = some V) :
    (Builtin.len_ tys ty #[x]).run cx.P w = .ok V w ∧ VR φ V V := by
  unfold alen at ha
  split at ha
  · rename_i s hu
    injection ha with ha; subst ha; obtain rfl := hx.bS
    exact ⟨by simp [Builtin.len_, ht, run_underlying hu, goInt], .int _ _⟩
  · rename_i a n c hu
    injection ha with ha; subst ha
    refine ⟨?_, .int _ _⟩
    cases hx <;> simp [Builtin.len_, ht, run_underlying hu, goInt]
  · rename_i n e hu
    injection ha with ha; subst ha
    exact ⟨by simp [Builtin.len_, ht, run_underlying hu, goInt], .int _ _⟩
  · rename_i k e hu
    injection ha with ha; subst ha
    refine ⟨?_, .int _ _⟩
    cases hx; simp [Builtin.len_, ht, run_underlying hu, goInt]
  · rename_i k e B hu
    split at ha
    · rename_i es clock hB
      injection ha with ha; subst ha
      refine ⟨?_, .int _ _⟩
      obtain ⟨p, ces, hp, h1, h2, _⟩ := h.LH hB
      cases hx with
      | @map _ q hq =>
        rw [hp] at hq; injection hq with hq; subst hq
        simp [Builtin.len_, ht, run_underlying hu, goInt, getObj, Sem.run, h1, h2]
    · cases ha
  · cases ha
def amm (mx : Bool) : Value → List Value → Option Value
  | v, [] => some v
  | .int k x, .int _ y :: r => amm mx (.int k (if mx then (if y > x then y else x) else (if y < x then y else x))) r
  | _, _ :: _ => none
theorem nD : ∀ {Vs vs : List Value} {X x V : Value}, VR φ X x → VRL φ Vs vs → amm true X Vs = some V → ∃ v, (vs.foldlM Builtin.max2 x).run cx.P w = .ok v w ∧ VR φ V v
  | [], vs, X, x, V, hx, hv, h => by
    have : vs = [] := List.eq_nil_of_length_eq_zero (by have := hv.1; simpa using this.symm)
    subst this
    simp [amm] at h
    subst h
    exact ⟨x, rfl, hx⟩
  | Y :: Vs, vs, X, x, V, hx, hv, h => by
    obtain ⟨y, vs', rfl, hy, hv'⟩ := hv.bO
    unfold amm at h
    split at h
    · rename_i heq; cases heq
    · rename_i k a j b r heq
      injection heq with h1 h2
      subst h1 h2
      obtain rfl := hx.bA
      obtain rfl := hy.bA
      obtain ⟨v, h1, h2⟩ := nD (.int _ _) hv' h
      exact ⟨v, by simpa [Builtin.max2] using h1, h2⟩
    · cases h
theorem nE : ∀ {Vs vs : List Value} {X x V : Value}, VR φ X x → VRL φ Vs vs → amm false X Vs = some V → ∃ v, (vs.foldlM Builtin.min2 x).run cx.P w = .ok v w ∧ VR φ V v
  | [], vs, X, x, V, hx, hv, h => by
    have : vs = [] := List.eq_nil_of_length_eq_zero (by have := hv.1; simpa using this.symm)
    subst this
    simp [amm] at h
    subst h
    exact ⟨x, rfl, hx⟩
  | Y :: Vs, vs, X, x, V, hx, hv, h => by
    obtain ⟨y, vs', rfl, hy, hv'⟩ := hv.bO
    unfold amm at h
    split at h
    · rename_i heq; cases heq
    · rename_i k a j b r heq
      injection heq with h1 h2
      subst h1 h2
      obtain rfl := hx.bA
      obtain rfl := hy.bA
      obtain ⟨v, h1, h2⟩ := nE (.int _ _) hv' h
      exact ⟨v, by simpa [Builtin.min2] using h1, h2⟩
    · cases h
def acap (P : Program) (t : TypeId) (x : Value) : Option Value :=
  match P.underlying t, x with
  | some (.slice _), .slice none 0 0 => some (.int .i64 0)
  | some (.slice _), .slice (some ⟨_, _, none⟩) _ c => some (.int .i64 c)
  | some (.array n _), _ => some (.int .i64 n)
  | _, _ => none
theorem Cg {t ty : TypeId} {tys : Array TypeId} {X x V : Value} (ht : tys[0]? = some t) (hx : VR φ X x) (ha : acap cx.P t X = some V) :
    (Builtin.cap_ tys ty #[x]).run cx.P w = .ok V w ∧ VR φ V V := by
  unfold acap at ha
  split at ha
  · rename_i e hu
    injection ha with ha; subst ha
    refine ⟨?_, .int _ _⟩
    cases hx; simp [Builtin.cap_, ht, run_underlying hu, goInt]
  · rename_i e B off n c hu
    injection ha with ha; subst ha
    refine ⟨?_, .int _ _⟩
    cases hx; simp [Builtin.cap_, ht, run_underlying hu, goInt]
  · rename_i n e hu
    injection ha with ha; subst ha
    exact ⟨by simp [Builtin.cap_, ht, run_underlying hu, goInt], .int _ _⟩
  · cases ha
def bW (P : Program) (st : St) (b : Builtin) (tys : Array TypeId) (xs : List Value) : Option (Value × St) :=
  match b, xs with
  | .len, [x] => match tys[0]? with
    | some t => (alen P st t x).map fun v => (v, st)
    | none => none
  | .cap, [x] => match tys[0]? with
    | some t => (acap P t x).map fun v => (v, st)
    | none => none
  | .append, [s, x] => bM P st tys s x
  | .copy, [d, s] => Gv P st tys d s
  | .max, x :: r => (amm true x r).map fun v => (v, st)
  | .min, x :: r => (amm false x r).map fun v => (v, st)
  | _, _ => none
theorem sW (h : HR cx φ st w) {b : Builtin} {tys : Array TypeId} {ty : TypeId} {cs : Array Bool} {Xs : List Value} {xs : Array Value} {V : Value} {st' : St} (hx : VRL φ Xs xs.toList) (ha : bW cx.P st b tys Xs = some (V, st')) :
    ∃ φ' v w', (builtin b tys ty cs xs).run cx.P w = .ok (.value v) w' ∧ φ.le φ' ∧ VR φ' V v ∧ HR cx φ' st' w' := by
  obtain ⟨xs⟩ := xs
  simp only at hx
  unfold bW at ha
  split at ha
  · rename_i X
    obtain ⟨x, r, rfl, hx1, hx2⟩ := hx.bO
    have : r = [] := List.eq_nil_of_length_eq_zero (by have := hx2.1; simpa using this.symm)
    subst this
    split at ha
    · rename_i t ht
      cases hl : alen cx.P st t X with
      | none => simp [hl] at ha
      | some v =>
        simp [hl] at ha
        obtain ⟨rfl, rfl⟩ := ha
        obtain ⟨r1, r2⟩ := Ce (ty := ty) h ht hx1 hl
        exact ⟨φ, v, w, by simp [builtin, r1], Emb.le_refl _, r2, h⟩
    · cases ha
  · rename_i X
    obtain ⟨x, r, rfl, hx1, hx2⟩ := hx.bO
    have : r = [] := List.eq_nil_of_length_eq_zero (by have := hx2.1; simpa using this.symm)
    subst this
    split at ha
    · rename_i t ht
      cases hl : acap cx.P t X with
      | none => simp [hl] at ha
      | some v =>
        simp [hl] at ha
        obtain ⟨rfl, rfl⟩ := ha
        obtain ⟨r1, r2⟩ := Cg (ty := ty) (w := w) ht hx1 hl
        exact ⟨φ, v, w, by simp [builtin, r1], Emb.le_refl _, r2, h⟩
    · cases ha
  · rename_i S X
    obtain ⟨s, r, rfl, hx1, hx2⟩ := hx.bO
    obtain ⟨x, r, rfl, hx3, hx4⟩ := hx2.bO
    have : r = [] := List.eq_nil_of_length_eq_zero (by have := hx4.1; simpa using this.symm)
    subst this
    obtain ⟨φ', v, w', r1, r2, r3, r4⟩ := vN (ty := ty) h hx1 hx3 ha
    exact ⟨φ', v, w', by simp [builtin, r1], r2, r3, r4⟩
  · rename_i S X
    obtain ⟨s, r, rfl, hx1, hx2⟩ := hx.bO
    obtain ⟨x, r, rfl, hx3, hx4⟩ := hx2.bO
    have : r = [] := List.eq_nil_of_length_eq_zero (by have := hx4.1; simpa using this.symm)
    subst this
    obtain ⟨φ', v, w', r1, r2, r3, r4⟩ := zW (ty := ty) h hx1 hx3 ha
    exact ⟨φ', v, w', by simp [builtin, r1], r2, r3, r4⟩
  · rename_i X R
    obtain ⟨x, r, rfl, hx1, hx2⟩ := hx.bO
    cases hl : amm true X R with
    | none => simp [hl] at ha
    | some v =>
      simp [hl] at ha
      obtain ⟨rfl, rfl⟩ := ha
      obtain ⟨v', r1, r2⟩ := nD (cx := cx) (w := w) hx1 hx2 hl
      exact ⟨φ, v', w, by simp [builtin, Builtin.max_, r1], Emb.le_refl _, r2, h⟩
  · rename_i X R
    obtain ⟨x, r, rfl, hx1, hx2⟩ := hx.bO
    cases hl : amm false X R with
    | none => simp [hl] at ha
    | some v =>
      simp [hl] at ha
      obtain ⟨rfl, rfl⟩ := ha
      obtain ⟨v', r1, r2⟩ := nE (cx := cx) (w := w) hx1 hx2 hl
      exact ⟨φ, v', w, by simp [builtin, Builtin.min_, r1], Emb.le_refl _, r2, h⟩
  · cases ha
end
end Go.Abs
