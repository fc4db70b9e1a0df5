/- Numbers, texts, comparisons, conversions, len, min, max: what an operation does to the abstract heap. -/
import Derived.Test.YtigjbehgfjjlkaaGreatDoorAbsE
import Derived.Laws.StructEq
import Derived.Laws.IdiomStrings
import Derived.Laws.BytesString
set_option linter.unusedVariables false
set_option linter.unusedSimpArgs false
namespace Go.Abs
open Go.RowKit
section
variable {cx : Cx} {φ : Emb} {st : St} {w : World}
def sle (a b : List UInt8) : Bool := Op.bytesLess a b || a == b
def anum (op : BinOp) (k : IntKind) (a b : Int) : Option Value :=
  match op with
  | .add => some (.int k (k.wrap (a + b)))
  | .sub => some (.int k (k.wrap (a - b)))
  | .mul => some (.int k (k.wrap (a * b)))
  | .quo => if b = 0 then none else some (.int k (k.wrap (a.tdiv b)))
  | .rem => if b = 0 then none else some (.int k (a.tmod b))
  | .and => some (.int k (bits .and k a b))
  | .or => some (.int k (bits .or k a b))
  | .xor => some (.int k (bits .xor k a b))
  | .andNot => some (.int k (bits .andNot k a b))
  | .eql => some (.bool (a == b))
  | .neq => some (.bool (a != b))
  | .lss => some (.bool (decide (a < b)))
  | .leq => some (.bool (decide (a ≤ b)))
  | .gtr => some (.bool (decide (a > b)))
  | .geq => some (.bool (decide (a ≥ b)))
  | _ => none
def yc (op : BinOp) (k : IntKind) (a b : Int) : Option Value :=
  if 0 ≤ b ∧ b ≤ k.bits then match op with
    | .shl => some (.int k (k.wrap (a * 2 ^ b.toNat)))
    | .shr => some (.int k (a / 2 ^ b.toNat))
    | _ => none
  else none
def astr (op : BinOp) (a b : ByteArray) : Option Value :=
  match op with
  | .add => if a.size + b.size ≤ 9223372036854775807 then some (.string (a ++ b)) else none
  | .eql => some (.bool (a.toList == b.toList))
  | .neq => some (.bool (!(a.toList == b.toList)))
  | .lss => some (.bool (Op.bytesLess a.toList b.toList))
  | .leq => some (.bool (sle a.toList b.toList))
  | .gtr => some (.bool (!(sle a.toList b.toList)))
  | .geq => some (.bool (!(Op.bytesLess a.toList b.toList)))
  | _ => none
def anil (P : Program) (t : TypeId) (x y : Value) : Option Bool :=
  match P.underlying t, x, y with
  | some (.pointer _), .pointer a, .pointer none => some a.isNone
  | some (.slice _), .slice a _ _, .slice none _ _ => some a.isNone
  | some (.map _ _), .map a, .map none => some a.isNone
  | some (.func _ _ _), .func _ _ _, .nilFunc => some false
  | some (.func _ _ _), .nilFunc, .nilFunc => some true
  | some (.interface _), .iface _ _, .nilIface => some false
  | some (.interface _), .nilIface, .nilIface => some true
  | _, _, _ => none
def isC : Operand → Bool
  | .const _ => true
  | _ => false
def alf2 (P : Program) (t : TypeId) (x y : Value) : Option Bool :=
  match P.underlying t, x, y with
  | some .bool, .bool a, .bool b => some (a == b)
  | some (.int _), .int k a, .int k' b => if k = k' then some (a == b) else none
  | some .string, .string a, .string b => some (a.toList == b.toList)
  | _, _, _ => none
def aqF (P : Program) (xs ys : List Value) : List (Nat × TypeId) → Option Bool
  | [] => some true
  | (o, t) :: r => match xs[o]?, ys[o]? with
    | some x, some y => match alf2 P t x y, aqF P xs ys r with
      | some a, some b => some (a && b)
      | _, _ => none
    | _, _ => none
def aqT (P : Program) (t : TypeId) : Option (List (Nat × TypeId)) :=
  match P.underlying t with
  | some (.struct fs) => if (fs.toList.all fun f => !(f.name == "_")) = true ∧ P.stoodInHeld t = false ∧ P.eqGuardType P.depth t = false then some (fs.toList.map fun f => (f.offset, f.type)) else none
  | _ => none
def abin (P : Program) (op : BinOp) (t : TypeId) (ox oy : Operand) (x y : Value) : Option Value :=
  match x, y with
  | .int k a, .int k' b => match op with
    | .shl => yc .shl k a b
    | .shr => yc .shr k a b
    | op => if k = k' then anum op k a b else none
  | .string a, .string b => astr op a b
  | .bool a, .bool b => match P.underlying t with
    | some .bool => match op with
      | .eql => some (.bool (a == b))
      | .neq => some (.bool (!(a == b)))
      | _ => none
    | _ => none
  | .pointer (some ⟨B, o, none⟩), .pointer (some ⟨B', o', none⟩) => match op, P.underlying t with
    | .eql, some (.pointer e) => match asz P e with
      | some (_ + 1) => if B = B' ∧ o = o' then some (.bool true) else none
      | _ => none
    | .neq, some (.pointer e) => match asz P e with
      | some (_ + 1) => if B = B' ∧ o = o' then some (.bool false) else none
      | _ => none
    | _, _ => none
  | .agg xs, .agg ys => match op, aqT P t with
    | .eql, some l => (aqF P xs.toList ys.toList l).map .bool
    | .neq, some l => (aqF P xs.toList ys.toList l).map fun b => .bool (!b)
    | _, _ => none
  | x, y => if isC oy then match op with
      | .eql => (anil P t x y).map .bool
      | .neq => (anil P t x y).map fun b => .bool (!b)
      | _ => none
    else none
theorem BX {op : BinOp} {k : IntKind} {a b : Int} {V : Value} (h : anum op k a b = some V) (h1 : op ≠ .shl) (h2 : op ≠ .shr) (t : TypeId) (ox oy : Operand) :
    (do eqGuard op t ox oy (.int k a) (.int k b); binOp op t (.int k a) (.int k b)).run cx.P w = .ok V w ∧ VR φ V V := by
  have hg : (eqGuard op t ox oy (.int k a) (.int k b)).run cx.P w = .ok () w := by
    unfold eqGuard
    cases op <;> simp
  cases op <;> simp only [anum] at h <;> first
    | (exact absurd rfl h1)
    | (exact absurd rfl h2)
    | (cases h; done)
    | (split at h
       · cases h
       · rename_i hb
         injection h with h; subst h
         exact ⟨by simp [hg, binOp, Op.intDiv, hb], by constructor⟩)
    | (injection h with h; subst h
       refine ⟨?_, by constructor⟩
       first
         | (simp [hg, binOp, Op.intArith, Op.intCmp]; done)
         | (simp only [Sem.run_bind, hg, Result.andThen_ok]; simp [binOp, intBits_and, intBits_or, intBits_xor, intBits_andNot]; done))
theorem oN {op : BinOp} {k k' : IntKind} {a b : Int} {V : Value} (h : yc op k a b = some V) (t : TypeId) (ox oy : Operand) :
    (do eqGuard op t ox oy (.int k a) (.int k' b); binOp op t (.int k a) (.int k' b)).run cx.P w = .ok V w ∧ VR φ V V := by
  unfold yc at h
  split at h
  · rename_i hb
    cases op <;> simp only at h <;> first
      | (cases h; done)
      | (injection h with h; subst h
         refine ⟨?_, by constructor⟩
         first
           | (simp [eqGuard, binOp, shift_shl k k' a b hb.1 hb.2]; done)
           | (simp [eqGuard, binOp, shift_shr k k' a b hb.1 hb.2]; done))
  · cases h
theorem BZ {op : BinOp} {a b : ByteArray} {V : Value} (h : astr op a b = some V) (t : TypeId) (ox oy : Operand) :
    (do eqGuard op t ox oy (.string a) (.string b); binOp op t (.string a) (.string b)).run cx.P w = .ok V w ∧ VR φ V V := by
  have hg : (eqGuard op t ox oy (.string a) (.string b)).run cx.P w = .ok () w := by
    unfold eqGuard
    cases op <;> simp
  cases op <;> simp only [astr] at h <;> first
    | (cases h; done)
    | (split at h
       · rename_i hb
         injection h with h; subst h
         refine ⟨?_, by constructor⟩
         have : ¬ ((9223372036854775807 : Int) < (a.size : Int) + (b.size : Int)) := by omega
         simp [hg, binOp, Op.stringOp, IntKind.max, IntKind.signed, IntKind.bits, this]
       · cases h)
    | (injection h with h; subst h
       exact ⟨by simp [hg, binOp, Op.stringOp, sle], by constructor⟩)
theorem zX (d : Nat) {t : TypeId} {X x Y y : Value} {b : Bool} (hx : VR φ X x) (hy : VR φ Y y) (h : anil cx.P t X Y = some b) :
    (Op.equalIn (d + 1) t x y).run cx.P w = .ok b w ∧ (∀ k, x ≠ .string k) ∧ (∀ k n, x ≠ .int k n) ∧ (∀ k n, x ≠ .float k n) ∧ (∀ k n m, x ≠ .complex k n m) ∧ (∀ k, x ≠ .agg k) := by
  unfold anil at h
  split at h
  all_goals first
    | (cases h; done)
    | (rename_i hu
       injection h with h
       subst h
       cases hx <;> cases hy <;> (refine ⟨?_, by simp, by simp, by simp, by simp, by simp⟩; simp [Op.equalIn, run_underlying hu]))
theorem Ca {t : TypeId} {X x Y y : Value} {b : Bool} (hx : VR φ X x) (hy : VR φ Y y) (h : anil cx.P t X Y = some b) :
    (Op.equal t x y).run cx.P w = .ok b w ∧ (∀ k, x ≠ .string k) ∧ (∀ k n, x ≠ .int k n) ∧ (∀ k n, x ≠ .float k n) ∧ (∀ k n m, x ≠ .complex k n m) ∧ (∀ k, x ≠ .agg k) := zX 9999 hx hy h
theorem Gw (d : Nat) {t : TypeId} (a b : Bool) (hu : cx.P.underlying t = some .bool) : (Op.equalIn (d + 1) t (.bool a) (.bool b)).run cx.P w = .ok (a == b) w := by
  simp [Op.equalIn, run_underlying hu]
theorem wz {t : TypeId} (a b : Bool) (hu : cx.P.underlying t = some .bool) : (Op.equal t (.bool a) (.bool b)).run cx.P w = .ok (a == b) w := Gw 9999 a b hu
theorem run_part_plain {t : TypeId} {d : TypeDesc} {cs : Array Value} {o : Nat} {v : Value} (hu : cx.P.underlying t = some d) (hd : kR d = false) (h : cs[o]? = some v) : (part t cs o).run cx.P w = .ok v w := by
  simp [part, ko hu, hd, h]
theorem Cb {t : TypeId} {X x Y y : Value} {b : Bool} (hx : VR φ X x) (hy : VR φ Y y) (h : alf2 cx.P t X Y = some b) :
    (∃ d, cx.P.underlying t = some d ∧ kR d = false) ∧ (Op.equalIn 9999 t x y).run cx.P w = .ok b w := by
  unfold alf2 at h
  split at h
  · rename_i hu
    obtain rfl := hx.gM
    obtain rfl := hy.gM
    injection h with h; subst h
    exact ⟨⟨_, hu, rfl⟩, run_equalIn_bool' w 9998 t _ _ hu⟩
  · rename_i hu
    obtain rfl := hx.bA
    obtain rfl := hy.bA
    split at h
    · rename_i hk
      subst hk
      injection h with h; subst h
      exact ⟨⟨_, hu, rfl⟩, run_equalIn_int w 9998 t _ _ _ _ hu⟩
    · cases h
  · rename_i hu
    obtain rfl := hx.bS
    obtain rfl := hy.bS
    injection h with h; subst h
    exact ⟨⟨_, hu, rfl⟩, run_equalIn_string w 9998 t _ _ hu⟩
  · cases h
theorem wB {As as Bs bs : Array Value} (ha : ∀ (i : Nat) (V : Value), As.toList[i]? = some V → ∃ v, as[i]? = some v ∧ VR φ V v) (hb : ∀ (i : Nat) (V : Value), Bs.toList[i]? = some V → ∃ v, bs[i]? = some v ∧ VR φ V v) :
    ∀ (fs : List Field) (b : Bool), (fs.all fun f => !(f.name == "_")) = true → aqF cx.P As.toList Bs.toList (fs.map fun f => (f.offset, f.type)) = some b → (Op.eqFields 9999 as bs fs).run cx.P w = .ok b w
  | [], b, _, h => by
    simp only [List.map_nil, aqF, Option.some.injEq] at h
    subst h
    simp [Op.eqFields]
  | f :: fs, b, hn, h => by
    simp only [List.all_cons, Bool.and_eq_true, Bool.not_eq_true', beq_eq_false_iff_ne] at hn
    simp only [List.map_cons, aqF] at h
    split at h
    · rename_i x y hx hy
      split at h
      · rename_i a r h1 h2
        injection h with h; subst h
        obtain ⟨x', hx1, hx2⟩ := ha _ _ hx
        obtain ⟨y', hy1, hy2⟩ := hb _ _ hy
        obtain ⟨⟨d, hu, hd⟩, he⟩ := Cb (cx := cx) (w := w) hx2 hy2 h1
        have ih := wB ha hb fs r (by simpa using hn.2) h2
        simp only [Op.eqFields, if_pos hn.1, Sem.run_bind, run_part_plain hu hd hx1, run_part_plain hu hd hy1, Result.andThen_ok, he]
        cases a
        · simp
        · simpa using ih
      · cases h
    · cases h
theorem wC {t : TypeId} {l : List (Nat × TypeId)} {As as Bs bs : Array Value} {b : Bool} (hx : VR φ (.agg As) (.agg as)) (hy : VR φ (.agg Bs) (.agg bs)) (ht : aqT cx.P t = some l) (h : aqF cx.P As.toList Bs.toList l = some b) (op : BinOp) (ox oy : Operand) :
    (eqGuard op t ox oy (.agg as) (.agg bs)).run cx.P w = .ok () w ∧ (Op.equalIn 10000 t (.agg as) (.agg bs)).run cx.P w = .ok b w := by
  unfold aqT at ht
  split at ht
  · rename_i fs hu
    split at ht
    · rename_i hc
      injection ht with ht; subst ht
      have hfs : cx.P.fieldsOf t = fs := by simp [Program.fieldsOf, hu]
      have inv : ∀ {As as : Array Value}, VR φ (.agg As) (.agg as) → ∀ (i : Nat) (V : Value), As.toList[i]? = some V → ∃ v, as[i]? = some v ∧ VR φ V v := fun {As as} h i V hi => by
        cases h with
        | agg hs hA =>
          obtain ⟨h1, rfl⟩ := List.getElem?_eq_some_iff.1 hi
          have h1' : i < As.size := by simpa using h1
          exact ⟨as[i]'(hs ▸ h1'), Array.getElem?_eq_getElem _, hA i h1' (hs ▸ h1')⟩
      refine ⟨run_eqGuard_agg w op t ox oy as bs hc.2.2, ?_⟩
      rw [show (10000 : Nat) = 9999 + 1 from rfl, run_equalIn_agg w 9999 t as bs (by rw [hfs]; exact hu) hc.2.1, hfs]
      exact wB (inv hx) (inv hy) fs.toList b hc.1 h
    · cases ht
  · cases ht
theorem Cc {op : BinOp} {t : TypeId} {ox oy : Operand} {X x Y y V : Value} (hx : VR φ X x) (hy : VR φ Y y) (h : abin cx.P op t ox oy X Y = some V) :
    (do eqGuard op t ox oy x y; binOp op t x y).run cx.P w = .ok V w ∧ VR φ V V := by
  unfold abin at h
  split at h
  · rename_i k a k' b
    obtain rfl := hx.bA
    obtain rfl := hy.bA
    split at h
    · exact oN h _ _ _
    · exact oN h _ _ _
    · rename_i h1 h2
      split at h
      · rename_i hk
        subst hk
        exact BX h (fun e => h1 e) (fun e => h2 e) _ _ _
      · cases h
  · obtain rfl := hx.bS
    obtain rfl := hy.bS
    exact BZ h _ _ _
  · rename_i a b
    obtain rfl := hx.gM
    obtain rfl := hy.gM
    split at h
    · rename_i hu
      split at h
      · injection h with h; subst h
        exact ⟨by simp [eqGuard, binOp, wz a b hu], by constructor⟩
      · injection h with h; subst h
        exact ⟨by simp [eqGuard, binOp, wz a b hu], by constructor⟩
      · cases h
    · cases h
  · have key : ∀ (e : TypeId) (n : Nat) (a : Addr), cx.P.underlying t = some (.pointer e) → asz cx.P e = some (n + 1) → (Op.equal t (.pointer (some a)) (.pointer (some a))).run cx.P w = .ok true w := fun e n a hu hs => by
      have h1 : (sameAddr a a).run cx.P w = .ok true w := by simp [sameAddr]
      have h2 : (Op.equalIn (9999 + 1) t (.pointer (some a)) (.pointer (some a))).run cx.P w = .ok true w := by
        unfold Op.equalIn
        simp [run_underlying hu, aG hs, h1]
      exact h2
    split at h
    · rename_i e hu
      split at h
      · rename_i n hs
        split at h
        · rename_i hc
          obtain ⟨rfl, rfl⟩ := hc
          injection h with h; subst h
          cases hx with
          | @ptr _ _ p hp =>
            cases hy with
            | @ptr _ _ p' hp' =>
              rw [hp] at hp'; injection hp' with hp'; subst hp'
              exact ⟨by simp [eqGuard, binOp, key e n _ hu hs], by constructor⟩
        · cases h
      · cases h
    · rename_i e hu
      split at h
      · rename_i n hs
        split at h
        · rename_i hc
          obtain ⟨rfl, rfl⟩ := hc
          injection h with h; subst h
          cases hx with
          | @ptr _ _ p hp =>
            cases hy with
            | @ptr _ _ p' hp' =>
              rw [hp] at hp'; injection hp' with hp'; subst hp'
              exact ⟨by simp [eqGuard, binOp, key e n _ hu hs], by constructor⟩
        · cases h
      · cases h
    · cases h
  · rename_i As Bs
    obtain ⟨as, rfl⟩ : ∃ as, x = .agg as := by cases hx; exact ⟨_, rfl⟩
    obtain ⟨bs, rfl⟩ : ∃ bs, y = .agg bs := by cases hy; exact ⟨_, rfl⟩
    split at h
    · rename_i l hl
      obtain ⟨b, hb, rfl⟩ := Option.map_eq_some_iff.1 h
      obtain ⟨h1, h2⟩ := wC (cx := cx) (w := w) hx hy hl hb .eql ox oy
      exact ⟨by simp only [Sem.run_bind, h1, Result.andThen_ok, run_eql_struct, h2], by constructor⟩
    · rename_i l hl
      obtain ⟨b, hb, rfl⟩ := Option.map_eq_some_iff.1 h
      obtain ⟨h1, h2⟩ := wC (cx := cx) (w := w) hx hy hl hb .neq ox oy
      exact ⟨by simp only [Sem.run_bind, h1, Result.andThen_ok, run_neq_struct, h2], by constructor⟩
    · cases h
  · split at h
    case isFalse => cases h
    rename_i hc
    have hcy : ∃ v, oy = .const v := by cases oy <;> simp [isC] at hc; exact ⟨_, rfl⟩
    obtain ⟨cv, rfl⟩ := hcy
    have fin : ∀ b, anil cx.P t X Y = some b → (op = .eql ∨ op = .neq) → V = .bool (if op = .eql then b else !b) → (do eqGuard op t ox (.const cv) x y; binOp op t x y).run cx.P w = .ok V w ∧ VR φ V V := by
      intro b hb ho hV
      subst hV
      obtain ⟨r, n1, n2, n3, n4, n5⟩ := Ca (cx := cx) (w := w) hx hy hb
      refine ⟨?_, by constructor⟩
      have hg : (eqGuard op t ox (.const cv) x y).run cx.P w = .ok () w := by
        unfold eqGuard
        rcases ho with rfl | rfl <;> simp <;> split <;> first | rfl | simp_all
      simp only [Sem.run_bind, hg, Result.andThen_ok]
      rcases ho with rfl | rfl <;> (unfold binOp; split <;> simp_all)
    split at h
    · cases hb : anil cx.P t X Y with
      | none => simp [hb] at h
      | some b => simp [hb] at h; exact fin b hb (.inl rfl) (by simpa using h.symm)
    · cases hb : anil cx.P t X Y with
      | none => simp [hb] at h
      | some b => simp [hb] at h; exact fin b hb (.inr rfl) (by simpa using h.symm)
    · cases h
end
end Go.Abs
