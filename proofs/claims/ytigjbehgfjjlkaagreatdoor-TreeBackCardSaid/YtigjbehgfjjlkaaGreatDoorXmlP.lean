/- The reader of XML as a function of octets (plain Lean; no program in sight). -/
import Derived.Test.YtigjbehgfjjlkaaGreatDoorAbs8
import Derived.Lib.IndexMore
import Derived.Lib.SlTrimSet
import Derived.Lib.Replace
import Derived.Lib.Strings
import Derived.Lib.SpaceU
set_option linter.unusedVariables false
namespace Go.Xml
open Go Go.Abs
structure Att where
  pre : Tx
  loc : Tx
  spc : Tx
  val : Tx
structure Dcl where
  pre : Tx
  uri : Tx
structure Nd where
  kind : Int
  par : Int
  kids : List Nat
  pre : Tx
  loc : Tx
  spc : Tx
  atts : List Att
  dcls : List Dcl
  val : Tx
structure RS where
  s : Tx
  ns : List Nd
  stk : List (Nat × Tx)
  done : Bool
abbrev Ex := Except Int
def dJ (c : Nat) : Bool := (0x9 ≤ c && c ≤ 0xA) || (0xD ≤ c && c ≤ 0xD) || (0x20 ≤ c && c ≤ 0xD7FF) || (0xE000 ≤ c && c ≤ 0xFFFD) || (0x10000 ≤ c && c ≤ 0x10FFFF)
def dN : List (Nat × Nat) := [(65, 90), (97, 122), (95, 95), (0xC0, 0xD6), (0xD8, 0xF6), (0xF8, 0x2FF), (0x370, 0x37D), (0x37F, 0x1FFF), (0x200C, 0x200D), (0x2070, 0x218F), (0x2C00, 0x2FEF), (0x3001, 0xD7FF), (0xF900, 0xFDCF), (0xFDF0, 0xFFFD), (0x10000, 0xEFFFF)]
def j4 : List (Nat × Nat) := [(48, 57), (45, 46), (0xB7, 0xB7), (0x300, 0x36F), (0x203F, 0x2040)]
def inL (c : Nat) (l : List (Nat × Nat)) : Bool := l.any fun x => decide (x.1 ≤ c) && decide (c ≤ x.2)
def isFirst (c : Nat) : Bool := inL c dN
def jh (c : Nat) : Bool := isFirst c || inL c j4
def badF : Nat → Tx → Nat → Option Nat
  | 0, _, _ => none
  | f + 1, [], at_ => none
  | f + 1, l, at_ => if ((Lib.decodeL l).1 = 0xFFFD ∧ (Lib.decodeL l).2 < 3) ∨ dJ (Lib.decodeL l).1 = false then some at_ else badF f (l.drop (Lib.decodeL l).2) (at_ + (Lib.decodeL l).2)
def bad (l : Tx) : Option Nat := badF (l.length + 1) l 0
def jB : Nat → Tx → Bool → Bool
  | 0, _, _ => true
  | f + 1, [], _ => true
  | f + 1, l, top => (!(top && !isFirst (Lib.decodeL l).1) && jh (Lib.decodeL l).1) && jB f (l.drop (Lib.decodeL l).2) false
def bL (l : Tx) : Bool := !(decide (l = []) || decide (l.length > 256) || (bad l).isSome) && jB (l.length + 1) l true
def lines (l : Tx) : Tx := Lib.replaceAll (Lib.replaceAll l [13, 10] [10]) [13] [10]
def gF (c : UInt8) : UInt8 := if c = 32 ∨ c = 9 ∨ c = 10 ∨ c = 13 then 32 else c
def iQ (l : Tx) : Tx := l.map gF
def blanks : Tx := [32, 9, 10]
def upTo (s signs : Tx) : Nat := (s.takeWhile fun c => !signs.contains c).length
def hasF (t s : Tx) : Bool × Tx := if t.isPrefixOf s then (true, s.drop t.length) else (false, s)
def aD (s : Tx) : Bool × Tx := (decide ((Lib.trimLeftS s blanks).length < s.length), Lib.trimLeftS s blanks)
def aZ (t s : Tx) : Ex (Tx × Tx) := if (Lib.cut s t).2.2 then .ok ((Lib.cut s t).1, (Lib.cut s t).2.1) else .error 10
def aH : Tx := [32, 9, 10, 61, 47, 62, 60, 34, 39, 38, 63, 33]
def eU (nm : Tx) : Bool := bL (Lib.cut nm [58]).1 && (!(Lib.cut nm [58]).2.2 || bL (Lib.cut nm [58]).2.1)
def dF (s : Tx) : Ex (Tx × Tx) := if eU (s.take (upTo s aH)) then .ok (s.take (upTo s aH), s.drop (upTo s aH)) else .error 10
def lowB (c : UInt8) : UInt8 := if 65 ≤ c ∧ c ≤ 90 then c + 32 else c
def lower (l : Tx) : Tx := l.map lowB
def digB (base : Nat) (c : UInt8) : Int := Lib.indexByte (([48, 49, 50, 51, 52, 53, 54, 55, 56, 57, 97, 98, 99, 100, 101, 102] : Tx).take base) c
def numR (base : Nat) : Int → Tx → Int
  | n, [] => n
  | n, c :: l => if digB base c < 0 then -1 else numR base (n * base + digB base c) l
def number (l : Tx) (base : Nat) : Int := if l.length < 1 ∨ l.length > 8 then -1 else numR base 0 (lower l)
def utf8 (c : Nat) : Tx :=
  if c < 128 then [UInt8.ofNat c]
  else if c < 2048 then [UInt8.ofNat (192 + c / 64), UInt8.ofNat (128 + c % 64)]
  else if c < 65536 then [UInt8.ofNat (224 + c / 4096), UInt8.ofNat (128 + c / 64 % 64), UInt8.ofNat (128 + c % 64)]
  else [UInt8.ofNat (240 + c / 262144), UInt8.ofNat (128 + c / 4096 % 64), UInt8.ofNat (128 + c / 64 % 64), UInt8.ofNat (128 + c % 64)]
def j5 (c : Nat) : Tx := if c > 0x10FFFF ∨ (0xD800 ≤ c ∧ c ≤ 0xDFFF) then utf8 0xFFFD else utf8 c
def codeF (digits : Tx) (base : Nat) : Ex Tx :=
  if 0 < number digits base ∧ number digits base < 0x110000 then
    if (bad (j5 (number digits base).toNat)).isNone && (decide (number digits base = 0xFFFD) || !decide (j5 (number digits base).toNat = utf8 0xFFFD)) then .ok (j5 (number digits base).toNat) else .error 10
  else .error 10
def refX (x : Tx) : Ex Tx :=
  if x = [97, 109, 112] then .ok [38]
  else if x = [108, 116] then .ok [60]
  else if x = [103, 116] then .ok [62]
  else if x = [113, 117, 111, 116] then .ok [34]
  else if x = [97, 112, 111, 115] then .ok [39]
  else if (hasF [35] x).1 then
    (if (hasF [120] (hasF [35] x).2).1 then codeF (hasF [120] (hasF [35] x).2).2 16 else codeF (hasF [35] x).2 10)
  else .error 10
def refF (s : Tx) : Ex (Tx × Tx) :=
  if Lib.indexByte s 59 < 0 then .error 10
  else match refX (s.take (Lib.indexByte s 59).toNat) with
    | .ok t => .ok (t, s.drop ((Lib.indexByte s 59).toNat + 1))
    | .error e => .error e
def gU (q : Tx) : Nat → Tx → Tx → Ex (Tx × Tx)
  | 0, _, _ => .error 10
  | f + 1, out, s =>
    if upTo s (q ++ [60, 38]) < s.length ∧ s.getD (upTo s (q ++ [60, 38])) 0 ≠ 60 then
      if s.getD (upTo s (q ++ [60, 38])) 0 = 38 then
        match refF (s.drop (upTo s (q ++ [60, 38]) + 1)) with
        | .ok (t, s') => gU q f (out ++ iQ (s.take (upTo s (q ++ [60, 38]))) ++ t) s'
        | .error e => .error e
      else .ok (out ++ iQ (s.take (upTo s (q ++ [60, 38]))), s.drop (upTo s (q ++ [60, 38]) + 1))
    else .error 10
def jC (s : Tx) : Ex (Tx × Tx) :=
  if (hasF [34] s).1 then gU [34] (s.length + 1) [] (hasF [34] s).2
  else if (hasF [39] s).1 then gU [39] (s.length + 1) [] (hasF [39] s).2
  else .error 10
def eqF (s : Tx) : Ex Tx := if (hasF [61] (aD s).2).1 then .ok (aD (hasF [61] (aD s).2).2).2 else .error 10
def EA (fold : Bool) (vals : List Tx) (v : Tx) : Bool := vals.any fun x => decide (x = v) || (fold && decide (lower v = lower x))
def dh (word : Tx) (fold : Bool) (vals : List Tx) (s : Tx) : Ex (Bool × Tx) :=
  if (aD s).1 && (hasF word (aD s).2).1 then
    match eqF (hasF word (aD s).2).2 with
    | .error e => .error e
    | .ok s1 =>
      if s1.take 1 = [34] ∨ s1.take 1 = [39] then
        match aZ (s1.take 1) (s1.drop 1) with
        | .error e => .error e
        | .ok (v, s2) => if EA fold vals v then .ok (true, s2) else .error 10
      else .error 10
  else .ok (false, s)
def wXml : Tx := [60, 63, 120, 109, 108]
def fJ (s : Tx) : Ex Tx :=
  if (hasF wXml s).1 && (match (hasF wXml s).2 with | [] => false | c :: _ => blanks.contains c) then
    match dh [118, 101, 114, 115, 105, 111, 110] false [[49, 46, 48]] (hasF wXml s).2 with
    | .error e => .error e
    | .ok (false, _) => .error 10
    | .ok (true, s1) =>
      match dh [101, 110, 99, 111, 100, 105, 110, 103] true [[85, 84, 70, 45, 56]] s1 with
      | .error e => .error e
      | .ok (_, s2) =>
        match dh [115, 116, 97, 110, 100, 97, 108, 111, 110, 101] false [[121, 101, 115], [110, 111]] s2 with
        | .error e => .error e
        | .ok (_, s3) => if (hasF [63, 62] (aD s3).2).1 then .ok (hasF [63, 62] (aD s3).2).2 else .error 10
  else .ok s
def aB (ns : List Nd) (p c : Nat) : List Nd := ns.modify p fun n => { n with kids := n.kids ++ [c] }
def addF (n : Nd) (r : RS) : Ex (Nat × RS) :=
  if r.ns.length = 4096 then .error 33
  else match r.stk.getLast? with
    | none => .ok (r.ns.length, { r with ns := r.ns ++ [{ n with par := -1 }] })
    | some (p, _) => .ok (r.ns.length, { r with ns := aB r.ns p r.ns.length ++ [{ n with par := p }] })
def nd0 : Nd := ⟨0, 0, [], [], [], [], [], [], []⟩
def aR (ns : List Nd) (p : Nat) : Option Nat :=
  match (ns[p]?).bind (·.kids.getLast?) with
  | some c => if ((ns[c]?).map (·.kind)) = some 2 then some c else none
  | none => none
def aW (t : Tx) (r : RS) : Ex RS :=
  if t = [] then .ok r
  else match r.stk.getLast? with
    | none => .error 0
    | some (p, _) => match aR r.ns p with
      | some c => .ok { r with ns := r.ns.modify c fun n => { n with val := n.val ++ t } }
      | none => match addF { nd0 with kind := 2, val := t } r with
        | .ok (_, r') => .ok r'
        | .error e => .error e
def gV : Tx := [104, 116, 116, 112, 58, 47, 47, 119, 119, 119, 46, 119, 51, 46, 111, 114, 103, 47, 88, 77, 76, 47, 49, 57, 57, 56, 47, 110, 97, 109, 101, 115, 112, 97, 99, 101]
def mZ : Tx := [104, 116, 116, 112, 58, 47, 47, 119, 119, 119, 46, 119, 51, 46, 111, 114, 103, 47, 50, 48, 48, 48, 47, 120, 109, 108, 110, 115, 47]
def findD (p : Tx) (ds : List Dcl) : Option Tx := (ds.find? fun d => decide (d.pre = p)).map (·.uri)
def outer (ns : List Nd) (p : Tx) : List (Nat × Tx) → Option Tx
  | [] => none
  | (a, _) :: r => match findD p ((ns[a]?.map (·.dcls)).getD []) with
    | some u => some u
    | none => outer ns p r
def aM (r : RS) (p : Tx) (ds : List Dcl) : Tx × Bool :=
  if p = [120, 109, 108] then (gV, true)
  else match findD p ds with
    | some u => (u, true)
    | none => match outer r.ns p r.stk.reverse with
      | some u => (u, true)
      | none => ([], decide (p = []))
def odd (d : Dcl) : Bool := ((decide (d.pre = [120, 109, 108]) != decide (d.uri = gV)) || decide (d.pre = [120, 109, 108, 110, 115])) || (decide (d.uri = mZ) || (!decide (d.pre = []) && decide (d.uri = [])))
def fO (r : RS) (ds : List Dcl) : List Att → List Att → Ex (List Att)
  | acc, [] => .ok acc
  | acc, a :: l =>
    if a.pre = [] then fO r ds (acc ++ [a]) l
    else if (aM r a.pre ds).2 && !(acc.any fun b => (decide (b.loc = a.loc) && decide (b.spc = (aM r a.pre ds).1)) && !decide ((aM r a.pre ds).1 = [])) then
      fO r ds (acc ++ [{ a with spc := (aM r a.pre ds).1 }]) l
    else .error 31
def bH (r : RS) (n : Nd) : Ex Nd :=
  if n.dcls.any odd then .error 31
  else if (aM r n.pre n.dcls).2 then
    match fO r n.dcls [] n.atts with
    | .ok l => .ok { n with spc := (aM r n.pre n.dcls).1, atts := l }
    | .error e => .error e
  else .error 31
def bE (nm v : Tx) (n : Nd) : Nd :=
  if nm = [120, 109, 108, 110, 115] then { n with dcls := n.dcls ++ [⟨[], v⟩] }
  else if (Lib.cut nm [58]).2.2 then
    (if (Lib.cut nm [58]).1 = [120, 109, 108, 110, 115] then { n with dcls := n.dcls ++ [⟨(Lib.cut nm [58]).2.1, v⟩] }
     else { n with atts := n.atts ++ [⟨(Lib.cut nm [58]).1, (Lib.cut nm [58]).2.1, [], v⟩] })
  else { n with atts := n.atts ++ [⟨[], nm, [], v⟩] }
def bC : Nat → List Tx → Nd → Tx → Ex (List Tx × Nd × Tx)
  | 0, _, _, _ => .error 10
  | f + 1, nms, n, s =>
    if (aD s).1 && !(([47] : Tx).isPrefixOf (aD s).2) && !(([62] : Tx).isPrefixOf (aD s).2) then
      match dF (aD s).2 with
      | .error e => .error e
      | .ok (nm, s1) => match eqF s1 with
        | .error e => .error e
        | .ok s2 => match jC s2 with
          | .error e => .error e
          | .ok (v, s3) => bC f (nms ++ [nm]) (bE nm v n) s3
    else .ok (nms, n, (aD s).2)
def once (l : List Tx) : Bool := decide l.Nodup
def cZ (nm : Tx) : Nd := if (Lib.cut nm [58]).2.2 then { nd0 with kind := 1, pre := (Lib.cut nm [58]).1, loc := (Lib.cut nm [58]).2.1 } else { nd0 with kind := 1, loc := nm }
def bI (r : RS) : Ex RS :=
  if r.stk = [] ∧ r.done = true then .error 10
  else match dF r.s with
    | .error e => .error e
    | .ok (nm, s1) => match bC (s1.length + 1) [] (cZ nm) s1 with
      | .error e => .error e
      | .ok (nms, n, s2) =>
        if (hasF [62] (hasF [47] s2).2).1 = false then .error 10
        else if nms.length > 32 then .error 33
        else if once nms = false then .error 10
        else match bH r n with
          | .error e => .error e
          | .ok n' =>
            if r.stk.length = 32 then .error 32
            else match addF n' { r with s := (hasF [62] (hasF [47] s2).2).2 } with
              | .error e => .error e
              | .ok (a, r') => .ok { r' with done := true, stk := if (hasF [47] s2).1 then r'.stk else r'.stk ++ [(a, nm)] }
def endF (r : RS) : Ex RS :=
  match r.stk.getLast? with
  | none => .error 10
  | some (_, nm) => match dF r.s with
    | .error e => .error e
    | .ok (x, s1) => if x = nm ∧ (hasF [62] (aD s1).2).1 = true then .ok { r with s := (hasF [62] (aD s1).2).2, stk := r.stk.dropLast } else .error 10
def dS (r : RS) : Ex RS :=
  match dF r.s with
  | .error e => .error e
  | .ok (nm, s1) =>
    if lower nm = [120, 109, 108] ∨ Lib.contains nm [58] = true then .error 10
    else
      let fin := fun (v s : Tx) => if r.stk = [] then .ok { r with s := s } else match addF { nd0 with kind := 4, loc := nm, val := v } { r with s := s } with
        | .error e => .error e
        | .ok (_, r') => .ok r'
      if (hasF [63, 62] s1).1 then fin [] (hasF [63, 62] s1).2
      else if (aD s1).1 then match aZ [63, 62] (aD s1).2 with
        | .error e => .error e
        | .ok (v, s2) => fin v s2
      else .error 10
def aS (r : RS) : Ex RS :=
  match aZ [45, 45] r.s with
  | .error e => .error e
  | .ok (v, s1) =>
    if (hasF [62] s1).1 then
      (if r.stk = [] then .ok { r with s := (hasF [62] s1).2 } else match addF { nd0 with kind := 3, val := v } { r with s := (hasF [62] s1).2 } with
        | .error e => .error e
        | .ok (_, r') => .ok r')
    else .error 10
def wDoc : Tx := [60, 33, 68, 79, 67, 84, 89, 80, 69]
def iR : Tx := [60, 33, 91, 67, 68, 65, 84, 65, 91]
def iy (r : RS) : Ex RS :=
  if (hasF [60, 33, 45, 45] r.s).1 then aS { r with s := (hasF [60, 33, 45, 45] r.s).2 }
  else if r.stk = [] ∧ (hasF wDoc r.s).1 = true then .error 30
  else if r.stk ≠ [] ∧ (hasF iR r.s).1 = true then
    match aZ [93, 93, 62] (hasF iR r.s).2 with
    | .error e => .error e
    | .ok (t, s1) => aW t { r with s := s1 }
  else if (hasF [60, 63] r.s).1 then dS { r with s := (hasF [60, 63] r.s).2 }
  else if (hasF [60, 47] r.s).1 then endF { r with s := (hasF [60, 47] r.s).2 }
  else if (hasF [60] r.s).1 then bI { r with s := (hasF [60] r.s).2 }
  else .ok r
def gu (r : RS) : Ex RS :=
  if r.stk = [] then
    (if Lib.trimS (r.s.take (upTo r.s [60, 38])) blanks = [] then .ok { r with s := r.s.drop (upTo r.s [60, 38]) } else .error 10)
  else if Lib.contains (r.s.take (upTo r.s [60, 38])) [93, 93, 62] then .error 10
  else match aW (r.s.take (upTo r.s [60, 38])) r with
    | .error e => .error e
    | .ok r' => .ok { r' with s := r.s.drop (upTo r.s [60, 38]) }
def aX (r : RS) : Ex RS :=
  if r.s.head? = some 60 then iy r
  else if r.stk ≠ [] ∧ (hasF [38] r.s).1 = true then
    match refF (hasF [38] r.s).2 with
    | .error e => .error e
    | .ok (t, s1) => aW t { r with s := s1 }
  else if r.s.head? = some 38 then .error 10
  else gu r
def allR : Nat → RS → Ex RS
  | 0, r => if r.s = [] then .ok r else .error 10
  | f + 1, r => if r.s = [] then .ok r else match aX r with
    | .error e => .error e
    | .ok r' => allR f r'
def allF (s : Tx) : Ex (List Nd) :=
  match fJ s with
  | .error e => .error e
  | .ok s1 => match allR s1.length ⟨s1, [], [], false⟩ with
    | .error e => .error e
    | .ok r => if r.done = true ∧ r.stk = [] then .ok r.ns else .error 10
def gW (b : Tx) : Ex (List Nd) :=
  if b.length > 65536 then .error 12
  else if (bad b).isSome then .error 13
  else allF (lines b)
end Go.Xml
