/- What the lexer and the parser compute, as plain functions over lists of bytes and of tokens: no program in sight. -/
import Derived.Test.YtgenlgfbjlclbaaDoorKindsLex
namespace Go.Proofs.YtgenlgfbjlclbaaDoor

abbrev Bytes := List UInt8
def bsOf (l : Bytes) : ByteArray := ⟨l.toArray⟩
def isLetter (c : UInt8) : Bool := (97 ≤ c && c ≤ 122) || (65 ≤ c && c ≤ 90) || c == 95
def isDigit (c : UInt8) : Bool := 48 ≤ c && c ≤ 57
def isBlank (c : UInt8) : Bool := c == 32 || c == 9 || c == 10 || c == 13
def adv (p : Pos) (c : UInt8) : Pos := if c = 10 then ⟨p.line + 1, 1⟩ else ⟨p.line, p.col + 1⟩
def advs (p : Pos) : Bytes → Pos
  | [] => p
  | c :: r => advs (adv p c) r
/-- Blanks and what stands behind two strokes; true: within such a line. -/
def blankL : Bool → Pos → Bytes → Pos × Bytes
  | _, p, [] => (p, [])
  | true, p, c :: r => if c = 10 then blankL false (adv p c) r else blankL true (adv p c) r
  | false, p, c :: r => if isBlank c then blankL false (adv p c) r else if c = 47 ∧ r.head? = some 47 then blankL true (adv p c) r else (p, c :: r)
def runL (name : Bool) (l : Bytes) : Bytes := l.takeWhile (fun c => isDigit c || (name && isLetter c))
def valueL : Int → Bytes → Option Int
  | n, [] => some n
  | n, c :: r => if (9223372036854775807 - ((c.toNat : Int) - 48)) / 10 < n then none else valueL (n * 10 + ((c.toNat : Int) - 48)) r
def wordsL : List Bytes := [[101, 108, 115, 101], [102, 97, 108, 115, 101], [102, 117, 110, 99], [105, 102], [108, 101, 116], [112, 117, 98, 108, 105, 99], [114, 101, 116, 117, 114, 110], [115, 101, 99, 114, 101, 116], [116, 114, 117, 101], [118, 97, 114], [119, 104, 105, 108, 101]]
def marksL : List Bytes := [[38, 38], [124, 124], [61, 61], [33, 61], [60, 61], [62, 61], [60, 60], [62, 62], [43], [45], [42], [47], [37], [38], [124], [94], [60], [62], [61], [33], [40], [41], [123], [125], [91], [93], [44], [59]]
def tok (k : Int) (t : Bytes) (n : Int) (p : Pos) : Token := ⟨k, bsOf t, n, p⟩
/-- The token that begins here (what stands here is no blank), or the error's number. -/
def tokenL (p : Pos) : Bytes → Except Int Token
  | [] => .ok (tok 0 [] 0 p)
  | c :: r =>
    if isLetter c then .ok (tok (if wordsL.contains (runL true (c :: r)) then 3 else 1) (runL true (c :: r)) 0 p)
    else if isDigit c then
      match valueL 0 (runL false (c :: r)) with
      | none => .error 11
      | some n => .ok (tok 2 (runL false (c :: r)) n p)
    else
      match marksL.find? (·.isPrefixOf (c :: r)) with
      | none => .error 10
      | some m => .ok (tok 4 m 0 p)
def lexF : Nat → Pos → Bytes → List Token → Except Fault (List Token)
  | 0, _, _, _ => .error zFault
  | n + 1, p, l, out =>
    let b := blankL false p l
    match tokenL b.1 b.2 with
    | .error e => .error ⟨e, b.1⟩
    | .ok t =>
      let k := t.text.size
      if t.kind = 0 then .ok (out ++ [t]) else lexF n (advs b.1 (b.2.take k)) (b.2.drop k) (out ++ [t])
def lexL (l : Bytes) : Except Fault (List Token) := if 65536 < l.length then .error ⟨14, ⟨1, 1⟩⟩ else lexF (l.length + 1) ⟨1, 1⟩ l []

/-- A parser: the tokens ahead, how deep, the first error. -/
structure PS where
  ts : List Token
  deep : Int
  f : Fault
namespace PS
def now (s : PS) : Token := s.ts.headD zToken
def bad (s : PS) : Bool := s.f.e != 0
def fail (s : PS) (e : Int) : PS := if s.f.e = 0 then { s with f := ⟨e, s.now.pos⟩ } else s
def skip (s : PS) : PS := if s.now.kind = 0 then s else { s with ts := s.ts.tail }
def isM (s : PS) (m : Bytes) : Bool := (s.now.kind == 3 || s.now.kind == 4) && s.now.text.data.toList == m
def take (s : PS) (m : Bytes) : Bool × PS := if s.bad || !s.isM m then (false, s) else (true, s.skip)
def want (s : PS) (m : Bytes) : PS := if s.bad || !s.isM m then s.fail 12 else s.skip
def name (s : PS) : ByteArray × PS := if s.bad || s.now.kind != 1 then (⟨#[]⟩, s.fail 12) else (s.now.text, s.skip)
def down (s : PS) : Bool × PS := if s.bad then (false, s) else if 200 ≤ s.deep then (false, s.fail 13) else (true, { s with deep := s.deep + 1 })
def up (s : PS) : PS := { s with deep := s.deep - 1 }
def mark (s : PS) (ms : List Bytes) : Bytes := (ms.find? (fun m => s.now.kind == 4 && s.now.text.data.toList == m)).getD []
end PS
def levelsL : List (List Bytes) := [[[124, 124]], [[38, 38]], [[61, 61], [33, 61], [60], [60, 61], [62], [62, 61]], [[43], [45], [124], [94]], [[42], [47], [37], [38], [60, 60], [62, 62]]]
def opsL : List Bytes := [[43], [45], [42], [47], [37], [38], [124], [94], [60, 60], [62, 62], [61, 61], [33, 61], [60], [60, 61]]
def opL (m : Bytes) : Int × Bool :=
  if m = [62] then (13, true) else if m = [62, 61] then (14, true)
  else match opsL.findIdx? (· == m) with
    | some i => ((i : Int) + 1, false)
    | none => (0, false)
def bothL (m : Bytes) (at' : Pos) (a b : Expr) : Expr :=
  if m = [38, 38] then ⟨7, at', 0, ⟨#[]⟩, 0, [a, b]⟩
  else if m = [124, 124] then ⟨8, at', 0, ⟨#[]⟩, 0, [a, b]⟩
  else ⟨6, at', 0, ⟨#[]⟩, (opL m).1, if (opL m).2 then [b, a] else [a, b]⟩
def eZ : Expr := ⟨0, ⟨0, 0⟩, 0, ⟨#[]⟩, 0, []⟩
def sAt (p : Pos) : Stmt := ⟨0, p, ⟨#[]⟩, [], [], []⟩

/-- The parser's functions that call each other, with so many calls left. -/
structure Ps where
  expr : Nat → PS → Option (Expr × PS)
  rest : Nat → Expr → PS → Option (Expr × PS)
  whole : PS → Option (Expr × PS)
  unary : PS → Option (Expr × PS)
  primary : Pos → PS → Option (Expr × PS)
  args : List Expr → PS → Option (List Expr × PS)
  block : PS → Option (List Stmt × PS)
  stmts : List Stmt → PS → Option (List Stmt × PS)
  stmt : PS → Option (Stmt × PS)
  choice : Pos → PS → Option (Stmt × PS)
  turn : Pos → PS → Option (Stmt × PS)
def psNone : Ps := ⟨fun _ _ => none, fun _ _ _ => none, fun _ => none, fun _ => none, fun _ _ => none, fun _ _ => none, fun _ => none, fun _ _ => none, fun _ => none, fun _ _ => none, fun _ _ => none⟩
def psExpr (p : Ps) (level : Nat) (s : PS) : Option (Expr × PS) :=
  if level = 5 then p.unary s else (p.expr (level + 1) s).bind fun r => p.rest level r.1 r.2
def psRest (p : Ps) (level : Nat) (a : Expr) (s : PS) : Option (Expr × PS) :=
  if s.bad then some (a, s) else
  let m := s.mark (levelsL.getD level [])
  if m = [] then some (a, s) else
  (p.expr (level + 1) s.skip).bind fun r =>
    let a' := bothL m s.now.pos a r.1
    if level = 2 then some (a', r.2) else p.rest level a' r.2
def psWhole (p : Ps) (s : PS) : Option (Expr × PS) :=
  if s.down.1 then (p.expr 0 s.down.2).bind fun r => some (r.1, r.2.up) else some (eZ, s.down.2)
def psUnary (p : Ps) (s : PS) : Option (Expr × PS) :=
  if s.bad then some (eZ, s) else
  if s.isM [33] || s.isM [45] then
    if s.down.1 then
      (p.unary s.down.2.skip).bind fun r =>
        some (if s.now.text.data.toList = [33] then ⟨9, s.now.pos, 0, ⟨#[]⟩, 0, [r.1]⟩ else ⟨6, s.now.pos, 0, ⟨#[]⟩, 2, [⟨1, s.now.pos, 0, ⟨#[]⟩, 0, []⟩, r.1]⟩, r.2.up)
    else some (eZ, s.down.2)
  else p.primary s.now.pos s
def psPrimary (p : Ps) (at' : Pos) (s : PS) : Option (Expr × PS) :=
  if s.now.kind = 2 then some (⟨1, at', s.now.num, ⟨#[]⟩, 0, []⟩, s.skip) else
  if (s.take [116, 114, 117, 101]).1 then some (⟨2, at', 1, ⟨#[]⟩, 0, []⟩, s.skip) else
  if (s.take [102, 97, 108, 115, 101]).1 then some (⟨2, at', 0, ⟨#[]⟩, 0, []⟩, s.skip) else
  if (s.take [40]).1 then (p.whole s.skip).bind fun r => some (r.1, r.2.want [41]) else
  let nm := s.name.1
  let s1 := s.name.2
  if (s1.take [91]).1 then (p.whole s1.skip).bind fun r => some (⟨4, at', 0, nm, 0, [r.1]⟩, r.2.want [93]) else
  if (s1.take [40]).1 then (p.args [] s1.skip).bind fun r => some (⟨5, at', 0, nm, 0, r.1⟩, r.2) else
  some (⟨3, at', 0, nm, 0, []⟩, s1)
def psArgs (p : Ps) (out : List Expr) (s : PS) : Option (List Expr × PS) :=
  if s.bad || s.isM [41] then some (out, s.want [41]) else
  (p.whole (if out = [] then s else s.want [44])).bind fun r => p.args (out ++ [r.1]) r.2
def psBlock (p : Ps) (s : PS) : Option (List Stmt × PS) :=
  let s1 := s.want [123]
  if s1.down.1 then (p.stmts [] s1.down.2).bind fun r => some (r.1, r.2.up) else some ([], s1.down.2)
def psStmts (p : Ps) (out : List Stmt) (s : PS) : Option (List Stmt × PS) :=
  if s.bad || s.isM [125] then some (out, s.want [125]) else
  (p.stmt s).bind fun r => p.stmts (out ++ [r.1]) r.2
def psStmt (p : Ps) (s : PS) : Option (Stmt × PS) :=
  let q := s.now.pos
  if (s.take [108, 101, 116]).1 then
    (p.whole (s.skip.name.2.want [61])).bind fun r => some (⟨1, q, s.skip.name.1, [r.1], [], []⟩, r.2.want [59])
  else if (s.take [105, 102]).1 then p.choice q s.skip
  else if (s.take [119, 104, 105, 108, 101]).1 then
    (p.whole s.skip).bind fun r => (p.block r.2).bind fun b => some (⟨5, q, ⟨#[]⟩, [r.1], b.1, []⟩, b.2)
  else if (s.take [114, 101, 116, 117, 114, 110]).1 then
    (p.whole s.skip).bind fun r => some (⟨6, q, ⟨#[]⟩, [r.1], [], []⟩, r.2.want [59])
  else (p.turn q s).bind fun r => some (r.1, r.2.want [59])
def psChoice (p : Ps) (q : Pos) (s : PS) : Option (Stmt × PS) :=
  (p.whole s).bind fun r => (p.block r.2).bind fun b =>
    if !(b.2.take [101, 108, 115, 101]).1 then some (⟨4, q, ⟨#[]⟩, [r.1], b.1, []⟩, b.2) else
    let s1 := b.2.skip
    if !(s1.take [105, 102]).1 then (p.block s1).bind fun c => some (⟨4, q, ⟨#[]⟩, [r.1], b.1, c.1⟩, c.2) else
    let s2 := s1.skip
    if s2.down.1 then (p.choice s1.now.pos s2.down.2).bind fun c => some (⟨4, q, ⟨#[]⟩, [r.1], b.1, [c.1]⟩, c.2.up)
    else some (⟨4, q, ⟨#[]⟩, [r.1], b.1, []⟩, s2.down.2)
def psTurn (p : Ps) (q : Pos) (s : PS) : Option (Stmt × PS) :=
  (p.whole s).bind fun r =>
    if r.2.bad then some (sAt q, r.2)
    else if r.1.kind = 3 ∧ (r.2.take [61]).1 = true then (p.whole r.2.skip).bind fun b => some (⟨2, q, r.1.name, [b.1], [], []⟩, b.2)
    else if r.1.kind = 4 ∧ (r.2.take [61]).1 = true then
      match r.1.kids with
      | [] => none
      | k :: _ => (p.whole r.2.skip).bind fun b => some (⟨3, q, r.1.name, [k, b.1], [], []⟩, b.2)
    else if r.1.kind = 5 then some (⟨7, q, ⟨#[]⟩, [r.1], [], []⟩, r.2)
    else some (sAt q, r.2.fail 12)
def ps : Nat → Ps
  | 0 => psNone
  | n + 1 => ⟨psExpr (ps n), psRest (ps n), psWhole (ps n), psUnary (ps n), psPrimary (ps n), psArgs (ps n), psBlock (ps n), psStmts (ps n), psStmt (ps n), psChoice (ps n), psTurn (ps n)⟩

def globalL (h : Int) (s : PS) : Global × PS :=
  let q := s.now.pos
  let nm := s.name.1
  let s1 := s.name.2
  if (s1.take [91]).1 then
    let s2 := s1.skip
    if s2.bad then (⟨nm, h, 0, q⟩, (s2.want [93]).want [59])
    else if s2.now.kind ≠ 2 then (⟨nm, h, 0, q⟩, ((s2.fail 12).want [93]).want [59])
    else if s2.now.num < 1 ∨ 4096 < s2.now.num then (⟨nm, h, 0, q⟩, ((s2.fail 31).want [93]).want [59])
    else (⟨nm, h, s2.now.num, q⟩, (s2.skip.want [93]).want [59])
  else (⟨nm, h, 0, q⟩, s1.want [59])
def paramsF : Nat → List ByteArray → PS → Option (List ByteArray × PS)
  | 0, _, _ => none
  | n + 1, out, s =>
    if s.bad || s.isM [41] then some (out, s.want [41]) else
    let s1 := if out = [] then s else s.want [44]
    paramsF n (out ++ [s1.name.1]) s1.name.2
def functionF (n : Nat) (s : PS) : Option (Fun × PS) :=
  (paramsF n [] (s.name.2.want [40])).bind fun r => ((ps n).block r.2).bind fun b => some (⟨s.name.1, r.1, b.1, s.now.pos⟩, b.2)
def progF : Nat → Prog → PS → Option (Prog × PS)
  | 0, _, _ => none
  | n + 1, out, s =>
    if s.bad || s.now.kind == 0 then some (out, s) else
    if (s.take [118, 97, 114]).1 then let r := globalL 0 s.skip; progF n ⟨out.globals ++ [r.1], out.funcs⟩ r.2
    else if (s.take [112, 117, 98, 108, 105, 99]).1 then let r := globalL 1 s.skip; progF n ⟨out.globals ++ [r.1], out.funcs⟩ r.2
    else if (s.take [115, 101, 99, 114, 101, 116]).1 then let r := globalL 2 s.skip; progF n ⟨out.globals ++ [r.1], out.funcs⟩ r.2
    else if (s.take [102, 117, 110, 99]).1 then (functionF n s.skip).bind fun r => progF n ⟨out.globals, out.funcs ++ [r.1]⟩ r.2
    else progF n out (s.fail 12)
/-- The program of a text, or its first error; none: not enough calls. -/
def parseF (n : Nat) (l : Bytes) : Option (Prog × Fault) :=
  match lexL l with
  | .error f => some (⟨[], []⟩, f)
  | .ok ts => (progF n ⟨[], []⟩ ⟨ts, 0, zFault⟩).bind fun r => if r.2.bad then some (⟨[], []⟩, r.2.f) else some (r.1, zFault)
end Go.Proofs.YtgenlgfbjlclbaaDoor
