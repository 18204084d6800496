/- The plain reading of a script's text and the plain printing of steps, in words of lists and numbers alone: no program in sight. Conditions: none. -/
namespace Scr
abbrev Bs := List UInt8

/-- A thing of a line: kind 0 a word, 1 a quoted text, 2 a quoted text that can't stand anywhere. -/
structure Tok where
  kind : Nat
  pos : Nat
  text : Bs
  deriving DecidableEq

def isBlank (c : UInt8) : Bool := c == 32 || c == 9
def isStop (c : UInt8) : Bool := c == 32 || c == 9 || c == 35 || c == 34
def hexv (c : UInt8) : Option Nat :=
  if 48 ≤ c.toNat ∧ c.toNat ≤ 57 then some (c.toNat - 48) else if 97 ≤ c.toNat ∧ c.toNat ≤ 102 then some (c.toNat - 87) else none

/-- What a quoted text says behind its first quote, and how many bytes it takes with its last one. -/
def quoteL : Bs → Option (Bs × Nat)
  | [] => none
  | c :: t =>
    if c = 34 then some ([], 1)
    else if c.toNat < 32 ∨ 126 < c.toNat then none
    else if c ≠ 92 then (quoteL t).map fun p => (c :: p.1, p.2 + 1)
    else match t with
      | [] => none
      | d :: u =>
        if d = 34 ∨ d = 92 then (quoteL u).map fun p => (d :: p.1, p.2 + 2)
        else if d = 120 then
          match u with
          | a :: b :: v =>
            match hexv a, hexv b with
            | some x, some y => (quoteL v).map fun p => (UInt8.ofNat (16 * x + y) :: p.1, p.2 + 4)
            | _, _ => none
          | _ => none
        else none

/-- The things of a line from a place on; so many bytes are passed over first. -/
def toksG : Bs → Nat → Nat → List Tok
  | [], _, _ => []
  | _ :: t, p, k + 1 => toksG t (p + 1) k
  | c :: t, p, 0 =>
    if isBlank c then toksG t (p + 1) 0
    else if c = 35 then []
    else if c = 34 then
      match quoteL t with
      | none => [⟨2, p, []⟩]
      | some x => ⟨1, p, x.1⟩ :: toksG t (p + 1) x.2
    else ⟨0, p, (c :: t).takeWhile (fun d => !isStop d)⟩ :: toksG t (p + 1) (t.takeWhile (fun d => !isStop d)).length

def toks (line : Bs) : List Tok := toksG line 0 0

def isDig (c : UInt8) : Bool := 48 ≤ c.toNat && c.toNat ≤ 57
def digVal (n : Nat) (c : UInt8) : Nat := 10 * n + (c.toNat - 48)
def maxN : Nat := 1099511627776

/-- The number that a word says. -/
def numL (s : Bs) : Option Int :=
  let d := if s.head? = some 45 then s.tail else s
  if d = [] ∨ 13 < d.length ∨ (d.head? = some 48 ∧ s ≠ [48]) then none
  else if d.all isDig then
    let n := d.foldl digVal 0
    if maxN < n then none else some (if s.head? = some 45 then -(n : Int) else n)
  else none

structure Wr where
  key : Bs
  del : Bool
  val : Bs
  deriving DecidableEq
structure OpS where
  kind : Int
  writes : List Wr
  sync : Bool
  key : Bs
  til : Bs
  n : Int
  snap : Int
  deriving DecidableEq
structure StepS where
  kind : Int
  a : Int
  b : Int
  c : Int
  op : OpS
  keep : List Int
  deriving DecidableEq
def OpS.zero : OpS := ⟨0, [], false, [], [], 0, 0⟩
def StepS.zero : StepS := ⟨0, 0, 0, 0, OpS.zero, []⟩

/-- A fault within a line: its byte, its number. -/
abbrev Flt := Nat × Nat
abbrev Res (α : Type) := Except Flt α

def num (n : Nat) (lo hi : Int) : List Tok → Res (Int × List Tok)
  | [] => .error (n, 204)
  | t :: ts =>
    if t.kind = 2 then .error (t.pos, 200)
    else match numL t.text with
      | none => .error (t.pos, 201)
      | some v => if t.kind = 0 ∧ lo ≤ v ∧ v ≤ hi then .ok (v, ts) else .error (t.pos, 201)
def numAny (n : Nat) (ts : List Tok) : Res (Int × List Tok) := num n (-1099511627776) 1099511627776 ts
def txt (n : Nat) : List Tok → Res (Bs × List Tok)
  | [] => .error (n, 204)
  | t :: ts => if t.kind = 1 then .ok (t.text, ts) else .error (t.pos, 200)
def fin : List Tok → Res Unit
  | [] => .ok ()
  | t :: _ => .error (t.pos, 200)

def wPut : Bs := [112, 117, 116]
def wDel : Bs := [100, 101, 108]
def wSync : Bs := [115, 121, 110, 99]
def wSnap : Bs := [115, 110, 97, 112]
def wWrite : Bs := [119, 114, 105, 116, 101]
def wGet : Bs := [103, 101, 116]
def wScan : Bs := [115, 99, 97, 110]
def wRelease : Bs := [114, 101, 108, 101, 97, 115, 101]
def wDo : Bs := [100, 111]
def wTick : Bs := [116, 105, 99, 107]
def wFall : Bs := [102, 97, 108, 108]
def wArm : Bs := [97, 114, 109]
def wFail : Bs := [102, 97, 105, 108]
def wRepeat : Bs := [114, 101, 112, 101, 97, 116]
def wEnd : Bs := [101, 110, 100]

/-- A batch: its writes, and whether sync stands behind; and what is left. -/
def writesP (n : Nat) : List Tok → Res (List Wr × Bool × List Tok)
  | [] => .ok ([], false, [])
  | t :: ts =>
    if t.kind = 0 ∧ t.text = wSync then .ok ([], true, ts)
    else if t.kind = 0 ∧ t.text = wDel then
      match ts with
      | [] => .error (n, 204)
      | k :: ts' =>
        if k.kind = 1 then
          match writesP n ts' with
          | .error e => .error e
          | .ok r => .ok (⟨k.text, true, []⟩ :: r.1, r.2)
        else .error (k.pos, 200)
    else if t.kind = 0 ∧ t.text = wPut then
      match ts with
      | [] => .error (n, 204)
      | k :: [] => if k.kind = 1 then .error (n, 204) else .error (k.pos, 200)
      | k :: v :: ts' =>
        if k.kind = 1 then
          if v.kind = 1 then
            match writesP n ts' with
            | .error e => .error e
            | .ok r => .ok (⟨k.text, false, v.text⟩ :: r.1, r.2)
          else .error (v.pos, 200)
        else .error (k.pos, 200)
    else .error (t.pos, 200)

/-- The numbers of a fall, up to the line's end. -/
def keepsP (n : Nat) : List Tok → Res (List Int)
  | [] => .ok []
  | t :: ts =>
    match numAny n (t :: ts) with
    | .error e => .error e
    | .ok r =>
      match keepsP n ts with
      | .error e => .error e
      | .ok l => .ok (r.1 :: l)

/-- snap and a number, or nothing. -/
def snapP (n : Nat) : List Tok → Res (Int × List Tok)
  | [] => .ok (0, [])
  | t :: ts => if t.kind = 0 ∧ t.text = wSnap then numAny n ts else .error (t.pos, 200)

/-- An operation behind its client. -/
def opP (n : Nat) (name : Bs) (ts : List Tok) : Res (OpS × List Tok) :=
  if name = wWrite then (writesP n ts).map fun r => ({ OpS.zero with kind := 1, writes := r.1, sync := r.2.1 }, r.2.2)
  else if name = wSync then .ok ({ OpS.zero with kind := 2 }, ts)
  else if name = wSnap then .ok ({ OpS.zero with kind := 5 }, ts)
  else if name = wRelease then (numAny n ts).map fun r => ({ OpS.zero with kind := 6, snap := r.1 }, r.2)
  else if name = wGet then
    match txt n ts with
    | .error e => .error e
    | .ok k => (snapP n k.2).map fun r => ({ OpS.zero with kind := 3, key := k.1, snap := r.1 }, r.2)
  else if name = wScan then
    match txt n ts with
    | .error e => .error e
    | .ok k =>
      match txt n k.2 with
      | .error e => .error e
      | .ok o =>
        match numAny n o.2 with
        | .error e => .error e
        | .ok m => (snapP n m.2).map fun r => ({ OpS.zero with kind := 4, key := k.1, til := o.1, n := m.1, snap := r.1 }, r.2)
  else .ok (OpS.zero, ts)

def withFin (s : StepS) (ts : List Tok) : Res StepS := (fin ts).map fun _ => s

/-- A step behind its first word. -/
def stepP (n : Nat) (name : Bs) (ts : List Tok) : Res StepS :=
  if name = wTick then withFin { StepS.zero with kind := 3 } ts
  else
    match numAny n ts with
    | .error e => .error e
    | .ok a =>
      if name = wDo then withFin { StepS.zero with kind := 2, a := a.1 } a.2
      else if name = wArm then withFin { StepS.zero with kind := 5, a := a.1 } a.2
      else if name = wFall then (keepsP n a.2).map fun l => { StepS.zero with kind := 4, a := a.1, keep := l }
      else if name = wFail then
        match numAny n a.2 with
        | .error e => .error e
        | .ok b =>
          match numAny n b.2 with
          | .error e => .error e
          | .ok c => withFin { StepS.zero with kind := 6, a := a.1, b := b.1, c := c.1 } c.2
      else
        match opP n name a.2 with
        | .error e => .error e
        | .ok o => withFin { StepS.zero with kind := 1, a := a.1, op := o.1 } o.2

def names : List Bs := [wWrite, wSync, wGet, wScan, wSnap, wRelease, wDo, wTick, wFall, wArm, wFail]
def maxSteps : Nat := 20000

/-- The steps so far; where the body of an open repeat begins, and how often it is done. -/
structure PSt where
  l : List StepS
  rep : Option (Nat × Nat)

def times {α : Type} (k : Nat) (l : List α) : List α := (List.replicate k l).flatten

/-- A line's things, and how many bytes it has. -/
def lineP (n : Nat) (ts : List Tok) (st : PSt) : Res PSt :=
  match ts with
  | [] => .ok st
  | t :: ts =>
    if t.kind ≠ 0 then .error (t.pos, 200)
    else if t.text = wRepeat then
      match st.rep with
      | some _ => .error (t.pos, 200)
      | none =>
        match num n 1 1000 ts with
        | .error e => .error e
        | .ok r => (fin r.2).map fun _ => ⟨st.l, some (st.l.length, r.1.toNat)⟩
    else if t.text = wEnd then
      match st.rep with
      | none => .error (t.pos, 200)
      | some (b, k) =>
        if maxSteps < b + (st.l.length - b) * k then .error (t.pos, 203)
        else (fin ts).map fun _ => ⟨st.l.take b ++ times k (st.l.drop b), none⟩
    else if t.text ∉ names then .error (t.pos, 200)
    else if maxSteps ≤ st.l.length then .error (t.pos, 203)
    else (stepP n t.text ts).map fun s => ⟨st.l ++ [s], st.rep⟩

/-- The lines of a text. -/
def linesG : Bs → Bs → List Bs
  | acc, [] => [acc]
  | acc, c :: t => if c = 10 then acc :: linesG [] t else linesG (acc ++ [c]) t
def lines (text : Bs) : List Bs := linesG [] text

/-- A fault of a text: its line from 1 on, its byte, its number. -/
abbrev Fault := Nat × Nat × Nat

def linesP : Nat → List Bs → PSt → Except Fault PSt
  | _, [], st => .ok st
  | i, x :: r, st =>
    match lineP x.length (toks x) st with
    | .error e => .error (i, e.1, e.2)
    | .ok st' => linesP (i + 1) r st'

def endOf (ls : List Bs) : Fault := (ls.length, (ls.getLastD []).length, 204)

def parseP (text : Bs) : Except Fault (List StepS) :=
  if 65536 < text.length then .error (1, 0, 202)
  else
    match linesP 1 (lines text) ⟨[], none⟩ with
    | .error e => .error e
    | .ok st => match st.rep with
      | some _ => .error (endOf (lines text))
      | none => .ok st.l
end Scr
