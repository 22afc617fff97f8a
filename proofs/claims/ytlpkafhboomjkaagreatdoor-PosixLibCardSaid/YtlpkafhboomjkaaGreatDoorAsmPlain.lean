/- What a library's text says, in plain Lean: words, registers, numbers, lines. -/
import GoSem.Claim
import Derived.KernelRfl
namespace Go.Proofs.YtlpkafhboomjkaaGreatDoor.Asm

abbrev Str := List UInt8

/-- An instruction. -/
structure InsL where
  op : Int := 0
  a : Int := 0
  b : Int := 0
  c : Int := 0
  v : Int := 0
  m : Int := 0
  w : Int := 0
  deriving DecidableEq

def isDigit (c : UInt8) : Bool := decide (48 ≤ c.toNat) && decide (c.toNat ≤ 57)
def isLow (c : UInt8) : Bool := decide (97 ≤ c.toNat) && decide (c.toNat ≤ 122)
/-- The value of decimal digits. -/
def valL (s : Str) : Nat := s.foldl (fun v c => v * 10 + (c.toNat - 48)) 0
def numL (s : Str) : Option Int := if s ≠ [] ∧ s.all isDigit = true ∧ s.length ≤ 20 ∧ valL s < 18446744073709551616 then some (valL s) else none
def regL (s : Str) : Option Int := if (s.length = 2 ∨ s.length = 3) ∧ s[0]? = some 114 ∧ ¬ (s.length = 3 ∧ s[1]? = some 48) ∧ (s.drop 1).all isDigit = true ∧ valL (s.drop 1) < 32 then some (valL (s.drop 1)) else none
def isName (c : UInt8) : Bool := isLow c || isDigit c
def namedL (s : Str) : Bool := decide (1 ≤ s.length ∧ s.length ≤ 16) && (s.head?.any isLow) && s.all isName && (regL s).isNone

/-- The words of a line without a remark. -/
def wordsAux : Str → Str → List Str
  | w, [] => if w = [] then [] else [w]
  | w, c :: s => if c = 32 then (if w = [] then wordsAux [] s else w :: wordsAux [] s) else wordsAux (w ++ [c]) s
def wordsL (s : Str) : List Str := wordsAux [] s

/-- The instructions' names. -/
def opNames : List Str := [[115,101,116],[109,111,118],[97,100,100],[115,117,98],[97,110,100],[111,114],[120,111,114],[115,104,108],[115,104,114],[101,113],[108,116],[106,109,112],[106,122],[106,110,122],[106,115,114],[114,101,116],[108,100],[115,116],[115,119,112],[102,97,100],[99,97,115],[99,97,108,108],[104,115,104],[113,112,116],[113,116,107],[113,109,118],[113,104,115],[115,108,112],[104,110,100],[112,105,107],[108,97,121],[116,97,107],[105,110,106],[105,106,116],[114,117,110],[112,114,107],[115,108,102],[119,114,107],[119,107,100],[119,107,110],[110,111,119],[100,114,119],[103,101,116],[102,114,101],[111,98,106],[100,101,108],[99,107,112],[116,110,119],[116,115,116],[116,104,109],[116,106,110],[116,100,116],[116,101,120],[116,114,112],[101,110,100],[121,108,100],[99,98,107],[102,105,110]]
def opAux (s : Str) : List Str → Int → Int
  | [], _ => 0
  | x :: l, n => if x = s then n else opAux s l (n + 1)
def opL (s : Str) : Int := opAux s opNames 1

/-- Kinds of operands: regA 1, regB 2, regC 3, orC 4, orB 5, cell 6, num 7, spot 8, both 9. -/
def kindsL (op : Int) : List Int :=
  if op = 1 then [1, 9] else if op = 13 ∨ op = 14 then [1, 8] else if op = 12 ∨ op = 15 then [8] else if op = 22 then [7] else if op = 43 then [1, 5] else if op = 45 then [1, 2, 7]
  else if op = 21 ∨ op = 32 then [1, 6, 3] else if (17 ≤ op ∧ op ≤ 20) ∨ op = 31 then [1, 6]
  else if 3 ≤ op ∧ op ≤ 11 then [1, 2, 4]
  else if (24 ≤ op ∧ op ≤ 27) ∨ op = 48 then [1, 2, 3]
  else if op = 2 ∨ op = 23 ∨ op = 49 ∨ op = 50 ∨ op = 47 ∨ op = 39 ∨ op = 54 then [1, 2]
  else if op = 28 ∨ op = 29 ∨ op = 30 ∨ op = 34 ∨ op = 35 ∨ op = 36 ∨ op = 37 ∨ op = 38 ∨ op = 40 ∨ op = 41 ∨ op = 42 ∨ op = 44 ∨ op = 46 ∨ op = 51 ∨ op = 52 ∨ op = 53 ∨ op = 57 then [1]
  else []

def splitPlus : Str → Option (Str × Str)
  | [] => none
  | c :: s => if c = 43 then some ([], s) else (splitPlus s).map fun p => (c :: p.1, p.2)
/-- What stands in brackets. -/
def innerL (s : Str) : Option Str := if 2 ≤ s.length ∧ s.head? = some 91 ∧ s.getLast? = some 93 then some ((s.drop 1).dropLast) else none
def cellL (x : InsL) (s : Str) : Option InsL :=
  match innerL s with
  | none => none
  | some t =>
    match regL t with
    | some r => some { x with b := r }
    | none =>
      match splitPlus t with
      | some (p, q) => match regL p, numL q with
        | some r, some v => some { x with b := r, v := v }
        | _, _ => none
      | none => (numL t).map fun v => { x with b := -1, v := v }

/-- An operand: the instruction behind it, and the place that it wants. -/
def operandL (x : InsL) (k : Int) (s : Str) : Option (InsL × Option Str) :=
  if k = 1 then (regL s).map fun r => ({ x with a := r }, none)
  else if k = 2 then (regL s).map fun r => ({ x with b := r }, none)
  else if k = 3 then (regL s).map fun r => ({ x with c := r }, none)
  else if k = 4 then match regL s with
    | some r => some ({ x with c := r }, none)
    | none => (numL s).map fun v => ({ x with c := -1, v := v }, none)
  else if k = 5 then match regL s with
    | some r => some ({ x with b := r }, none)
    | none => (numL s).map fun v => ({ x with b := -1, v := v }, none)
  else if k = 7 then (numL s).map fun v => ({ x with v := v }, none)
  else if k = 6 then (cellL x s).map fun y => (y, none)
  else if namedL s then some (x, some s)
  else if k = 8 then none
  else (numL s).map fun v => ({ x with v := v }, none)

def endsWith (s : Str) (t : Str) : Bool := t.isSuffixOf s
def markL (x : InsL) (s : Str) : Option InsL :=
  match s with
  | [] => none
  | _ :: t =>
    let p : Str × Int := if endsWith t [61, 48] then (t.take (t.length - 2), 1) else if endsWith t [62, 48] then (t.take (t.length - 2), 2) else (t, x.w)
    match numL p.1 with
    | none => none
    | some v => if v < 1 ∨ 99 < v then none else some { x with w := p.2, m := v }

def operandsL (x : InsL) : List Int → List Str → Option (InsL × List Str)
  | [], _ => some (x, [])
  | _ :: _, [] => none
  | k :: ks, s :: ss => match operandL x k s with
    | none => none
    | some (y, o) => (operandsL y ks ss).map fun p => (p.1, o.toList ++ p.2)

/-- What a line says: nothing; a label; an instruction with the places that it wants. -/
inductive LineR where
  | skip
  | label (s : Str)
  | ins (x : InsL) (wants : List Str)

def lineL (s : Str) : Option LineR :=
  match wordsL s with
  | [] => some .skip
  | w :: ws =>
    if ws = [] ∧ w.getLast? = some 58 then (if namedL w.dropLast then some (.label w.dropLast) else none)
    else if opL w = 0 then none
    else
      let ks := kindsL (opL w)
      match operandsL { op := opL w } ks ws with
      | none => none
      | some (x, l) =>
        if ws.length = ks.length then some (.ins x l)
        else if ws.length = ks.length + 1 ∧ ((ws.getLast?).bind List.head?) = some 33 then (markL x (ws.getLast?.getD [])).map fun y => .ins y l
        else none

/-- What is read by now. -/
structure St where
  code : List InsL := []
  labels : List (Str × Nat) := []
  lines : List Nat := []
  wants : List (Nat × Nat × Str) := []

def stepL (st : St) (i : Nat) (s : Str) : Option St :=
  match lineL s with
  | none => none
  | some .skip => some st
  | some (.label t) => if st.labels.any (fun p => p.1 == t) then none else some { st with labels := st.labels ++ [(t, st.code.length)], lines := st.lines ++ [i] }
  | some (.ins x l) => some { st with code := st.code ++ [x], wants := st.wants ++ l.map (fun t => (st.code.length, i, t)) }
def stepsL (st : St) (i : Nat) : List Str → Option St
  | [] => some st
  | s :: l => (stepL st i s).bind fun st' => stepsL st' (i + 1) l

def findL (labels : List (Str × Nat)) (t : Str) : Option Nat := (labels.find? fun p => p.1 == t).map (·.2)
def patchL (labels : List (Str × Nat)) (code : List InsL) : List (Nat × Nat × Str) → Option (List InsL)
  | [] => some code
  | (at_, _, t) :: l => match findL labels t with
    | none => none
    | some p => patchL labels (code.modify at_ fun x => { x with v := p }) l
def parseL (lines : List Str) : Option (List InsL × List (Str × Nat)) :=
  match stepsL {} 0 lines with
  | none => none
  | some st => match patchL st.labels st.code st.wants with
    | none => none
    | some code => if code.length ≤ 2048 ∧ st.labels.all (fun p => p.2 != code.length) then some (code, st.labels) else none
end Go.Proofs.YtlpkafhboomjkaaGreatDoor.Asm
