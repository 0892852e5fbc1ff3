/- The plain functions of a script's lines: no Go, no memory. -/
import Derived.Test.YtkdofgbjebpmoaaGreatDoorCPure
namespace Go.Proofs.YtkdofgbjebpmoaaGreatDoor
set_option linter.unusedVariables false
set_option linter.unusedSimpArgs false
structure ActL where
  kind : Int
  path : ByteArray
  dest : ByteArray
  data : ByteArray
  quota : Int
  program : ByteArray
  output : ByteArray
  inputs : List ByteArray
  parts : Int
  split : Int
  spill : Int
structure ScriptL where
  nodes : Int
  replicas : Int
  block : Int
  room : Int
  acts : List (List ActL)
  choices : List Int
  rounds : Int
  flips : Bool
namespace Con
abbrev Fld := ByteArray × Bool
def fnum (f : Fld) : Option Int := numOf f.2 f.1.data.toList
def numsL : List Fld → Option (List Int)
  | [] => some []
  | f :: r => match fnum f with
    | none => none
    | some n => (numsL r).map (n :: ·)
def chooseL (st : ScriptL) (rest : List Fld) : Except Int ScriptL :=
  match numsL rest with
  | none => .error 2
  | some l => if rest = [] then .error 2 else .ok { st with choices := st.choices ++ l }
def verbs : List (Nat × List UInt8 × List UInt8) := [
  (1, [109, 107, 100, 105, 114], [112]),
  (2, [99, 114, 101, 97, 116, 101], [112]),
  (3, [97, 112, 112, 101, 110, 100], [112, 100]),
  (4, [99, 108, 111, 115, 101], [112]),
  (5, [100, 101, 108, 101, 116, 101], [112]),
  (6, [114, 101, 110, 97, 109, 101], [112, 113]),
  (7, [108, 105, 109, 105, 116], [112, 110]),
  (8, [114, 101, 97, 100], [112]),
  (9, [108, 105, 115, 116], [112]),
  (10, [115, 117, 98, 109, 105, 116], []),
  (11, [115, 116, 97, 116, 117, 115], [112])]
def act0 (k : Nat) : ActL := ⟨k, ⟨#[]⟩, ⟨#[]⟩, ⟨#[]⟩, 0, ⟨#[]⟩, ⟨#[]⟩, [], 0, 0, 0⟩
/-- The act that a submit's fields write. -/
def submitL : List Fld → Option ActL
  | f0 :: f1 :: f2 :: f3 :: f4 :: f5 :: r => match fnum f2, fnum f3, fnum f4 with
    | some a, some b, some c => some { act0 10 with path := f0.1, output := f1.1, program := f5.1, parts := a, split := b, spill := c, inputs := r.map (·.1) }
    | _, _, _ => none
  | _ => none
def mkAct (k : Nat) (args : List UInt8) (rest : List Fld) : Option ActL :=
  if k = 10 then submitL rest
  else match args, rest with
    | [112], [p] => some { act0 k with path := p.1 }
    | [112, 100], [p, d] => some { act0 k with path := p.1, data := d.1 }
    | [112, 113], [p, q] => some { act0 k with path := p.1, dest := q.1 }
    | [112, 110], [p, n] => (fnum n).map fun m => { act0 k with path := p.1, quota := m }
    | _, _ => none
def addAct (a : ActL) (l : List (List ActL)) : List (List ActL) := l.set (l.length - 1) (l.getD (l.length - 1) [] ++ [a])
def actL (st : ScriptL) (word : List UInt8) (rest : List Fld) : Except Int ScriptL :=
  match verbs.find? (fun v => v.2.1 == word) with
  | none => .error 260
  | some v => match mkAct v.1 v.2.2 rest with
    | none => .error 2
    | some a => if st.acts = [] then .error 3 else .ok { st with acts := addAct a st.acts }
def setNum (st : ScriptL) (i : Nat) (n : Int) : ScriptL :=
  match i with
  | 0 => { st with nodes := n }
  | 1 => { st with replicas := n }
  | 2 => { st with block := n }
  | 3 => { st with room := n }
  | _ => { st with rounds := n }
def wFlips : List UInt8 := [102, 108, 105, 112, 115]
def wClient : List UInt8 := [99, 108, 105, 101, 110, 116]
def wChoose : List UInt8 := [99, 104, 111, 111, 115, 101]
def lineL (st : ScriptL) (f : Fld) (rest : List Fld) : Except Int ScriptL :=
  if f.2 = true then .error 260
  else match setIx f.1.data.toList with
    | some i => match rest with
      | [x] => match fnum x with
        | some n => .ok (setNum st i n)
        | none => .error 2
      | _ => .error 2
    | none =>
      if f.1.data.toList = wFlips ∨ f.1.data.toList = wClient then
        if rest ≠ [] then .error 2
        else if f.1.data.toList = wClient then .ok { st with acts := st.acts ++ [[]] }
        else .ok { st with flips := true }
      else if f.1.data.toList = wChoose then chooseL st rest
      else actL st f.1.data.toList rest
def stepL (st : ScriptL) (l : List UInt8) : Except Int ScriptL :=
  if l.head? = some 35 then .ok st
  else match cutL l with
    | none => .error 160
    | some [] => .ok st
    | some (f :: r) => lineL st f r
def runL (st : ScriptL) (i : Nat) : List ByteArray → Except (Int × Int) ScriptL
  | [] => .ok st
  | l :: ls => match stepL st l.data.toList with
    | .ok st' => runL st' (i + 1) ls
    | .error c => .error (c, (i : Int) + 1)
def script0 : ScriptL := ⟨0, 0, 0, 0, [], [], 0, false⟩
end Con
end Go.Proofs.YtkdofgbjebpmoaaGreatDoor
