/- What the commands' reader computes: plain functions on lists of bytes. -/
import Derived.Lib.SlTrimSet
namespace Go.Proofs.YthajagmccaaanaaGreatDoor
open Go

abbrev Bs := List UInt8

/-- What stands up to a sign, and how many bytes that takes with the sign. -/
def splitL (c : UInt8) : Bs → Bs × Nat
  | [] => ([], 0)
  | [x] => if x = c then ([], 1) else ([x], 1)
  | x :: y :: r =>
    if x = 92 then ((if y = c then [y] else [92, y]) ++ (splitL c r).1, (splitL c r).2 + 2)
    else if x = c then ([], 1)
    else (x :: (splitL c (y :: r)).1, (splitL c (y :: r)).2 + 1)

def isDig (c : UInt8) : Bool := decide (48 ≤ c.toNat ∧ c.toNat ≤ 57)
def digs (l : Bs) : Bs := l.takeWhile isDig
def val (l : Bs) : Nat := l.foldl (fun n c => 10 * n + (c.toNat - 48)) 0

/-- An address. -/
structure Ad where
  kind : Nat
  n : Int
  c : UInt8
  pat : Bs
  off : Int
  semi : Bool

/-- A number of at most nine digits: none is an error. -/
def numL (l : Bs) : Option (Nat × Bool × Bs) :=
  if 9 < (digs l).length then none else some (val (digs l), decide (0 < (digs l).length), l.drop (digs l).length)

def baseL (l : Bs) : Option (Ad × Bool × Bs) :=
  match numL l with
  | none => none
  | some (n, true, r) => some (⟨1, n, 0, [], 0, false⟩, true, r)
  | some (_, false, r) =>
    match r with
    | [] => some (⟨2, 0, 0, [], 0, false⟩, false, [])
    | x :: t =>
      if x = 46 then some (⟨2, 0, 0, [], 0, false⟩, true, t)
      else if x = 36 then some (⟨3, 0, 0, [], 0, false⟩, true, t)
      else if x = 39 then
        match t with
        | [] => none
        | m :: t' => some (⟨4, 0, m, [], 0, false⟩, true, t')
      else if x = 47 then some (⟨5, 0, 0, (splitL x t).1, 0, false⟩, true, t.drop (splitL x t).2)
      else if x = 63 then some (⟨6, 0, 0, (splitL x t).1, 0, false⟩, true, t.drop (splitL x t).2)
      else some (⟨2, 0, 0, [], 0, false⟩, false, x :: t)

/-- Offsets behind an address; fuel: how many bytes there are. -/
def offsL : Nat → Int → Bool → Bs → Option (Int × Bool × Bs)
  | 0, o, is, l => some (o, is, l)
  | k + 1, o, is, l =>
    match l with
    | [] => some (o, is, [])
    | x :: t =>
      if x = 43 ∨ x = 45 then
        match numL t with
        | none => none
        | some (n, some', r) => offsL k (o + (if x = 43 then 1 else -1) * (if some' then (n : Int) else 1)) true r
      else some (o, is, x :: t)

def oneL (l : Bs) : Option (Ad × Bool × Bs) :=
  match baseL l with
  | none => none
  | some (a, is, r) =>
    match offsL r.length a.off is r with
    | none => none
    | some (o, is', r') => some ({ a with off := o }, is', r')

def blanks (l : Bs) : Bs := Lib.trimLeftS l [32, 9]

/-- Addresses with , or ; between; fuel: how many bytes there are. -/
def adsL : Nat → List Ad → Bs → Option (List Ad × Bs)
  | 0, out, l => some (out, l)
  | k + 1, out, l =>
    match oneL l with
    | none => none
    | some (a, is, r) =>
      match blanks r with
      | [] => some (if is || !out.isEmpty then out ++ [{ a with semi := false }] else out, [])
      | x :: t =>
        if x = 44 ∨ x = 59 then adsL k (out ++ [{ a with semi := decide (x = 59) }]) (blanks t)
        else some (if is || !out.isEmpty then out ++ [{ a with semi := false }] else out, x :: t)

/-- The addresses with which a text begins, and what is left. -/
def rangeL (s : Bs) : Option (List Ad × Bs) :=
  match Lib.trimLeftS s [32, 9, 58] with
  | [] => adsL 1 [] []
  | x :: t => if x = 37 then some ([⟨1, 1, 0, [], 0, false⟩, ⟨3, 0, 0, [], 0, false⟩], blanks t) else adsL (t.length + 2) [] (x :: t)
end Go.Proofs.YthajagmccaaanaaGreatDoor
