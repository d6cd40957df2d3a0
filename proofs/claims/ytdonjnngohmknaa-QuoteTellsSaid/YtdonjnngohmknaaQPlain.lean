/-
  Layer 7, plain: bytes in three forms, and what stands at the beginning of a text, as functions of lists of bytes.
-/
import Derived.Test.YtdonjnngohmknaaChar
namespace Go.Proofs.Ytdonjnngohmknaa.qt
set_option linter.unusedVariables false
set_option linter.unusedSimpArgs false
open ch

/-- the letter of a byte that has one; 0 -/
def short (c : UInt8) : UInt8 := if c = 8 then 98 else if c = 9 then 116 else if c = 10 then 110 else if c = 12 then 102 else if c = 13 then 114 else 0
/-- a byte within ( ) -/
def pone (c : UInt8) : List UInt8 :=
  if c = 40 ∨ c = 41 ∨ c = 92 then [92, c]
  else if short c ≠ 0 then [92, short c]
  else if c < 32 ∨ 126 < c then [92, UInt8.ofNat (48 + c.toNat / 64), UInt8.ofNat (48 + c.toNat / 8 % 8), UInt8.ofNat (48 + c.toNat % 8)]
  else [c]
def parenL (l : List UInt8) : List UInt8 := 40 :: (l.flatMap pone ++ [41])
def hexd (k : Nat) : UInt8 := UInt8.ofNat (if k < 10 then 48 + k else 87 + k)
def hone (c : UInt8) : List UInt8 := [hexd (c.toNat / 16), hexd (c.toNat % 16)]
def hexL (l : List UInt8) : List UInt8 := 60 :: (l.flatMap hone ++ [62])
/-- the number of up to four bytes, filled up by 0 -/
def val4 (l : List UInt8) : Nat := 16777216 * (l.getD 0 0).toNat + 65536 * (l.getD 1 0).toNat + 256 * (l.getD 2 0).toNat + (l.getD 3 0).toNat
def five (v : Nat) : List UInt8 := [UInt8.ofNat (33 + v / 52200625 % 85), UInt8.ofNat (33 + v / 614125 % 85), UInt8.ofNat (33 + v / 7225 % 85), UInt8.ofNat (33 + v / 85 % 85), UInt8.ofNat (33 + v % 85)]
/-- a group of up to four bytes -/
def eone (l : List UInt8) : List UInt8 := if val4 l = 0 ∧ l.length = 4 then [122] else (five (val4 l)).take (l.length + 1)
def groups : Nat → List UInt8 → List UInt8
  | 0, _ => []
  | _ + 1, [] => []
  | f + 1, c :: l => eone ((c :: l).take 4) ++ groups f ((c :: l).drop 4)
def eightyL (l : List UInt8) : List UInt8 := 60 :: 126 :: (groups l.length l ++ [126, 62])

/-- the bytes, the place behind them, the error -/
abbrev Res := List UInt8 × Int × Int
def bad (e : Int) : Res := ([], 0, e)

/-- up to f digits to eight: the number, how many -/
def oct : Nat → List UInt8 → Nat → Nat → Nat × Nat
  | 0, _, v, k => (v, k)
  | _ + 1, [], v, k => (v, k)
  | f + 1, c :: r, v, k => if 48 ≤ c ∧ c ≤ 55 then oct f r (8 * v + (c.toNat - 48)) (k + 1) else (v, k)
/-- what stands behind a backslash: a byte (or none), and how many bytes it takes -/
def esc : List UInt8 → Option UInt8 × Nat
  | [] => (none, 0)
  | c :: r =>
    if c = 98 then (some 8, 1) else if c = 116 then (some 9, 1) else if c = 110 then (some 10, 1) else if c = 102 then (some 12, 1) else if c = 114 then (some 13, 1)
    else if c = 13 ∧ r.head? = some 10 then (none, 2)
    else if c = 10 ∨ c = 13 then (none, 1)
    else if 48 ≤ c ∧ c ≤ 55 then (some (UInt8.ofNat (oct 3 (c :: r) 0 0).1), (oct 3 (c :: r) 0 0).2)
    else (some c, 1)
def parenR : Nat → List UInt8 → Nat → List UInt8 → Nat → Res
  | 0, _, _, _, _ => bad 4
  | _ + 1, [], _, _, _ => bad 4
  | f + 1, c :: r, deep, b, n =>
    let push (r : List UInt8) (deep : Nat) (n : Nat) (x : UInt8) : Res := if 4000 ≤ b.length then bad 5 else parenR f r deep (b ++ [x]) n
    if c = 40 then push r (deep + 1) (n + 1) 40
    else if c = 41 then (if deep = 1 then (b, ((n + 1 : Nat) : Int), 0) else push r (deep - 1) (n + 1) 41)
    else if c = 13 then (if r.head? = some 10 then push (r.drop 1) deep (n + 2) 10 else push r deep (n + 1) 10)
    else if c = 92 then
      (if r = [] then bad 4 else match (esc r).1 with
        | some x => push (r.drop (esc r).2) deep (n + 1 + (esc r).2) x
        | none => parenR f (r.drop (esc r).2) deep b (n + 1 + (esc r).2))
    else push r deep (n + 1) c
def hexR : List UInt8 → Int → List UInt8 → Nat → Res
  | [], _, _, _ => bad 4
  | c :: r, half, b, n =>
    if kind (c.toNat : Int) = 1 then hexR r half b (n + 1)
    else if c = 62 then (if 0 ≤ half then (if 4000 ≤ b.length then bad 5 else (b ++ [UInt8.ofNat (16 * half).toNat], ((n + 1 : Nat) : Int), 0)) else (b, ((n + 1 : Nat) : Int), 0))
    else if value (c.toNat : Int) < 0 ∨ 15 < value (c.toNat : Int) then bad 3
    else if half < 0 then hexR r (value (c.toNat : Int)) b (n + 1)
    else if 4000 ≤ b.length then bad 5
    else hexR r (-1) (b ++ [UInt8.ofNat (16 * half + value (c.toNat : Int)).toNat]) (n + 1)
def number (g : List UInt8) : Nat := g.foldl (fun v c => 85 * v + (c.toNat - 33)) 0
def bytes4 (v : Nat) : List UInt8 := [UInt8.ofNat (v / 16777216), UInt8.ofNat (v / 65536), UInt8.ofNat (v / 256), UInt8.ofNat v]
def fill (g : List UInt8) : List UInt8 := g ++ List.replicate (5 - g.length) 117
def lastR (g b : List UInt8) (n : Nat) : Res :=
  if g = [] then (b, (n : Int), 0)
  else if 4294967296 ≤ number (fill g) ∨ g.length = 1 then bad 3
  else if 4000 < b.length + (g.length - 1) then bad 5
  else (b ++ (bytes4 (number (fill g))).take (g.length - 1), (n : Int), 0)
def eightyR : List UInt8 → List UInt8 → List UInt8 → Nat → Res
  | [], _, _, _ => bad 4
  | c :: r, g, b, n =>
    if kind (c.toNat : Int) = 1 then eightyR r g b (n + 1)
    else if c = 126 then (if r = [] then bad 4 else if r.head? ≠ some 62 then bad 3 else lastR g b (n + 2))
    else if c = 122 ∧ g = [] then (if 4000 < b.length + 4 then bad 5 else eightyR r [] (b ++ [0, 0, 0, 0]) (n + 1))
    else if 33 ≤ c ∧ c ≤ 117 then
      (if g.length < 4 then eightyR r (g ++ [c]) b (n + 1)
      else if 4294967296 ≤ number (g ++ [c]) then bad 3
      else if 4000 < b.length + 4 then bad 5
      else eightyR r [] (b ++ bytes4 (number (g ++ [c]))) (n + 1))
    else bad 3
def takeL (s : List UInt8) : Res :=
  if s.head? = some 40 then parenR s.length (s.drop 1) 1 [] 1
  else if s.head? = some 60 ∧ (s.drop 1).head? = some 126 then eightyR (s.drop 2) [] [] 2
  else if s.head? = some 60 then hexR (s.drop 1) (-1) [] 1
  else bad 3
end Go.Proofs.Ytdonjnngohmknaa.qt
