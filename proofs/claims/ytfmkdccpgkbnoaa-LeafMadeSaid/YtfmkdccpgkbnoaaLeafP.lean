/-
  Layer 39, plain: a page's bytes; the reader's steps.
-/
import Derived.Test.YtfmkdccpgkbnoaaLeafO
namespace Go.Proofs.Ytfmkdccpgkbnoaa.lf
set_option linter.unusedVariables false
set_option linter.unusedSimpArgs false
open Go.RowKit bs

/-! ### a page's bytes -/
def rowOf (W : Nat) (l : List UInt8) (j : Nat) : List UInt8 := (l.drop (3 * W * j)).take (3 * W)
theorem rowOf_len {W j : Nat} {l : List UInt8} (h : 3 * W * j + 3 * W ≤ l.length) : (rowOf W l j).length = 3 * W := by simp [rowOf]; omega
/-- a row's bytes -/
def encRow (W : Nat) (r : List UInt8) : List UInt8 := if (runsB r W).length < 1 + 3 * W then runsB r W else 0 :: r
def encs (W : Nat) (l : List UInt8) (j : Nat) : Nat → List UInt8
  | 0 => []
  | k + 1 => encRow W (rowOf W l j) ++ encs W l (j + 1) k
theorem encs_snoc (W : Nat) (l : List UInt8) (j k : Nat) : encs W l j (k + 1) = encs W l j k ++ encRow W (rowOf W l (j + k)) := by
  induction k generalizing j with
  | zero => simp [encs]
  | succ k ih => rw [encs, ih (j + 1), encs, List.append_assoc, show j + 1 + k = j + (k + 1) by omega]
def headL (W H : Nat) : List UInt8 := [84, 89, UInt8.ofNat W, UInt8.ofNat H]
def putL (W H : Nat) (l : List UInt8) : List UInt8 := headL W H ++ encs W l 0 H
theorem encRow_len {W : Nat} {r : List UInt8} (h : r.length = 3 * W) : (encRow W r).length ≤ 1 + 3 * W := by
  unfold encRow
  split
  · omega
  · simp; omega
theorem encs_len (W : Nat) (l : List UInt8) (j k : Nat) (h : 3 * W * (j + k) ≤ l.length) : (encs W l j k).length ≤ k * (1 + 3 * W) := by
  induction k generalizing j with
  | zero => simp [encs]
  | succ k ih =>
    have h1 := ih (j + 1) (by rw [show j + 1 + k = j + (k + 1) by omega]; exact h)
    have e : 3 * W * (j + (k + 1)) = 3 * W * j + 3 * W * k + 3 * W := by rw [Nat.mul_add, Nat.mul_add, Nat.mul_one]; omega
    rw [e] at h
    have h2 := encRow_len (rowOf_len (W := W) (j := j) (l := l) (by omega))
    rw [encs, List.length_append, Nat.succ_mul]
    omega

/-! ### the reader: bytes that are left, and the first error -/
abbrev S := List UInt8 × Int
def tkV (k : Nat) (s : S) : List UInt8 := if s.2 = 0 ∧ k ≤ s.1.length then s.1.take k else List.replicate k 0
def failS (e : Int) (s : S) : S := if s.2 = 0 then (s.1, e) else s
def tkS (k : Nat) (s : S) : S := if s.2 = 0 ∧ k ≤ s.1.length then (s.1.drop k, 0) else failS 4 s
def wt (p : Bool) (s : S) : S := if p then s else failS 3 s
def hd (k : Nat) (s : S) : Nat := ((tkV k s).getD 0 0).toNat
def szS (s : S) : S := wt (decide (1 ≤ hd 1 s) && decide (hd 1 s ≤ 64)) (tkS 1 s)
theorem tkV_len (k : Nat) (s : S) : (tkV k s).length = k := by
  unfold tkV
  split
  · simp; omega
  · simp
def rep (p : List UInt8) : Nat → List UInt8
  | 0 => []
  | n + 1 => p ++ rep p n
theorem rep_len (p : List UInt8) (n : Nat) : (rep p n).length = n * p.length := by
  induction n with
  | zero => simp [rep]
  | succ n ih => rw [rep, List.length_append, ih, Nat.succ_mul]; omega
theorem rep_snoc (p : List UInt8) (n : Nat) : rep p (n + 1) = rep p n ++ p := by
  induction n with
  | zero => simp [rep]
  | succ n ih => show p ++ rep p (n + 1) = (p ++ rep p n) ++ p; rw [ih, List.append_assoc]
/-- one run's test -/
def runOk (W : Nat) (row last x : List UInt8) : Bool := decide (row.length + 3 * ((x.getD 0 0).toNat + 1) ≤ 3 * W) && decide (x.drop 1 ≠ last)
/-- n runs, as long as there is no error: the row that is made, and the state -/
def runsL (W : Nat) : Nat → List UInt8 → List UInt8 → S → List UInt8 × S
  | 0, row, _, s => (row, s)
  | n + 1, row, last, s =>
    if s.2 = 0 then
      let x := tkV 4 s
      let s1 := wt (runOk W row last x) (tkS 4 s)
      runsL W n (if s1.2 = 0 then row ++ rep (x.drop 1) ((x.getD 0 0).toNat + 1) else row) (x.drop 1) s1
    else (row, s)
/-- a row of the form 0 -/
def plainL (W : Nat) (s : S) : List UInt8 × S := (tkV (3 * W) s, wt (decide (1 + 3 * W ≤ (runsB (tkV (3 * W) s) W).length)) (tkS (3 * W) s))
/-- a row of the form 1 -/
def rowedL (W : Nat) (s : S) : List UInt8 × S :=
  let r := runsL W (hd 1 s) [] [] (wt (decide (0 < hd 1 s) && decide (2 + 4 * hd 1 s < 1 + 3 * W)) (tkS 1 s))
  (r.1, wt (decide (r.1.length = 3 * W)) r.2)
def rowL (W : Nat) (s : S) : List UInt8 × S :=
  let k := hd 1 s
  let s1 := wt (decide (k ≤ 1)) (tkS 1 s)
  if s1.2 = 0 then (if k = 0 then plainL W s1 else rowedL W s1) else ([], s1)
def rowsL (W : Nat) : Nat → List UInt8 → S → List UInt8 × S
  | 0, pix, s => (pix, s)
  | k + 1, pix, s => if s.2 = 0 then rowsL W k (pix ++ (rowL W s).1) (rowL W s).2 else (pix, s)
/-- the head: width, height, state -/
def headS (s : S) : Nat × Nat × S :=
  let s1 := wt (decide (hd 1 s = 84)) (tkS 1 s)
  let s2 := wt (decide (hd 1 s1 = 89)) (tkS 1 s1)
  let w := hd 1 s2
  let s3 := szS s2
  (w, hd 1 s3, szS s3)
/-- all: width, height, pixels, state -/
def takeB (b : List UInt8) : Nat × Nat × List UInt8 × S :=
  let h := headS (b, 0)
  let r := rowsL h.1 h.2.1 [] h.2.2
  (h.1, h.2.1, r.1, wt (decide (r.2.1.length = 0)) r.2)
end Go.Proofs.Ytfmkdccpgkbnoaa.lf
