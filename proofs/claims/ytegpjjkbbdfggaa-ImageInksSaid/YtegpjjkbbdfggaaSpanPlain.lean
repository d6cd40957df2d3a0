/-
  Layer 30: sets of places of a row, and runs: plain functions and their laws. (PRUNE)
-/
import Derived.Test.YtegpjjkbbdfggaaMem
namespace Go.Proofs.Ytegpjjkbbdfggaa.sp
set_option linter.unusedVariables false
set_option linter.unusedSimpArgs false
open Go.RowKit bs

/-- is a place in one of the runs -/
def inRuns (l : List (Int × Int)) (i : Nat) : Bool := l.any fun r => decide (r.1 ≤ (i : Int)) && decide ((i : Int) < r.2)
/-- the cells of a row -/
def rowC (S : Nat → Bool) : Array Value := Array.ofFn (n := 64) fun i => .bool (S i.val)

theorem rowC_size (S : Nat → Bool) : (rowC S).size = 64 := by simp [rowC]
theorem rowC_get (S : Nat → Bool) (i : Nat) (h : i < 64) : (rowC S)[i]? = some (.bool (S i)) := by simp [rowC, h]
theorem rowC_ext {S T : Nat → Bool} (h : ∀ i, i < 64 → S i = T i) : rowC S = rowC T := by
  apply Array.ext_getElem?
  intro i
  by_cases hi : i < 64
  · rw [rowC_get S i hi, rowC_get T i hi, h i hi]
  · rw [Array.getElem?_eq_none (by rw [rowC_size]; omega), Array.getElem?_eq_none (by rw [rowC_size]; omega)]
theorem rowC_set (S : Nat → Bool) (i : Nat) (h : i < 64) (b : Bool) : (rowC S).setIfInBounds i (.bool b) = rowC (fun j => if j = i then b else S j) := by
  apply Array.ext_getElem?
  intro j
  rw [Array.getElem?_setIfInBounds, rowC_size]
  by_cases hj : j < 64
  · rw [rowC_get (fun j => if j = i then b else S j) j hj]
    by_cases e : i = j
    · subst e; simp [h]
    · simp [e, rowC_get S j hj, show ¬ j = i from fun x => e x.symm]
  · rw [Array.getElem?_eq_none (by rw [rowC_size]; omega : (rowC S).size ≤ j), Array.getElem?_eq_none (by rw [rowC_size]; omega : (rowC fun j => if j = i then b else S j).size ≤ j)]
    split <;> simp; omega
theorem rowC_zero : Array.replicate 64 (Value.bool false) = rowC fun _ => false := by
  apply Array.ext_getElem?
  intro i
  by_cases hi : i < 64
  · rw [rowC_get _ i hi]; simp [hi]
  · rw [Array.getElem?_eq_none (by simp; omega), Array.getElem?_eq_none (by rw [rowC_size]; omega)]
theorem rowC_one (S : Nat → Bool) : (rowC S).all (·.oneCell') = true := by
  rw [Array.all_eq_true]
  intro i hi
  simp [rowC, Value.oneCell']

/-- the slice at A, of length n and capacity c, holds the runs l -/
def Runs (w : World) (A : Option Addr) (n c : Nat) (l : List (Int × Int)) : Prop :=
  l.length = n ∧ n ≤ c ∧ (0 < n → ∃ b o, A = some ⟨b, o, none⟩ ∧ b < w.heap.size ∧ ∀ (j : Nat) (h : j < l.length),
    w.cell? ⟨b, o + j * 2, none⟩ = some (.int .i64 l[j].1) ∧ w.cell? ⟨b, o + j * 2 + 1, none⟩ = some (.int .i64 l[j].2))
theorem Runs.below {w w' : World} {A : Option Addr} {n c : Nat} {l : List (Int × Int)} (h : Runs w A n c l) (hb : Below w.heap.size w w') : Runs w' A n c l := by
  obtain ⟨h1, h2, h3⟩ := h
  refine ⟨h1, h2, fun hn => ?_⟩
  obtain ⟨b, o, e, hlt, hc⟩ := h3 hn
  exact ⟨b, o, e, Nat.lt_of_lt_of_le hlt hb.size, fun j hj => ⟨(hb.cell (p := ⟨b, o + j * 2, none⟩) hlt).trans (hc j hj).1, (hb.cell (p := ⟨b, o + j * 2 + 1, none⟩) hlt).trans (hc j hj).2⟩⟩
theorem Runs.nil_ {w : World} {A : Option Addr} {c : Nat} : Runs w A 0 c [] := ⟨rfl, Nat.zero_le _, fun h => absurd h (by omega)⟩

end Go.Proofs.Ytegpjjkbbdfggaa.sp
