/-
  The reference for runs (tympanref30): the contracts of Cut, Places, Of, May. (PRUNE)
-/
import Derived.Test.YtfmkdccpgkbnoaaSpan3
namespace Go.Proofs.Ytfmkdccpgkbnoaa.sp
set_option linter.unusedVariables false
set_option linter.unusedSimpArgs false
open Go.RowKit bs

set_option maxRecDepth 100000 in
theorem rcut_any (v : Int) (w : World) : Calls Try.prog 54 #[.int .i64 v] w fun e w' => e = .returned (.int .i64 (max 0 (min v 64))) ∧ w = w' := by
  obtain ⟨p, hp, p0⟩ : ∃ p, (if v < 0 then 0 else v) = p ∧ p = max v 0 := ⟨_, rfl, by split <;> omega⟩
  obtain ⟨p', hp', p0'⟩ : ∃ p, (if 0 < v then v else 0) = p ∧ p = max v 0 := ⟨_, rfl, by split <;> omega⟩
  go_enter Try.func54, Try.ntmps54
  go_wp2_with fail
  all_goals go_ret
  all_goals exact ⟨ret_int (by omega), rfl⟩

/-- in the middle of a run: the places from a on, below i, are laid -/
def PlIn (W : World) (r p : Nat) (S : Nat → Bool) (hi : Int) (a : Nat) (iv : Value) (wr : World) : Prop :=
  ∃ i : Nat, a ≤ i ∧ ((i : Int) ≤ hi ∨ i = a) ∧ iv = .int .i64 i ∧ OfRel 79 W r p (fun j => S j || (decide (a ≤ j) && decide (j < i))) wr
theorem PlIn.step {W wr : World} {r p a i : Nat} {S : Nat → Bool} {hi : Int} (ha : a ≤ i) (hi64 : hi ≤ 64) (hlt : (i : Int) < hi)
    (h : OfRel 79 W r p (fun j => S j || (decide (a ≤ j) && decide (j < i))) wr) :
    PlIn W r p S hi a (.int .i64 ((i : Int) + 1)) (wr.setCell ⟨p, i, none⟩ (.bool true)) := by
  refine ⟨i + 1, by omega, by omega, by go_num, (h.set (by omega)).ext fun j hj => ?_⟩
  by_cases e : j = i
  · subst e; simp [ha]
  · rw [if_neg e]
    congr 2
    by_cases h2 : j < i
    · simp [h2]; omega
    · simp [h2]; omega

def ofB (k : Int) (x y : Bool) : Bool := if k = 1 then x || y else if k = 2 then x && y else if k = 3 then x && !y else x != y
end Go.Proofs.Ytfmkdccpgkbnoaa.sp
