/-
  Layer 30: the runs of a set of places, in order: rl; their laws (plain). (PRUNE)
-/
import Derived.Test.YtegpjjkbbdfggaaSpanPlain
namespace Go.Proofs.Ytegpjjkbbdfggaa.sp
set_option linter.unusedVariables false
set_option linter.unusedSimpArgs false
open Go.RowKit bs

/-- runs that are ended, and where the one begins that is not -/
def close (d : List (Int × Int)) (k : Nat) : Option Nat → List (Int × Int)
  | none => d
  | some f => d ++ [((f : Int), (k : Int))]
def st (S : Nat → Bool) : Nat → List (Int × Int) × Option Nat
  | 0 => ([], none)
  | k + 1 => if S k then ((st S k).1, some ((st S k).2.getD k)) else (close (st S k).1 k (st S k).2, none)
def rl (S : Nat → Bool) (k : Nat) : List (Int × Int) := close (st S k).1 k (st S k).2

theorem rl_zero (S : Nat → Bool) : rl S 0 = [] := rfl
theorem st_ext {S T : Nat → Bool} (k : Nat) (h : ∀ i, i < k → S i = T i) : st S k = st T k := by
  induction k with
  | zero => rfl
  | succ k ih =>
    have e := ih fun i hi => h i (by omega)
    simp only [st, e, h k (by omega)]
theorem rl_ext {S T : Nat → Bool} (k : Nat) (h : ∀ i, i < k → S i = T i) : rl S k = rl T k := by unfold rl; rw [st_ext k h]
theorem st_yes {S : Nat → Bool} {k : Nat} (h : S k = true) : st S (k + 1) = ((st S k).1, some ((st S k).2.getD k)) := by simp [st, h]
theorem st_no {S : Nat → Bool} {k : Nat} (h : S k = false) : st S (k + 1) = (rl S k, none) := by simp [st, h, rl]
theorem rl_no {S : Nat → Bool} {k : Nat} (h : S k = false) : rl S (k + 1) = rl S k := by unfold rl; rw [st_no h]; rfl
theorem rl_open {S : Nat → Bool} {k : Nat} (h : (st S k).2 = none) : rl S k = (st S k).1 := by unfold rl; rw [h]; rfl
theorem st_grow {S : Nat → Bool} {f : Nat} (h : (st S f).2 = none) (m : Nat) (hm : ∀ j, f ≤ j → j < f + (m + 1) → S j = true) : st S (f + (m + 1)) = (rl S f, some f) := by
  induction m with
  | zero => 
    show st S (f + 1) = _
    simp only [st, hm f (Nat.le_refl _) (by omega), if_true, h, rl_open h]
    rfl
  | succ m ih =>
    have e := ih fun j h1 h2 => hm j h1 (by omega)
    have hs := hm (f + (m + 1)) (by omega) (by omega)
    rw [← Nat.add_assoc f (m + 1) 1, st_yes hs, e]
    rfl
theorem rl_grow {S : Nat → Bool} {f m : Nat} (h : (st S f).2 = none) (hfm : f < m) (hm : ∀ j, f ≤ j → j < m → S j = true) : rl S m = rl S f ++ [((f : Int), (m : Int))] := by
  obtain ⟨d, rfl⟩ : ∃ d, m = f + (d + 1) := ⟨m - f - 1, by omega⟩
  show close (st S (f + (d + 1))).1 _ (st S (f + (d + 1))).2 = _
  rw [st_grow h d hm]
  rfl
theorem rl_stay {S : Nat → Bool} {k : Nat} (h : ∀ j, k ≤ j → S j = false) (m : Nat) : rl S (k + m) = rl S k := by
  induction m with
  | zero => rfl
  | succ m ih => rw [← Nat.add_assoc, rl_no (h (k + m) (by omega)), ih]

theorem inRuns_append (l m : List (Int × Int)) (j : Nat) : inRuns (l ++ m) j = (inRuns l j || inRuns m j) := by simp [inRuns, List.any_append]
theorem inRuns_one (x y : Int) (j : Nat) : inRuns [(x, y)] j = (decide (x ≤ (j : Int)) && decide ((j : Int) < y)) := by simp [inRuns]

/-- where the open run begins, below k; what the ended ones hold -/
theorem st_inv (S : Nat → Bool) (k : Nat) : (∀ f, (st S k).2 = some f → f < k ∧ ∀ j, f ≤ j → j < k → S j = true) ∧ ∀ j, inRuns (rl S k) j = (S j && decide (j < k)) := by
  induction k with
  | zero => exact ⟨fun f h => (by simp [st] at h), fun j => (by simp [rl, st, close, inRuns])⟩
  | succ k ih =>
    obtain ⟨ih1, ih2⟩ := ih
    cases hS : S k with
    | false =>
      refine ⟨fun f h => (by rw [st_no hS] at h; cases h), fun j => ?_⟩
      rw [rl_no hS, ih2 j]
      by_cases hj : j = k
      · subst hj; simp [hS]
      · have : (j < k + 1) ↔ j < k := by omega
        simp [this]
    | true =>
      cases ho : (st S k).2 with
      | none =>
        have e := rl_grow (m := k + 1) ho (by omega) (fun j h1 h2 => by obtain rfl : j = k := by omega
                                                                        exact hS)
        refine ⟨fun f h => ?_, fun j => ?_⟩
        · simp only [st, hS, if_true, ho, Option.getD_none, Option.some.injEq] at h
          subst h
          exact ⟨by omega, fun j h1 h2 => by obtain rfl : j = k := by omega
                                             exact hS⟩
        · rw [e, inRuns_append, ih2 j, inRuns_one]
          by_cases hj : j = k
          · subst hj; simp [hS]; omega
          · by_cases h2 : j < k
            · simp [h2, show j < k + 1 by omega]
              intro h3; omega
            · simp [h2, show ¬ j < k + 1 by omega]; omega
      | some f =>
        obtain ⟨h1, h2⟩ := ih1 f ho
        have e : st S (k + 1) = ((st S k).1, some f) := by simp [st, hS, ho]
        refine ⟨fun g hg => ?_, fun j => ?_⟩
        · rw [e] at hg
          cases hg
          refine ⟨by omega, fun j a b => ?_⟩
          by_cases hj : j = k
          · subst hj; exact hS
          · exact h2 j a (by omega)
        · have i2 := ih2 j
          unfold rl at i2 ⊢
          rw [e]
          rw [ho] at i2
          simp only [close, inRuns_append, inRuns_one] at i2 ⊢
          by_cases hj : j = k
          · subst hj
            simp [hS]
            right; omega
          · by_cases hjk : j < k
            · have : decide ((j : Int) < ((k + 1 : Nat) : Int)) = decide ((j : Int) < (k : Int)) := by
                simp [show j < k + 1 by omega, hjk]; omega
              rw [this, i2]; simp [hjk, show j < k + 1 by omega]
            · have a1 : decide ((j : Int) < ((k + 1 : Nat) : Int)) = decide ((j : Int) < (k : Int)) := by simp; omega
              rw [a1, i2]; simp [hjk, show ¬ j < k + 1 by omega]
theorem inRuns_rl (S : Nat → Bool) (k j : Nat) : inRuns (rl S k) j = (S j && decide (j < k)) := (st_inv S k).2 j
theorem rl_again (S : Nat → Bool) (k : Nat) : rl (inRuns (rl S k)) k = rl S k := rl_ext k fun i hi => by rw [inRuns_rl]; simp [hi]

/-- in order, behind last, up to w -/
def mayFrom (w : Int) : Int → List (Int × Int) → Bool
  | _, [] => true
  | last, (x, y) :: r => decide (last < x ∧ x < y ∧ y ≤ w) && mayFrom w y r
def lastTo (last : Int) : List (Int × Int) → Int
  | [] => last
  | (_, y) :: r => lastTo y r
theorem mayFrom_append (w last : Int) (l : List (Int × Int)) (x y : Int) : mayFrom w last (l ++ [(x, y)]) = (mayFrom w last l && decide (lastTo last l < x ∧ x < y ∧ y ≤ w)) := by
  induction l generalizing last with
  | nil => simp only [List.nil_append, mayFrom, lastTo, Bool.and_true, Bool.true_and]; rfl
  | cons a r ih =>
    obtain ⟨a, b⟩ := a
    simp only [List.cons_append, mayFrom, lastTo, ih, Bool.and_assoc]; rfl
theorem lastTo_append (last : Int) (l : List (Int × Int)) (x y : Int) : lastTo last (l ++ [(x, y)]) = y := by
  induction l generalizing last with
  | nil => rfl
  | cons a r ih => exact ih _
/-- the ended runs are in order and end ahead of the open one's begin -/
theorem may_inv (S : Nat → Bool) (w : Int) (k : Nat) (hk : (k : Int) ≤ w) : mayFrom w (-1) (st S k).1 = true ∧ mayFrom w (-1) (rl S k) = true ∧ lastTo (-1) (rl S k) ≤ k ∧
    (∀ f, (st S k).2 = some f → lastTo (-1) (st S k).1 < (f : Int)) ∧ ((st S k).2 = none → 0 < k → S (k - 1) = false ∧ lastTo (-1) (rl S k) < k) ∧ (k = 0 → lastTo (-1) (rl S k) = -1) := by
  induction k with
  | zero => exact ⟨rfl, rfl, (by show (-1 : Int) ≤ 0; omega), fun f h => (by simp [st] at h), fun _ h => absurd h (by omega), fun _ => rfl⟩
  | succ k ih =>
    obtain ⟨i1, i2, i3, i4, i5, i6⟩ := ih (by omega)
    cases hS : S k with
    | false =>
      rw [rl_no hS, st_no hS]
      exact ⟨i2, i2, by omega, fun f h => by (cases h), fun _ _ => ⟨by simpa using hS, by omega⟩, fun h => absurd h (by omega)⟩
    | true =>
      cases ho : (st S k).2 with
      | none =>
        have e : st S (k + 1) = ((st S k).1, some k) := by simp [st, hS, ho]
        have hl : lastTo (-1) (st S k).1 < (k : Int) := by
          rw [← rl_open ho]
          by_cases h0 : k = 0
          · rw [i6 h0]; omega
          · exact (i5 ho (by omega)).2
        unfold rl
        rw [e]
        refine ⟨i1, ?_, ?_, fun f h => (by cases h; exact hl), fun h => (by cases h), fun h => absurd h (by omega)⟩
        · show mayFrom w (-1) ((st S k).1 ++ [((k : Int), ((k + 1 : Nat) : Int))]) = true
          rw [mayFrom_append, i1]
          simp only [Bool.true_and, decide_eq_true_eq]
          omega
        · show lastTo (-1) ((st S k).1 ++ [((k : Int), ((k + 1 : Nat) : Int))]) ≤ _
          rw [lastTo_append]; omega
      | some f =>
        have hf := ((st_inv S k).1 f ho).1
        have e : st S (k + 1) = ((st S k).1, some f) := by simp [st, hS, ho]
        have hl := i4 f ho
        unfold rl
        rw [e]
        refine ⟨i1, ?_, ?_, fun g h => (by cases h; exact hl), fun h => (by cases h), fun h => absurd h (by omega)⟩
        · show mayFrom w (-1) ((st S k).1 ++ [((f : Int), ((k + 1 : Nat) : Int))]) = true
          rw [mayFrom_append, i1]
          simp only [Bool.true_and, decide_eq_true_eq]
          omega
        · show lastTo (-1) ((st S k).1 ++ [((f : Int), ((k + 1 : Nat) : Int))]) ≤ _
          rw [lastTo_append]; omega
theorem may_rl (S : Nat → Bool) (w : Int) (k : Nat) (hk : (k : Int) ≤ w) : mayFrom w (-1) (rl S k) = true := (may_inv S w k hk).2.1
theorem rl_len (S : Nat → Bool) (k : Nat) : (rl S k).length ≤ k ∧ (st S k).1.length + (if (st S k).2 = none then 0 else 1) ≤ k := by
  induction k with
  | zero => exact ⟨by simp [rl, st, close], by simp [st]⟩
  | succ k ih =>
    obtain ⟨i1, i2⟩ := ih
    cases hS : S k with
    | false => rw [rl_no hS, st_no hS]; exact ⟨by omega, by simp; omega⟩
    | true =>
      have e : st S (k + 1) = ((st S k).1, some ((st S k).2.getD k)) := by simp [st, hS]
      unfold rl
      rw [e]
      simp only [close, List.length_append, List.length_cons, List.length_nil]
      split at i2 <;> exact ⟨by omega, by simp; omega⟩

end Go.Proofs.Ytegpjjkbbdfggaa.sp
