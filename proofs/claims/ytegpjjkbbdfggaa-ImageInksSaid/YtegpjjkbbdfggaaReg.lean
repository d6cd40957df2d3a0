/-
  Regions: rows of runs in order; the slice that holds them.
-/
import Derived.Test.YtegpjjkbbdfggaaSpan3
namespace Go.Proofs.Ytegpjjkbbdfggaa.rg
set_option linter.unusedVariables false
set_option linter.unusedSimpArgs false
open Go.RowKit bs sp

theorem may_each {w last : Int} {l : List (Int × Int)} (h : mayFrom w last l = true) : ∀ (s : Nat) (hs : s < l.length), last < l[s].1 ∧ l[s].1 < l[s].2 ∧ l[s].2 ≤ w := by
  induction l generalizing last with
  | nil => intro s hs; simp at hs
  | cons x l ih =>
    obtain ⟨a, b⟩ := x
    simp only [mayFrom, Bool.and_eq_true, decide_eq_true_eq] at h
    obtain ⟨⟨h1, h2, h3⟩, h4⟩ := h
    intro s hs
    cases s with
    | zero => exact ⟨h1, h2, h3⟩
    | succ s =>
      have := ih h4 s (by simpa using hs)
      simp only [List.getElem_cons_succ]
      omega
theorem may_pair {w last : Int} {l : List (Int × Int)} (h : mayFrom w last l = true) : ∀ (s t : Nat) (hs : s < t) (ht : t < l.length), (l[s]'(by omega)).2 < l[t].1 := by
  induction l generalizing last with
  | nil => intro s t hs ht; simp at ht
  | cons x l ih =>
    obtain ⟨a, b⟩ := x
    simp only [mayFrom, Bool.and_eq_true, decide_eq_true_eq] at h
    obtain ⟨_, h4⟩ := h
    intro s t hs ht
    cases t with
    | zero => omega
    | succ t =>
      cases s with
      | zero => exact (may_each h4 t (by simpa using ht)).1
      | succ s => exact ih h4 s t (by omega) (by simpa using ht)
/-- up to where the first t runs reach -/
def reach (l : List (Int × Int)) (t : Nat) : Int := lastTo 0 (l.take t)
theorem reach_zero (l : List (Int × Int)) : reach l 0 = 0 := rfl
theorem reach_succ {l : List (Int × Int)} {t : Nat} (ht : t < l.length) : reach l (t + 1) = l[t].2 := by
  unfold reach
  rw [List.take_succ_eq_append_getElem ht, lastTo_append]
theorem reach_le {w : Int} {l : List (Int × Int)} (h : mayFrom w (-1) l = true) {t : Nat} (ht : t < l.length) : 0 ≤ reach l t ∧ reach l t ≤ l[t].1 ∧ l[t].1 < l[t].2 ∧ l[t].2 ≤ w := by
  obtain ⟨h1, h2, h3⟩ := may_each h t ht
  cases t with
  | zero => rw [reach_zero]; omega
  | succ t =>
    rw [reach_succ (by omega)]
    have h4 := may_pair h t (t + 1) (by omega) ht
    have h5 := may_each h t (by omega)
    omega
theorem reach_end {w : Int} {l : List (Int × Int)} (h : mayFrom w (-1) l = true) (hw : 0 ≤ w) : 0 ≤ reach l l.length ∧ reach l l.length ≤ w := by
  cases hl : l.length with
  | zero => rw [reach_zero]; omega
  | succ t =>
    rw [reach_succ (by omega)]
    have := may_each h t (by omega)
    omega
theorem in_run {l : List (Int × Int)} {t : Nat} (ht : t < l.length) {i : Nat} (h1 : l[t].1 ≤ (i : Int)) (h2 : (i : Int) < l[t].2) : inRuns l i = true := by
  unfold inRuns
  rw [List.any_eq_true]
  exact ⟨l[t], List.getElem_mem ht, by simp [h1, h2]⟩
theorem in_gap {w : Int} {l : List (Int × Int)} (h : mayFrom w (-1) l = true) {t : Nat} {i : Nat} (h1 : reach l t ≤ (i : Int)) (ht : t ≤ l.length) (h2 : ∀ ht : t < l.length, (i : Int) < l[t].1) : inRuns l i = false := by
  cases hr : inRuns l i with
  | false => rfl
  | true =>
    unfold inRuns at hr
    rw [List.any_eq_true] at hr
    obtain ⟨x, hx, hin⟩ := hr
    obtain ⟨s, hs, rfl⟩ := List.getElem_of_mem hx
    simp only [Bool.and_eq_true, decide_eq_true_eq] at hin
    exfalso
    rcases Nat.lt_or_ge s t with hst | hst
    · obtain ⟨t', rfl⟩ : ∃ t', t = t' + 1 := ⟨t - 1, by omega⟩
      rw [reach_succ (by omega)] at h1
      rcases Nat.lt_or_ge s t' with h3 | h3
      · have := may_pair h s t' h3 (by omega)
        have := may_each h t' (by omega)
        omega
      · obtain rfl : s = t' := by omega
        omega
    · have h3 := h2 (by omega)
      rcases Nat.lt_or_ge t s with h4 | h4
      · have := may_pair h t s h4 hs
        have := may_each h t (by omega)
        omega
      · obtain rfl : t = s := by omega
        omega

/-- the slice at A, of length n and capacity c, holds the rows L -/
def Rows (w : World) (A : Option Addr) (n c : Nat) (L : Nat → List (Int × Int)) : Prop :=
  n ≤ c ∧ (0 < n → ∃ b o, A = some ⟨b, o, none⟩ ∧ b < w.heap.size ∧ ∀ j, j < n → (L j).length ≤ 9223372036854775807 ∧ ∃ Aj cj, w.cell? ⟨b, o + j, none⟩ = some (.slice Aj (L j).length cj) ∧ Runs w Aj (L j).length cj (L j))
theorem Rows.below {w w' : World} {A : Option Addr} {n c : Nat} {L : Nat → List (Int × Int)} (h : Rows w A n c L) (hb : Below w.heap.size w w') : Rows w' A n c L := by
  obtain ⟨h1, h2⟩ := h
  refine ⟨h1, fun hn => ?_⟩
  obtain ⟨b, o, e, hlt, hc⟩ := h2 hn
  refine ⟨b, o, e, Nat.lt_of_lt_of_le hlt hb.size, fun j hj => ?_⟩
  obtain ⟨hl, Aj, cj, h3, h4⟩ := hc j hj
  exact ⟨hl, Aj, cj, (hb.cell (p := ⟨b, o + j, none⟩) hlt).trans h3, h4.below hb⟩
theorem Rows.belowB {W w w' : World} {B : Nat} {A : Option Addr} {n c : Nat} {L : Nat → List (Int × Int)} (h : Rows w A n c L) (hb : Below w.heap.size w w') : Rows w' A n c L := h.below hb
theorem Rows.ext {w : World} {A : Option Addr} {n c : Nat} {L M : Nat → List (Int × Int)} (h : Rows w A n c L) (e : ∀ j, j < n → L j = M j) : Rows w A n c M := by
  obtain ⟨h1, h2⟩ := h
  refine ⟨h1, fun hn => ?_⟩
  obtain ⟨b, o, ea, hlt, hc⟩ := h2 hn
  exact ⟨b, o, ea, hlt, fun j hj => by rw [← e j hj]; exact hc j hj⟩
/-- one row -/
theorem Rows.at_ {w : World} {A : Option Addr} {n c : Nat} {L : Nat → List (Int × Int)} (h : Rows w A n c L) (hn : 0 < n) : ∃ b o, A = some ⟨b, o, none⟩ ∧ b < w.heap.size ∧ ∀ j, j < n → (L j).length ≤ 9223372036854775807 ∧ ∃ Aj cj, w.cell? ⟨b, o + j, none⟩ = some (.slice Aj (L j).length cj) ∧ Runs w Aj (L j).length cj (L j) := h.2 hn
/-- rows in order, of a set of pixels -/
def rowsOf (W : Nat) (R : Nat → Nat → Bool) (j : Nat) : List (Int × Int) := rl (R j) W
theorem rowsOf_len (W : Nat) (R : Nat → Nat → Bool) (j : Nat) (hW : W ≤ 64) : (rowsOf W R j).length ≤ 64 := by have := (rl_len (R j) W).1; unfold rowsOf; omega
theorem rowsOf_may (W : Nat) (R : Nat → Nat → Bool) (j : Nat) : mayFrom (W : Int) (-1) (rowsOf W R j) = true := may_rl (R j) W W (Int.le_refl _)
theorem rowsOf_in (W : Nat) (R : Nat → Nat → Bool) (j i : Nat) : inRuns (rowsOf W R j) i = (R j i && decide (i < W)) := inRuns_rl (R j) W i
theorem rowsOf_mayB (W : Nat) (R : Nat → Nat → Bool) (j : Nat) (hW : W ≤ 64) : mayB (rowsOf W R j) W = true := by
  unfold mayB
  rw [rowsOf_may]
  simp; omega
theorem rowsOf_ext {W : Nat} {R S : Nat → Nat → Bool} {j : Nat} (h : ∀ i, i < W → R j i = S j i) : rowsOf W R j = rowsOf W S j := rl_ext W h
end Go.Proofs.Ytegpjjkbbdfggaa.rg
