/-
  leaf's (*reader).row, whole.
-/
import Derived.Test.YtfmkdccpgkbnoaaLeafRowed
namespace Go.Proofs.Ytfmkdccpgkbnoaa.lf
set_option linter.unusedVariables false
set_option linter.unusedSimpArgs false
open Go.RowKit bs

theorem failS_len (e : Int) (s : S) : (failS e s).1.length = s.1.length := by unfold failS; split <;> rfl
theorem runsL_len (W : Nat) : ∀ (n : Nat) (row last : List UInt8) (s : S), row.length ≤ 3 * W → (runsL W n row last s).1.length ≤ 3 * W
  | 0, row, last, s, h => h
  | n + 1, row, last, s, h => by
    unfold runsL
    split
    · refine runsL_len W n _ _ _ ?_
      split
      · next he =>
        have := (wt_ok he).1
        unfold runOk at this
        simp only [Bool.and_eq_true, decide_eq_true_eq] at this
        rw [List.length_append, rep_len]
        have h2 := tkV_len 4 s
        simp only [List.length_drop, h2]
        omega
      · exact h
    · exact h
theorem rowL_len (W : Nat) (s : S) : (rowL W s).1.length ≤ 3 * W := by
  unfold rowL
  simp only []
  split
  · split
    · simp [plainL, tkV_len]
    · exact runsL_len W _ [] [] _ (Nat.zero_le _)
  · exact Nat.zero_le _
theorem row_any {N : Nat} (g W : Nat) (s : S) (w : World) (h : St N w g s) (hNw : N ≤ w.heap.size) (hW : 1 ≤ W ∧ W ≤ 64) :
    Calls Try.prog 36 #[.pointer (some ⟨g, 0, none⟩), .int .i64 (W : Int)] w fun en w' => ∃ v, en = .returned v ∧ RdB w' v (rowL W s).1 ∧ St N w' g (rowL W s).2 ∧ w.grownBy w' (some g) := by
  obtain ⟨x, hx⟩ : ∃ x, hd 1 s = x := ⟨_, rfl⟩
  obtain ⟨s1, hs1⟩ : ∃ s1, wt (decide (x ≤ 1)) (tkS 1 s) = s1 := ⟨_, rfl⟩
  have hR : rowL W s = if s1.2 = 0 then (if x = 0 then plainL W s1 else rowedL W s1) else ([], s1) := by unfold rowL; simp only [hx, hs1]
  rw [hR]
  by_cases he : s1.2 = 0
  · rw [if_pos he]
    have hx1 : x ≤ 1 := by
      have := (wt_ok (hs1 ▸ he)).1
      simpa using this
    by_cases hx0 : x = 0
    · rw [if_pos hx0]
      refine (row_plain g W x s w h hW hx s1 hs1 he hx0).mono ?_
      rintro e w' ⟨A, c, rfl, hb, hs, hg⟩
      have hl : (plainL W s1).1.length = 3 * W := by simp [plainL, tkV_len]
      exact ⟨_, rfl, ⟨A, c, by rw [hl], by rw [hl]; exact hb⟩, hs, hg⟩
    · rw [if_neg hx0]
      obtain rfl : x = 1 := by omega
      exact row_rowed g W s w h hNw hW hx s1 hs1 he
  · rw [if_neg he]
    refine (row_err g W x s w h hW hx s1 hs1 he).mono ?_
    rintro e w' ⟨rfl, hs, hg⟩
    exact ⟨_, rfl, ⟨none, 0, rfl, Bytes.nil_⟩, hs, hg⟩
end Go.Proofs.Ytfmkdccpgkbnoaa.lf
