/-
  The reference's May of a page (tympanref36), IsSide (tympanref24).
-/
import Derived.Test.YtfmkdccpgkbnoaaInk
namespace Go.Proofs.Ytfmkdccpgkbnoaa.ik
set_option linter.unusedVariables false
set_option linter.unusedSimpArgs false
open Go.RowKit bs

theorem isside_any (n : Int) (w : World) :
    Calls Try.prog 40 #[.int .i64 n] w fun e w' => e = .returned (.bool (sideB n)) ∧ w = w' := by
  by_cases h1 : 1 ≤ n
  · go_enter Try.func40, Try.ntmps40
    go_wp2_with fail
    go_ret
    exact ⟨ret_bool (by unfold sideB; simp; omega), rfl⟩
  · go_enter Try.func40, Try.ntmps40
    go_wp2_with fail
    go_ret
    exact ⟨ret_bool (by unfold sideB; simp; omega), rfl⟩
theorem rmay_any (W H : Int) (A : Option Addr) (n c : Nat) (w : World) (hn : n ≤ 9223372036854775807) :
    Calls Try.prog 31 #[.agg #[.int .i64 W, .int .i64 H, .slice A n c]] w fun e w' => e = .returned (.bool (mayB W H n)) ∧ Below w.heap.size w w' := by
  by_cases hW : 1 ≤ W ∧ W ≤ 64
  · have s1 := sideB_true hW.1 hW.2
    obtain ⟨w0, w1⟩ := hW
    by_cases hH : 1 ≤ H ∧ H ≤ 64
    · have s2 := sideB_true hH.1 hH.2
      obtain ⟨h0, h1⟩ := hH
      have hm : ∃ m, 3 * W * H = m ∧ 3 ≤ m ∧ m ≤ 12288 := by
        have a1 := Int.mul_le_mul (show 3 * W ≤ 192 by omega) h1 (by omega) (by omega)
        have a2 := Int.mul_le_mul (show 3 ≤ 3 * W by omega) h0 (by omega) (by omega)
        exact ⟨_, rfl, by omega, by omega⟩
      obtain ⟨m, hm, m0, m1⟩ := hm
      have he : mayB W H n = ((n : Int) == m) := by unfold mayB; rw [s1, s2, hm]; rfl
      rw [he]
      clear he
      go_enter Try.func31, Try.ntmps31
      go_wp2_with (go_at_call 40; refine (isside_any _ _).mono ?_; rintro e w' ⟨rfl, rfl⟩)
      go_ret
      exact ⟨rfl, by (repeat' (first | exact Below.refl _ _ | exact Below.refl _ _ | refine balloc ?_ _ | refine Below.drew ?_ | refine below_drewN ?_ _ | refine bset ?_ (by first | omega | (simp <;> omega)) _))⟩
    · have s2 : sideB H = false := sideB_false (by omega)
      have he : mayB W H n = false := by unfold mayB; rw [s1, s2]; rfl
      rw [he]
      clear he
      go_enter Try.func31, Try.ntmps31
      go_wp2_with (go_at_call 40; refine (isside_any _ _).mono ?_; rintro e w' ⟨rfl, rfl⟩)
      go_ret
      exact ⟨rfl, by (repeat' (first | exact Below.refl _ _ | exact Below.refl _ _ | refine balloc ?_ _ | refine Below.drew ?_ | refine below_drewN ?_ _ | refine bset ?_ (by first | omega | (simp <;> omega)) _))⟩
  · have s1 : sideB W = false := sideB_false (by omega)
    have he : mayB W H n = false := by unfold mayB; rw [s1]; rfl
    rw [he]
    clear he
    go_enter Try.func31, Try.ntmps31
    go_wp2_with (go_at_call 40; refine (isside_any _ _).mono ?_; rintro e w' ⟨rfl, rfl⟩)
    go_ret
    exact ⟨rfl, by (repeat' (first | exact Below.refl _ _ | exact Below.refl _ _ | refine balloc ?_ _ | refine Below.drew ?_ | refine below_drewN ?_ _ | refine bset ?_ (by first | omega | (simp <;> omega)) _))⟩

end Go.Proofs.Ytfmkdccpgkbnoaa.ik
