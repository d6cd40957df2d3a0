/-
  Layer 4: sine of up to a quarter. 
-/
import Derived.Test.YtaephahcohdbpaaExact
import Derived.Test.YtaephahcohdbpaaUp
namespace Go.Proofs.Ytaephahcohdbpaa.mt
set_option linter.unusedVariables false
set_option linter.unusedSimpArgs false
open Go.RowKit bs

theorem brought_any (v : Int) (w : World) : Calls Try.prog 69 #[.int .i64 v] w fun e w' => e = .returned (.int .i64 (v % 23592960)) ∧ w = w' := by
  obtain ⟨q, hq, q0, q1, q2, q3⟩ := tmod_cases v 23592960 (by omega)
  have Q2 := Lib.hid q2
  have Q3 := Lib.hid q3
  clear q2 q3
  by_cases h : q < 0
  · have c1 : decide (q < 0) = true := by simp; omega
    go_enter Try.func69, Try.ntmps69
    go_wp2_with fail
    go_ret
    exact ⟨ret_int (Q2.out h), rfl⟩
  · have c1 : decide (q < 0) = false := by simp; omega
    go_enter Try.func69, Try.ntmps69
    go_wp2_with fail
    go_ret
    exact ⟨ret_int (Q3.out (by omega)), rfl⟩

theorem fmay_any (v : Int) (w : World) : Calls Try.prog 84 #[.int .i64 v] w fun e w' => e = .returned (.bool (fixB v)) ∧ w = w' := by
  by_cases h1 : v < -1073741823
  · rw [fixB_false (.inl h1)]
    have c1 : decide (-1073741823 ≤ v) = false := by simp; omega
    go_enter Try.func84, Try.ntmps84
    go_wp2_with fail
    go_ret
    exact ⟨rfl, rfl⟩
  · have c1 : decide (-1073741823 ≤ v) = true := by simp; omega
    by_cases h2 : 1073741823 < v
    · rw [fixB_false (.inr h2)]
      have c2 : decide (v ≤ 1073741823) = false := by simp; omega
      go_enter Try.func84, Try.ntmps84
      go_wp2_with fail
      go_ret
      exact ⟨rfl, rfl⟩
    · rw [fixB_true (by omega)]
      have c2 : decide (v ≤ 1073741823) = true := by simp; omega
      go_enter Try.func84, Try.ntmps84
      go_wp2_with fail
      go_ret
      exact ⟨rfl, rfl⟩

set_option maxHeartbeats 1600000 in
/-- Mul of two small numbers: the product by 65536, rounded -/
theorem fmul_small' (a b : Int) (ha : -2000 ≤ a ∧ a ≤ 2000) (hb : 0 ≤ b ∧ b ≤ 65535) : ∃ q : Int, (-2001 ≤ q ∧ q ≤ 2001) ∧ ∀ w, Calls Try.prog 76 #[.int .i64 a, .int .i64 b] w fun e w' => e = .returned (.tuple #[.int .i64 q, .bool true]) ∧ Below w.heap.size w w' := by
  obtain ⟨N, hN⟩ := size_mul a b (by omega) (by omega)
  have hNb : N ≤ 131070000 := by
    have h1 : size a ≤ 2000 ∧ 0 ≤ size a := by unfold size; split <;> omega
    have h2 : size b ≤ 65535 ∧ 0 ≤ size b := by unfold size; split <;> omega
    have := Int.mul_le_mul h1.1 h2.1 h2.2 (by omega)
    omega
  have hD : size 65536 = ((65536 : Nat) : Int) := by decide
  have hr : rdiv N 65536 ≤ 2001 := by unfold rdiv; split <;> omega
  have hm : ∃ q, mulDiv a b 65536 = some q ∧ -2001 ≤ q ∧ q ≤ 2001 := by
    unfold mulDiv
    rw [if_neg (by decide), hN, hD]
    simp only [Int.toNat_natCast]
    unfold sgn
    split
    · rw [if_pos (by omega)]; exact ⟨_, rfl, by omega, by omega⟩
    · rw [if_pos (by omega)]; exact ⟨_, rfl, by omega, by omega⟩
  obtain ⟨q, hq, q0, q1⟩ := hm
  refine ⟨q, ⟨q0, q1⟩, fun w => ?_⟩
  have HM := Lib.hid (fun W => show Calls Try.prog 62 #[.int .i64 a, .int .i64 b, .int .i64 65536] W fun e w' => e = .returned (.tuple #[.int .i64 q, .bool true]) ∧ Below W.heap.size W w' by have := mulDiv_any a b 65536 W (by omega) (by omega) (by omega); rw [hq] at this; exact this)
  have HA := Lib.hid (fun W => show Calls Try.prog 84 #[.int .i64 a] W fun e w' => e = .returned (.bool true) ∧ W = w' by have := fmay_any a W; rw [fixB_true (by omega)] at this; exact this)
  have HB := Lib.hid (fun W => show Calls Try.prog 84 #[.int .i64 b] W fun e w' => e = .returned (.bool true) ∧ W = w' by have := fmay_any b W; rw [fixB_true (by omega)] at this; exact this)
  have HQ := Lib.hid (fun W => show Calls Try.prog 84 #[.int .i64 q] W fun e w' => e = .returned (.bool true) ∧ W = w' by have := fmay_any q W; rw [fixB_true (by omega)] at this; exact this)
  have HC := Lib.hid (fun W => show Calls Try.prog 83 #[.int .i64 a, .int .i64 b] W fun e w' => e = .returned (.tuple #[.int .i64 q, .bool true]) ∧ Below W.heap.size W w' by
    go_enter Try.func83, Try.ntmps83
    go_wp2_with fail
    refine (HM.out _).mono ?_
    rintro e_ w1 ⟨rfl, hb1⟩
    go_wp2_with fail
    go_ret2
    exact ⟨rfl, hb1⟩)
  have HT := Lib.hid (fun W => show Calls Try.prog 82 #[.int .i64 a, .int .i64 b, .func (.func 83) #[] #[]] W fun e w' => e = .returned (.tuple #[.int .i64 q, .bool true]) ∧ Below W.heap.size W w' by
    go_enter Try.func82, Try.ntmps82
    go_wp2_with fail
    refine (HA.out _).mono ?_
    rintro e_ w_ ⟨rfl, rfl⟩
    go_wp2_with fail
    refine (HB.out _).mono ?_
    rintro e_ w_ ⟨rfl, rfl⟩
    go_wp2_with fail
    refine (HC.out _).mono ?_
    rintro e_ w1 ⟨rfl, hb1⟩
    go_wp2_with fail
    refine (HQ.out _).mono ?_
    rintro e_ w_ ⟨rfl, rfl⟩
    go_wp2_with fail
    go_ret2
    exact ⟨rfl, hb1⟩)
  go_enter Try.func76, Try.ntmps76
  go_wp2_with fail
  refine (HT.out _).mono ?_
  rintro e_ w1 ⟨rfl, hb1⟩
  go_wp2_with fail
  go_ret2
  exact ⟨rfl, hb1⟩
end Go.Proofs.Ytaephahcohdbpaa.mt
