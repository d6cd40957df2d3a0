/-
  Of layer 24: near, det (for the seat of the images; the text of mat/XFix).
-/
import Derived.Test.YtegpjjkbbdfggaaFixI
import Derived.Test.YtegpjjkbbdfggaaMulDiv
namespace Go.Proofs.Ytegpjjkbbdfggaa.mt
set_option linter.unusedVariables false
set_option linter.unusedSimpArgs false
open Go.RowKit bs
/-- are two numbers near 0 -/
def nearB (x y m : Int) : Bool := decide (-m ≤ x) && decide (x ≤ m) && decide (-m ≤ y) && decide (y ≤ m)
/-- a number, if all is well; else 0 -/
def okI (b : Bool) (x : Int) : Int := if b = true then x else 0
/-- what is said of it -/
def okE (b : Bool) : Int := if b = true then 0 else 2

theorem near_any (x y m : Int) (w : World) (m0 : 0 ≤ m) (m1 : m ≤ 4294967296) : Calls Try.prog 67 #[.int .i64 x, .int .i64 y, .int .i64 m] w fun e w' => e = .returned (.tuple #[.int .i64 (okI (nearB x y m) x), .int .i64 (okI (nearB x y m) y), .int .i64 (okE (nearB x y m))]) ∧ w = w' := by
  by_cases h0 : x < -m
  · have hb : nearB x y m = false := by unfold nearB; simp; omega
    rw [hb]
    have c0 : decide (x < -m) = true := by simp; omega
    go_enter Try.func67, Try.ntmps67
    go_wp2_with fail
    go_ret3
    exact ⟨rfl, rfl⟩
  · have c0 : decide (x < -m) = false := by simp; omega
    by_cases h1 : m < x
    · have hb : nearB x y m = false := by unfold nearB; simp; omega
      rw [hb]
      have c1 : decide (m < x) = true := by simp; omega
      go_enter Try.func67, Try.ntmps67
      go_wp2_with fail
      go_ret3
      exact ⟨rfl, rfl⟩
    · have c1 : decide (m < x) = false := by simp; omega
      by_cases h2 : y < -m
      · have hb : nearB x y m = false := by unfold nearB; simp; omega
        rw [hb]
        have c2 : decide (y < -m) = true := by simp; omega
        go_enter Try.func67, Try.ntmps67
        go_wp2_with fail
        go_ret3
        exact ⟨rfl, rfl⟩
      · have c2 : decide (y < -m) = false := by simp; omega
        by_cases h3 : m < y
        · have hb : nearB x y m = false := by unfold nearB; simp; omega
          rw [hb]
          have c3 : decide (m < y) = true := by simp; omega
          go_enter Try.func67, Try.ntmps67
          go_wp2_with fail
          go_ret3
          exact ⟨rfl, rfl⟩
        · have c3 : decide (m < y) = false := by simp; omega
          have hb : nearB x y m = true := by unfold nearB; simp; omega
          rw [hb]
          go_enter Try.func67, Try.ntmps67
          go_wp2_with fail
          go_ret3
          exact ⟨rfl, rfl⟩

theorem det_any (A B C D E F : Int) (w : World) (h : mayB A B C D E F = true) : Calls Try.prog 68 #[.agg #[.int .i64 A, .int .i64 B, .int .i64 C, .int .i64 D, .int .i64 E, .int .i64 F]] w fun e w' => e = .returned (.int .i64 (A * D - B * C)) ∧ Below w.heap.size w w' := by
  obtain ⟨a, b, c, d, _, _⟩ := mayB_bd h
  have b1 := fix_mul a d
  have b2 := fix_mul b c
  generalize h1 : A * D = x at *
  generalize h2 : B * C = y at *
  obtain ⟨b10, b11⟩ := b1
  obtain ⟨b20, b21⟩ := b2
  clear a b c d h
  go_enter Try.func68, Try.ntmps68
  go_wp2_with fail
  go_ret
  exact ⟨rfl, by (repeat' (first | exact Below.refl _ _ | exact Below.refl _ _ | refine balloc ?_ _ | refine Below.drew ?_ | refine below_drewN ?_ _ | refine bset ?_ (by first | omega | (simp <;> omega)) _))⟩

end Go.Proofs.Ytegpjjkbbdfggaa.mt
