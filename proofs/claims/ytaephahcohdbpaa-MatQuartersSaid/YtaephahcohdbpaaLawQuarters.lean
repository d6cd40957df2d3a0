/-
  MatQuarters: quarter turns, one behind the other, are what their sum is.
-/
import Derived.Test.YtaephahcohdbpaaSpin
import Derived.Test.YtaephahcohdbpaaKnown
import Derived.Test.YtaephahcohdbpaaInvert
namespace Go.Proofs.Ytaephahcohdbpaa.mt
set_option linter.unusedVariables false
set_option linter.unusedSimpArgs false
open Go.RowKit bs

theorem eqB_selfQ (A B C D E F : Int) : eqB A B C D E F A B C D E F = true := by unfold eqB; simp

theorem qspin0 (x : Int) (hx : x % 23592960 = 0) : ∀ W, Calls Try.prog 48 #[.int .i64 x] W fun ed w' => ed = .returned (.agg #[.int .i64 65536, .int .i64 0, .int .i64 0, .int .i64 65536, .int .i64 0, .int .i64 0]) ∧ Below W.heap.size W w' := fun W => by
  obtain ⟨s, bs_, s1, s2, s3, s4, hs⟩ := sin_any 0 (by omega)
  obtain ⟨c, bc, c1, c2, c3, c4, hc⟩ := cos_any 0 (by omega)
  have es := s1 rfl
  have ec := c1 rfl
  subst es
  subst ec
  exact spin_of 0 65536 x W (by omega) (by omega) (hs x hx) (hc x hx)
theorem qinv0 : ∀ W, Calls Try.prog 40 #[.agg #[.int .i64 65536, .int .i64 0, .int .i64 0, .int .i64 65536, .int .i64 0, .int .i64 0]] W fun ed w' => ed = .returned (.tuple #[.agg #[.int .i64 65536, .int .i64 0, .int .i64 0, .int .i64 65536, .int .i64 0, .int .i64 0], .int .i64 0]) ∧ Below W.heap.size W w' := fun W =>
  Invert_yes 65536 0 0 65536 0 0 65536 0 0 65536 0 0 W (by decide) (by decide) (by decide) (by decide) (by decide) (by decide) (by decide) (by decide) (by decide) (by decide) (by decide) (by decide) (by decide) (by decide)
theorem qmul00 : ∀ W, Calls Try.prog 29 #[.agg #[.int .i64 65536, .int .i64 0, .int .i64 0, .int .i64 65536, .int .i64 0, .int .i64 0], .agg #[.int .i64 65536, .int .i64 0, .int .i64 0, .int .i64 65536, .int .i64 0, .int .i64 0]] W fun ed w' => ed = .returned (.tuple #[.agg #[.int .i64 65536, .int .i64 0, .int .i64 0, .int .i64 65536, .int .i64 0, .int .i64 0], .int .i64 0]) ∧ Below W.heap.size W w' := fun W => by
  exact mul_may 65536 0 0 65536 0 0 65536 0 0 65536 0 0 W (by decide) (by decide)
theorem qmul01 : ∀ W, Calls Try.prog 29 #[.agg #[.int .i64 65536, .int .i64 0, .int .i64 0, .int .i64 65536, .int .i64 0, .int .i64 0], .agg #[.int .i64 0, .int .i64 65536, .int .i64 (-65536), .int .i64 0, .int .i64 0, .int .i64 0]] W fun ed w' => ed = .returned (.tuple #[.agg #[.int .i64 0, .int .i64 65536, .int .i64 (-65536), .int .i64 0, .int .i64 0, .int .i64 0], .int .i64 0]) ∧ Below W.heap.size W w' := fun W => by
  exact mul_may 65536 0 0 65536 0 0 0 65536 (-65536) 0 0 0 W (by decide) (by decide)
theorem qmul02 : ∀ W, Calls Try.prog 29 #[.agg #[.int .i64 65536, .int .i64 0, .int .i64 0, .int .i64 65536, .int .i64 0, .int .i64 0], .agg #[.int .i64 (-65536), .int .i64 0, .int .i64 0, .int .i64 (-65536), .int .i64 0, .int .i64 0]] W fun ed w' => ed = .returned (.tuple #[.agg #[.int .i64 (-65536), .int .i64 0, .int .i64 0, .int .i64 (-65536), .int .i64 0, .int .i64 0], .int .i64 0]) ∧ Below W.heap.size W w' := fun W => by
  exact mul_may 65536 0 0 65536 0 0 (-65536) 0 0 (-65536) 0 0 W (by decide) (by decide)
theorem qmul03 : ∀ W, Calls Try.prog 29 #[.agg #[.int .i64 65536, .int .i64 0, .int .i64 0, .int .i64 65536, .int .i64 0, .int .i64 0], .agg #[.int .i64 0, .int .i64 (-65536), .int .i64 65536, .int .i64 0, .int .i64 0, .int .i64 0]] W fun ed w' => ed = .returned (.tuple #[.agg #[.int .i64 0, .int .i64 (-65536), .int .i64 65536, .int .i64 0, .int .i64 0, .int .i64 0], .int .i64 0]) ∧ Below W.heap.size W w' := fun W => by
  exact mul_may 65536 0 0 65536 0 0 0 (-65536) 65536 0 0 0 W (by decide) (by decide)
theorem qspin1 (x : Int) (hx : x % 23592960 = 5898240) : ∀ W, Calls Try.prog 48 #[.int .i64 x] W fun ed w' => ed = .returned (.agg #[.int .i64 0, .int .i64 65536, .int .i64 (-65536), .int .i64 0, .int .i64 0, .int .i64 0]) ∧ Below W.heap.size W w' := fun W => by
  obtain ⟨s, bs_, s1, s2, s3, s4, hs⟩ := sin_any 5898240 (by omega)
  obtain ⟨c, bc, c1, c2, c3, c4, hc⟩ := cos_any 5898240 (by omega)
  have es := s2 rfl
  have ec := c2 rfl
  subst es
  subst ec
  exact spin_of 65536 0 x W (by omega) (by omega) (hs x hx) (hc x hx)
theorem qinv1 : ∀ W, Calls Try.prog 40 #[.agg #[.int .i64 0, .int .i64 65536, .int .i64 (-65536), .int .i64 0, .int .i64 0, .int .i64 0]] W fun ed w' => ed = .returned (.tuple #[.agg #[.int .i64 0, .int .i64 (-65536), .int .i64 65536, .int .i64 0, .int .i64 0, .int .i64 0], .int .i64 0]) ∧ Below W.heap.size W w' := fun W =>
  Invert_yes 0 65536 (-65536) 0 0 0 0 (-65536) 65536 0 0 0 W (by decide) (by decide) (by decide) (by decide) (by decide) (by decide) (by decide) (by decide) (by decide) (by decide) (by decide) (by decide) (by decide) (by decide)
theorem qmul10 : ∀ W, Calls Try.prog 29 #[.agg #[.int .i64 0, .int .i64 65536, .int .i64 (-65536), .int .i64 0, .int .i64 0, .int .i64 0], .agg #[.int .i64 65536, .int .i64 0, .int .i64 0, .int .i64 65536, .int .i64 0, .int .i64 0]] W fun ed w' => ed = .returned (.tuple #[.agg #[.int .i64 0, .int .i64 65536, .int .i64 (-65536), .int .i64 0, .int .i64 0, .int .i64 0], .int .i64 0]) ∧ Below W.heap.size W w' := fun W => by
  exact mul_may 0 65536 (-65536) 0 0 0 65536 0 0 65536 0 0 W (by decide) (by decide)
theorem qmul11 : ∀ W, Calls Try.prog 29 #[.agg #[.int .i64 0, .int .i64 65536, .int .i64 (-65536), .int .i64 0, .int .i64 0, .int .i64 0], .agg #[.int .i64 0, .int .i64 65536, .int .i64 (-65536), .int .i64 0, .int .i64 0, .int .i64 0]] W fun ed w' => ed = .returned (.tuple #[.agg #[.int .i64 (-65536), .int .i64 0, .int .i64 0, .int .i64 (-65536), .int .i64 0, .int .i64 0], .int .i64 0]) ∧ Below W.heap.size W w' := fun W => by
  exact mul_may 0 65536 (-65536) 0 0 0 0 65536 (-65536) 0 0 0 W (by decide) (by decide)
theorem qmul12 : ∀ W, Calls Try.prog 29 #[.agg #[.int .i64 0, .int .i64 65536, .int .i64 (-65536), .int .i64 0, .int .i64 0, .int .i64 0], .agg #[.int .i64 (-65536), .int .i64 0, .int .i64 0, .int .i64 (-65536), .int .i64 0, .int .i64 0]] W fun ed w' => ed = .returned (.tuple #[.agg #[.int .i64 0, .int .i64 (-65536), .int .i64 65536, .int .i64 0, .int .i64 0, .int .i64 0], .int .i64 0]) ∧ Below W.heap.size W w' := fun W => by
  exact mul_may 0 65536 (-65536) 0 0 0 (-65536) 0 0 (-65536) 0 0 W (by decide) (by decide)
theorem qmul13 : ∀ W, Calls Try.prog 29 #[.agg #[.int .i64 0, .int .i64 65536, .int .i64 (-65536), .int .i64 0, .int .i64 0, .int .i64 0], .agg #[.int .i64 0, .int .i64 (-65536), .int .i64 65536, .int .i64 0, .int .i64 0, .int .i64 0]] W fun ed w' => ed = .returned (.tuple #[.agg #[.int .i64 65536, .int .i64 0, .int .i64 0, .int .i64 65536, .int .i64 0, .int .i64 0], .int .i64 0]) ∧ Below W.heap.size W w' := fun W => by
  exact mul_may 0 65536 (-65536) 0 0 0 0 (-65536) 65536 0 0 0 W (by decide) (by decide)
theorem qspin2 (x : Int) (hx : x % 23592960 = 11796480) : ∀ W, Calls Try.prog 48 #[.int .i64 x] W fun ed w' => ed = .returned (.agg #[.int .i64 (-65536), .int .i64 0, .int .i64 0, .int .i64 (-65536), .int .i64 0, .int .i64 0]) ∧ Below W.heap.size W w' := fun W => by
  obtain ⟨s, bs_, s1, s2, s3, s4, hs⟩ := sin_any 11796480 (by omega)
  obtain ⟨c, bc, c1, c2, c3, c4, hc⟩ := cos_any 11796480 (by omega)
  have es := s3 rfl
  have ec := c3 rfl
  subst es
  subst ec
  exact spin_of 0 (-65536) x W (by omega) (by omega) (hs x hx) (hc x hx)
theorem qinv2 : ∀ W, Calls Try.prog 40 #[.agg #[.int .i64 (-65536), .int .i64 0, .int .i64 0, .int .i64 (-65536), .int .i64 0, .int .i64 0]] W fun ed w' => ed = .returned (.tuple #[.agg #[.int .i64 (-65536), .int .i64 0, .int .i64 0, .int .i64 (-65536), .int .i64 0, .int .i64 0], .int .i64 0]) ∧ Below W.heap.size W w' := fun W =>
  Invert_yes (-65536) 0 0 (-65536) 0 0 (-65536) 0 0 (-65536) 0 0 W (by decide) (by decide) (by decide) (by decide) (by decide) (by decide) (by decide) (by decide) (by decide) (by decide) (by decide) (by decide) (by decide) (by decide)
theorem qmul20 : ∀ W, Calls Try.prog 29 #[.agg #[.int .i64 (-65536), .int .i64 0, .int .i64 0, .int .i64 (-65536), .int .i64 0, .int .i64 0], .agg #[.int .i64 65536, .int .i64 0, .int .i64 0, .int .i64 65536, .int .i64 0, .int .i64 0]] W fun ed w' => ed = .returned (.tuple #[.agg #[.int .i64 (-65536), .int .i64 0, .int .i64 0, .int .i64 (-65536), .int .i64 0, .int .i64 0], .int .i64 0]) ∧ Below W.heap.size W w' := fun W => by
  exact mul_may (-65536) 0 0 (-65536) 0 0 65536 0 0 65536 0 0 W (by decide) (by decide)
theorem qmul21 : ∀ W, Calls Try.prog 29 #[.agg #[.int .i64 (-65536), .int .i64 0, .int .i64 0, .int .i64 (-65536), .int .i64 0, .int .i64 0], .agg #[.int .i64 0, .int .i64 65536, .int .i64 (-65536), .int .i64 0, .int .i64 0, .int .i64 0]] W fun ed w' => ed = .returned (.tuple #[.agg #[.int .i64 0, .int .i64 (-65536), .int .i64 65536, .int .i64 0, .int .i64 0, .int .i64 0], .int .i64 0]) ∧ Below W.heap.size W w' := fun W => by
  exact mul_may (-65536) 0 0 (-65536) 0 0 0 65536 (-65536) 0 0 0 W (by decide) (by decide)
theorem qmul22 : ∀ W, Calls Try.prog 29 #[.agg #[.int .i64 (-65536), .int .i64 0, .int .i64 0, .int .i64 (-65536), .int .i64 0, .int .i64 0], .agg #[.int .i64 (-65536), .int .i64 0, .int .i64 0, .int .i64 (-65536), .int .i64 0, .int .i64 0]] W fun ed w' => ed = .returned (.tuple #[.agg #[.int .i64 65536, .int .i64 0, .int .i64 0, .int .i64 65536, .int .i64 0, .int .i64 0], .int .i64 0]) ∧ Below W.heap.size W w' := fun W => by
  exact mul_may (-65536) 0 0 (-65536) 0 0 (-65536) 0 0 (-65536) 0 0 W (by decide) (by decide)
theorem qmul23 : ∀ W, Calls Try.prog 29 #[.agg #[.int .i64 (-65536), .int .i64 0, .int .i64 0, .int .i64 (-65536), .int .i64 0, .int .i64 0], .agg #[.int .i64 0, .int .i64 (-65536), .int .i64 65536, .int .i64 0, .int .i64 0, .int .i64 0]] W fun ed w' => ed = .returned (.tuple #[.agg #[.int .i64 0, .int .i64 65536, .int .i64 (-65536), .int .i64 0, .int .i64 0, .int .i64 0], .int .i64 0]) ∧ Below W.heap.size W w' := fun W => by
  exact mul_may (-65536) 0 0 (-65536) 0 0 0 (-65536) 65536 0 0 0 W (by decide) (by decide)
theorem qspin3 (x : Int) (hx : x % 23592960 = 17694720) : ∀ W, Calls Try.prog 48 #[.int .i64 x] W fun ed w' => ed = .returned (.agg #[.int .i64 0, .int .i64 (-65536), .int .i64 65536, .int .i64 0, .int .i64 0, .int .i64 0]) ∧ Below W.heap.size W w' := fun W => by
  obtain ⟨s, bs_, s1, s2, s3, s4, hs⟩ := sin_any 17694720 (by omega)
  obtain ⟨c, bc, c1, c2, c3, c4, hc⟩ := cos_any 17694720 (by omega)
  have es := s4 rfl
  have ec := c4 rfl
  subst es
  subst ec
  exact spin_of (-65536) 0 x W (by omega) (by omega) (hs x hx) (hc x hx)
theorem qinv3 : ∀ W, Calls Try.prog 40 #[.agg #[.int .i64 0, .int .i64 (-65536), .int .i64 65536, .int .i64 0, .int .i64 0, .int .i64 0]] W fun ed w' => ed = .returned (.tuple #[.agg #[.int .i64 0, .int .i64 65536, .int .i64 (-65536), .int .i64 0, .int .i64 0, .int .i64 0], .int .i64 0]) ∧ Below W.heap.size W w' := fun W =>
  Invert_yes 0 (-65536) 65536 0 0 0 0 65536 (-65536) 0 0 0 W (by decide) (by decide) (by decide) (by decide) (by decide) (by decide) (by decide) (by decide) (by decide) (by decide) (by decide) (by decide) (by decide) (by decide)
theorem qmul30 : ∀ W, Calls Try.prog 29 #[.agg #[.int .i64 0, .int .i64 (-65536), .int .i64 65536, .int .i64 0, .int .i64 0, .int .i64 0], .agg #[.int .i64 65536, .int .i64 0, .int .i64 0, .int .i64 65536, .int .i64 0, .int .i64 0]] W fun ed w' => ed = .returned (.tuple #[.agg #[.int .i64 0, .int .i64 (-65536), .int .i64 65536, .int .i64 0, .int .i64 0, .int .i64 0], .int .i64 0]) ∧ Below W.heap.size W w' := fun W => by
  exact mul_may 0 (-65536) 65536 0 0 0 65536 0 0 65536 0 0 W (by decide) (by decide)
theorem qmul31 : ∀ W, Calls Try.prog 29 #[.agg #[.int .i64 0, .int .i64 (-65536), .int .i64 65536, .int .i64 0, .int .i64 0, .int .i64 0], .agg #[.int .i64 0, .int .i64 65536, .int .i64 (-65536), .int .i64 0, .int .i64 0, .int .i64 0]] W fun ed w' => ed = .returned (.tuple #[.agg #[.int .i64 65536, .int .i64 0, .int .i64 0, .int .i64 65536, .int .i64 0, .int .i64 0], .int .i64 0]) ∧ Below W.heap.size W w' := fun W => by
  exact mul_may 0 (-65536) 65536 0 0 0 0 65536 (-65536) 0 0 0 W (by decide) (by decide)
theorem qmul32 : ∀ W, Calls Try.prog 29 #[.agg #[.int .i64 0, .int .i64 (-65536), .int .i64 65536, .int .i64 0, .int .i64 0, .int .i64 0], .agg #[.int .i64 (-65536), .int .i64 0, .int .i64 0, .int .i64 (-65536), .int .i64 0, .int .i64 0]] W fun ed w' => ed = .returned (.tuple #[.agg #[.int .i64 0, .int .i64 65536, .int .i64 (-65536), .int .i64 0, .int .i64 0, .int .i64 0], .int .i64 0]) ∧ Below W.heap.size W w' := fun W => by
  exact mul_may 0 (-65536) 65536 0 0 0 (-65536) 0 0 (-65536) 0 0 W (by decide) (by decide)
theorem qmul33 : ∀ W, Calls Try.prog 29 #[.agg #[.int .i64 0, .int .i64 (-65536), .int .i64 65536, .int .i64 0, .int .i64 0, .int .i64 0], .agg #[.int .i64 0, .int .i64 (-65536), .int .i64 65536, .int .i64 0, .int .i64 0, .int .i64 0]] W fun ed w' => ed = .returned (.tuple #[.agg #[.int .i64 (-65536), .int .i64 0, .int .i64 0, .int .i64 (-65536), .int .i64 0, .int .i64 0], .int .i64 0]) ∧ Below W.heap.size W w' := fun W => by
  exact mul_may 0 (-65536) 65536 0 0 0 0 (-65536) 65536 0 0 0 W (by decide) (by decide)
set_option maxRecDepth 100000 in
set_option maxHeartbeats 3200000 in
theorem quarters_0 (n k i j b0 b1 b2 b3 b4 b5 m0 m1 m2 m3 m4 m5 : Int) (w : World) (hi : n % 40 = i) (hj : k % 40 = j) (hp : i % 4 = 0)
    (hB : ∀ W, Calls Try.prog 48 #[.int .i64 (5898240 * j)] W fun ed w' => ed = .returned (.agg #[.int .i64 b0, .int .i64 b1, .int .i64 b2, .int .i64 b3, .int .i64 b4, .int .i64 b5]) ∧ Below W.heap.size W w') (hM : ∀ W, Calls Try.prog 29 #[.agg #[.int .i64 65536, .int .i64 0, .int .i64 0, .int .i64 65536, .int .i64 0, .int .i64 0], .agg #[.int .i64 b0, .int .i64 b1, .int .i64 b2, .int .i64 b3, .int .i64 b4, .int .i64 b5]] W fun ed w' => ed = .returned (.tuple #[.agg #[.int .i64 m0, .int .i64 m1, .int .i64 m2, .int .i64 m3, .int .i64 m4, .int .i64 m5], .int .i64 0]) ∧ Below W.heap.size W w') (hS : ∀ W, Calls Try.prog 48 #[.int .i64 (5898240 * (i + j))] W fun ed w' => ed = .returned (.agg #[.int .i64 m0, .int .i64 m1, .int .i64 m2, .int .i64 m3, .int .i64 m4, .int .i64 m5]) ∧ Below W.heap.size W w') :
    Calls Try.prog 14 #[.int .i64 n, .int .i64 k] w fun ed w' => ed = .returned (.bool true) ∧ Below w.heap.size w w' := by
  have i0 : 0 ≤ i ∧ i ≤ 39 := by omega
  have j0 : 0 ≤ j ∧ j ≤ 39 := by omega
  have htm : i.tmod 4 = 0 := by rw [Int.tmod_eq_emod_of_nonneg i0.1, hp]
  have HP1 := Lib.hid (fun W => place_any n 40 W (by omega) (by omega))
  have HP2 := Lib.hid (fun W => place_any k 40 W (by omega) (by omega))
  rw [hi] at HP1
  rw [hj] at HP2
  have HA := Lib.hid (qspin0 (5898240 * i) (by omega))
  have HB := Lib.hid hB
  have HM := Lib.hid hM
  have HS := Lib.hid hS
  have HI := Lib.hid qinv0
  have HV := Lib.hid (qspin0 (5898240 * (40 - i)) (by omega))
  have HW := Lib.hid (fun W => show Calls Try.prog 27 #[.int .i64 1, .int .i64 0, .int .i64 0, .int .i64 1, .int .i64 0, .int .i64 0] W fun ed w' => ed = .returned (.agg #[.int .i64 65536, .int .i64 0, .int .i64 0, .int .i64 65536, .int .i64 0, .int .i64 0]) ∧ Below W.heap.size W w' by exact Whole_any 1 0 0 1 0 0 W (by omega) (by omega) (by omega) (by omega) (by omega) (by omega))
  have JG := guard_mat
  have J1 : ∀ w, (binOp .eql 23 (.agg #[.int .i64 m0, .int .i64 m1, .int .i64 m2, .int .i64 m3, .int .i64 m4, .int .i64 m5]) (.agg #[.int .i64 m0, .int .i64 m1, .int .i64 m2, .int .i64 m3, .int .i64 m4, .int .i64 m5])).run Try.prog w = .ok (.bool true) w := fun w => by
    have := eq_mat m0 m1 m2 m3 m4 m5 m0 m1 m2 m3 m4 m5 w
    rw [eqB_selfQ] at this
    exact this
  have J2 : ∀ w, (binOp .eql 23 (.agg #[.int .i64 65536, .int .i64 0, .int .i64 0, .int .i64 65536, .int .i64 0, .int .i64 0]) (.agg #[.int .i64 65536, .int .i64 0, .int .i64 0, .int .i64 65536, .int .i64 0, .int .i64 0])).run Try.prog w = .ok (.bool true) w := fun w => by
    have := eq_mat 65536 0 0 65536 0 0 65536 0 0 65536 0 0 w
    rw [eqB_selfQ] at this
    exact this
  have J3 : ∀ w, (binOp .eql 23 (.agg #[.int .i64 65536, .int .i64 0, .int .i64 0, .int .i64 65536, .int .i64 0, .int .i64 0]) (.agg #[.int .i64 65536, .int .i64 0, .int .i64 0, .int .i64 65536, .int .i64 0, .int .i64 0])).run Try.prog w = .ok (.bool true) w := fun w => by
    have := eq_mat 65536 0 0 65536 0 0 65536 0 0 65536 0 0 w
    rw [eqB_selfQ] at this
    exact this
  have X1 : ∀ w, (Instr.index 39 (.agg #[.int .i64 1, .int .i64 0, .int .i64 (-1), .int .i64 0]) (.int .i64 0)).run Try.prog w = .ok (.int .i64 1) w := fun w => by kernel_rfl
  have X2 : ∀ w, (Instr.index 39 (.agg #[.int .i64 0, .int .i64 1, .int .i64 0, .int .i64 (-1)]) (.int .i64 0)).run Try.prog w = .ok (.int .i64 0) w := fun w => by kernel_rfl
  have X3 : ∀ w, (Instr.index 39 (.agg #[.int .i64 0, .int .i64 (-1), .int .i64 0, .int .i64 1]) (.int .i64 0)).run Try.prog w = .ok (.int .i64 0) w := fun w => by kernel_rfl
  have X4 : ∀ w, (Instr.index 39 (.agg #[.int .i64 1, .int .i64 0, .int .i64 (-1), .int .i64 0]) (.int .i64 0)).run Try.prog w = .ok (.int .i64 1) w := fun w => by kernel_rfl
  clear hi hj hp hB hM hS
  obtain ⟨i00, i01⟩ := i0
  obtain ⟨j00, j01⟩ := j0
  go_enter Try.func14, Try.ntmps14
  go_wp2_with fail
  refine (known_any _).mono ?_
  rintro e_ w1 ⟨rfl, hb1⟩
  have hbw : Below w.heap.size w w1 := btrans (by (repeat' (first | exact Below.refl _ _ | exact Below.refl _ _ | refine balloc ?_ _ | refine Below.drew ?_ | refine below_drewN ?_ _ | refine bset ?_ (by first | omega | (simp <;> omega)) _))) hb1
  clear hb1
  go_wp2_with fail
  refine (HP1.out _).mono ?_
  rintro e_ w_ ⟨rfl, rfl⟩
  go_wp2_with fail
  refine (HP2.out _).mono ?_
  rintro e_ w_ ⟨rfl, rfl⟩
  go_wp2_with fail
  refine (HA.out _).mono ?_
  rintro e_ w2 ⟨rfl, hb2⟩
  replace hbw : Below w.heap.size w w2 := btrans (by (repeat' (first | refine bset ?_ (by first | omega | (simp <;> omega)) _ | refine balloc ?_ _ | refine Below.drew ?_ | refine below_drewN ?_ _ | exact hbw | exact Below.refl _ _))) hb2
  clear hb2
  go_wp2_with fail
  refine (HB.out _).mono ?_
  rintro e_ w3 ⟨rfl, hb3⟩
  replace hbw : Below w.heap.size w w3 := btrans (by (repeat' (first | refine bset ?_ (by first | omega | (simp <;> omega)) _ | refine balloc ?_ _ | refine Below.drew ?_ | refine below_drewN ?_ _ | exact hbw | exact Below.refl _ _))) hb3
  clear hb3
  go_wp2_with fail
  refine (HM.out _).mono ?_
  rintro e_ w4 ⟨rfl, hb4⟩
  have Ka := ((Blk.new w3 23 #[.int .i64 65536, .int .i64 0, .int .i64 0, .int .i64 65536, .int .i64 0, .int .i64 0]).alloc (.cells #[.int .i64 b0, .int .i64 b1, .int .i64 b2, .int .i64 b3, .int .i64 b4, .int .i64 b5] 23)).below hb4 (by simp; omega)
  have Kb := (Blk.new (w3.alloc (.cells #[.int .i64 65536, .int .i64 0, .int .i64 0, .int .i64 65536, .int .i64 0, .int .i64 0] 23)) 23 #[.int .i64 b0, .int .i64 b1, .int .i64 b2, .int .i64 b3, .int .i64 b4, .int .i64 b5]).below hb4 (by simp)
  have hz_Kb : (w3.alloc (.cells #[.int .i64 65536, .int .i64 0, .int .i64 0, .int .i64 65536, .int .i64 0, .int .i64 0] 23)).heap.size = w3.heap.size + 1 := by simp
  rw [hz_Kb] at Kb
  clear hz_Kb
  replace hbw : Below w.heap.size w w4 := btrans (by (repeat' (first | refine bset ?_ (by first | omega | (simp <;> omega)) _ | refine balloc ?_ _ | refine Below.drew ?_ | refine below_drewN ?_ _ | exact hbw | exact Below.refl _ _))) hb4
  clear hb4
  have lKa := Ka.lt
  have cKa0 := Ka.cell 0
  have cKa1 := Ka.cell 1
  have cKa2 := Ka.cell 2
  have cKa3 := Ka.cell 3
  have cKa4 := Ka.cell 4
  have cKa5 := Ka.cell 5
  have lKb := Kb.lt
  have cKb0 := Kb.cell 0
  have cKb1 := Kb.cell 1
  have cKb2 := Kb.cell 2
  have cKb3 := Kb.cell 3
  have cKb4 := Kb.cell 4
  have cKb5 := Kb.cell 5
  simp only [List.getElem?_toArray, List.getElem?_cons_succ, List.getElem?_cons_zero] at cKa0 cKa1 cKa2 cKa3 cKa4 cKa5 cKb0 cKb1 cKb2 cKb3 cKb4 cKb5
  go_wp2_with fail
  refine (HI.out _).mono ?_
  rintro e_ w5 ⟨rfl, hb5⟩
  replace Ka := (Ka.alloc (.cells #[.int .i64 m0, .int .i64 m1, .int .i64 m2, .int .i64 m3, .int .i64 m4, .int .i64 m5] 23)).below hb5 (by first | exact lKa | (have := lKa; simp; omega))
  replace Kb := (Kb.alloc (.cells #[.int .i64 m0, .int .i64 m1, .int .i64 m2, .int .i64 m3, .int .i64 m4, .int .i64 m5] 23)).below hb5 (by first | exact lKb | (have := lKb; simp; omega))
  have Km := (Blk.new w4 23 #[.int .i64 m0, .int .i64 m1, .int .i64 m2, .int .i64 m3, .int .i64 m4, .int .i64 m5]).below hb5 (by simp)
  replace hbw : Below w.heap.size w w5 := btrans (by (repeat' (first | refine bset ?_ (by first | omega | (simp <;> omega)) _ | refine balloc ?_ _ | refine Below.drew ?_ | refine below_drewN ?_ _ | exact hbw | exact Below.refl _ _))) hb5
  clear hb5 lKa cKa0 cKa1 cKa2 cKa3 cKa4 cKa5 lKb cKb0 cKb1 cKb2 cKb3 cKb4 cKb5
  have lKa := Ka.lt
  have cKa0 := Ka.cell 0
  have cKa1 := Ka.cell 1
  have cKa2 := Ka.cell 2
  have cKa3 := Ka.cell 3
  have cKa4 := Ka.cell 4
  have cKa5 := Ka.cell 5
  have lKb := Kb.lt
  have cKb0 := Kb.cell 0
  have cKb1 := Kb.cell 1
  have cKb2 := Kb.cell 2
  have cKb3 := Kb.cell 3
  have cKb4 := Kb.cell 4
  have cKb5 := Kb.cell 5
  have lKm := Km.lt
  have cKm0 := Km.cell 0
  have cKm1 := Km.cell 1
  have cKm2 := Km.cell 2
  have cKm3 := Km.cell 3
  have cKm4 := Km.cell 4
  have cKm5 := Km.cell 5
  simp only [List.getElem?_toArray, List.getElem?_cons_succ, List.getElem?_cons_zero] at cKa0 cKa1 cKa2 cKa3 cKa4 cKa5 cKb0 cKb1 cKb2 cKb3 cKb4 cKb5 cKm0 cKm1 cKm2 cKm3 cKm4 cKm5
  go_wp2_with fail
  replace Ka := Ka.alloc (.cells #[.int .i64 65536, .int .i64 0, .int .i64 0, .int .i64 65536, .int .i64 0, .int .i64 0] 23)
  replace Kb := Kb.alloc (.cells #[.int .i64 65536, .int .i64 0, .int .i64 0, .int .i64 65536, .int .i64 0, .int .i64 0] 23)
  replace Km := Km.alloc (.cells #[.int .i64 65536, .int .i64 0, .int .i64 0, .int .i64 65536, .int .i64 0, .int .i64 0] 23)
  have Kv := Blk.new w5 23 #[.int .i64 65536, .int .i64 0, .int .i64 0, .int .i64 65536, .int .i64 0, .int .i64 0]
  replace hbw : Below w.heap.size w (w5.alloc (.cells #[.int .i64 65536, .int .i64 0, .int .i64 0, .int .i64 65536, .int .i64 0, .int .i64 0] 23)) := by (repeat' (first | refine bset ?_ (by first | omega | (simp <;> omega)) _ | refine balloc ?_ _ | refine Below.drew ?_ | refine below_drewN ?_ _ | exact hbw | exact Below.refl _ _))
  obtain ⟨Pv, hPv⟩ : ∃ P, w5.heap.size = P := ⟨_, rfl⟩
  rw [hPv] at Kv ⊢
  generalize hwx : (w5.alloc (.cells #[.int .i64 65536, .int .i64 0, .int .i64 0, .int .i64 65536, .int .i64 0, .int .i64 0] 23)) = wz at *
  clear hwx hPv lKa cKa0 cKa1 cKa2 cKa3 cKa4 cKa5 lKb cKb0 cKb1 cKb2 cKb3 cKb4 cKb5 lKm cKm0 cKm1 cKm2 cKm3 cKm4 cKm5
  have lKa := Ka.lt
  have cKa0 := Ka.cell 0
  have cKa1 := Ka.cell 1
  have cKa2 := Ka.cell 2
  have cKa3 := Ka.cell 3
  have cKa4 := Ka.cell 4
  have cKa5 := Ka.cell 5
  have lKb := Kb.lt
  have cKb0 := Kb.cell 0
  have cKb1 := Kb.cell 1
  have cKb2 := Kb.cell 2
  have cKb3 := Kb.cell 3
  have cKb4 := Kb.cell 4
  have cKb5 := Kb.cell 5
  have lKm := Km.lt
  have cKm0 := Km.cell 0
  have cKm1 := Km.cell 1
  have cKm2 := Km.cell 2
  have cKm3 := Km.cell 3
  have cKm4 := Km.cell 4
  have cKm5 := Km.cell 5
  have lKv := Kv.lt
  have cKv0 := Kv.cell 0
  have cKv1 := Kv.cell 1
  have cKv2 := Kv.cell 2
  have cKv3 := Kv.cell 3
  have cKv4 := Kv.cell 4
  have cKv5 := Kv.cell 5
  simp only [List.getElem?_toArray, List.getElem?_cons_succ, List.getElem?_cons_zero] at cKa0 cKa1 cKa2 cKa3 cKa4 cKa5 cKb0 cKb1 cKb2 cKb3 cKb4 cKb5 cKm0 cKm1 cKm2 cKm3 cKm4 cKm5 cKv0 cKv1 cKv2 cKv3 cKv4 cKv5
  have HU1 := Lib.hid (fun u : Up wz => up_of (u := u) (HS.out u.val))
  have HU2 := Lib.hid (fun u : Up wz => up_of (u := u) (HV.out u.val))
  have HU4 := Lib.hid (fun u : Up wz => up_of (u := u) (HW.out u.val))
  have HU3 := Lib.hid (fun u : Up wz => up_of (u := u) (one_any u.val))
  have uKa0 : ∀ u : Up wz, u.val.cell? ⟨w3.heap.size, 0, none⟩ = some (.int .i64 65536) := fun u => (u.cell lKa).trans cKa0
  have uKa1 : ∀ u : Up wz, u.val.cell? ⟨w3.heap.size, 1, none⟩ = some (.int .i64 0) := fun u => (u.cell lKa).trans cKa1
  have uKa2 : ∀ u : Up wz, u.val.cell? ⟨w3.heap.size, 2, none⟩ = some (.int .i64 0) := fun u => (u.cell lKa).trans cKa2
  have uKa3 : ∀ u : Up wz, u.val.cell? ⟨w3.heap.size, 3, none⟩ = some (.int .i64 65536) := fun u => (u.cell lKa).trans cKa3
  have uKa4 : ∀ u : Up wz, u.val.cell? ⟨w3.heap.size, 4, none⟩ = some (.int .i64 0) := fun u => (u.cell lKa).trans cKa4
  have uKa5 : ∀ u : Up wz, u.val.cell? ⟨w3.heap.size, 5, none⟩ = some (.int .i64 0) := fun u => (u.cell lKa).trans cKa5
  have uKm0 : ∀ u : Up wz, u.val.cell? ⟨w4.heap.size, 0, none⟩ = some (.int .i64 m0) := fun u => (u.cell lKm).trans cKm0
  have uKm1 : ∀ u : Up wz, u.val.cell? ⟨w4.heap.size, 1, none⟩ = some (.int .i64 m1) := fun u => (u.cell lKm).trans cKm1
  have uKm2 : ∀ u : Up wz, u.val.cell? ⟨w4.heap.size, 2, none⟩ = some (.int .i64 m2) := fun u => (u.cell lKm).trans cKm2
  have uKm3 : ∀ u : Up wz, u.val.cell? ⟨w4.heap.size, 3, none⟩ = some (.int .i64 m3) := fun u => (u.cell lKm).trans cKm3
  have uKm4 : ∀ u : Up wz, u.val.cell? ⟨w4.heap.size, 4, none⟩ = some (.int .i64 m4) := fun u => (u.cell lKm).trans cKm4
  have uKm5 : ∀ u : Up wz, u.val.cell? ⟨w4.heap.size, 5, none⟩ = some (.int .i64 m5) := fun u => (u.cell lKm).trans cKm5
  have uKv0 : ∀ u : Up wz, u.val.cell? ⟨Pv, 0, none⟩ = some (.int .i64 65536) := fun u => (u.cell lKv).trans cKv0
  have uKv1 : ∀ u : Up wz, u.val.cell? ⟨Pv, 1, none⟩ = some (.int .i64 0) := fun u => (u.cell lKv).trans cKv1
  have uKv2 : ∀ u : Up wz, u.val.cell? ⟨Pv, 2, none⟩ = some (.int .i64 0) := fun u => (u.cell lKv).trans cKv2
  have uKv3 : ∀ u : Up wz, u.val.cell? ⟨Pv, 3, none⟩ = some (.int .i64 65536) := fun u => (u.cell lKv).trans cKv3
  have uKv4 : ∀ u : Up wz, u.val.cell? ⟨Pv, 4, none⟩ = some (.int .i64 0) := fun u => (u.cell lKv).trans cKv4
  have uKv5 : ∀ u : Up wz, u.val.cell? ⟨Pv, 5, none⟩ = some (.int .i64 0) := fun u => (u.cell lKv).trans cKv5
  refine wp_region_up (by kernel_rfl) (by kernel_rfl) ?_
  repeat (go_big_quiet_step (fail))
  go_big_quiet_step (exact HU1.out _)
  repeat (go_big_quiet_step (fail))
  go_big_quiet_step (exact HU2.out _)
  repeat (go_big_quiet_step (fail))
  go_big_quiet_step (exact HU3.out _)
  repeat (go_big_quiet_step (fail))
  go_big_quiet_step (exact HU4.out _)
  repeat (go_big_quiet_step (fail))
  refine wpQuiet_nil ?_
  rintro _ ⟨uq, rfl⟩
  replace hbw := btrans hbw uq.ok
  go_wp2_with fail
  go_ret
  exact ⟨rfl, hbw⟩

set_option maxRecDepth 100000 in
set_option maxHeartbeats 3200000 in
theorem quarters_1 (n k i j b0 b1 b2 b3 b4 b5 m0 m1 m2 m3 m4 m5 : Int) (w : World) (hi : n % 40 = i) (hj : k % 40 = j) (hp : i % 4 = 1)
    (hB : ∀ W, Calls Try.prog 48 #[.int .i64 (5898240 * j)] W fun ed w' => ed = .returned (.agg #[.int .i64 b0, .int .i64 b1, .int .i64 b2, .int .i64 b3, .int .i64 b4, .int .i64 b5]) ∧ Below W.heap.size W w') (hM : ∀ W, Calls Try.prog 29 #[.agg #[.int .i64 0, .int .i64 65536, .int .i64 (-65536), .int .i64 0, .int .i64 0, .int .i64 0], .agg #[.int .i64 b0, .int .i64 b1, .int .i64 b2, .int .i64 b3, .int .i64 b4, .int .i64 b5]] W fun ed w' => ed = .returned (.tuple #[.agg #[.int .i64 m0, .int .i64 m1, .int .i64 m2, .int .i64 m3, .int .i64 m4, .int .i64 m5], .int .i64 0]) ∧ Below W.heap.size W w') (hS : ∀ W, Calls Try.prog 48 #[.int .i64 (5898240 * (i + j))] W fun ed w' => ed = .returned (.agg #[.int .i64 m0, .int .i64 m1, .int .i64 m2, .int .i64 m3, .int .i64 m4, .int .i64 m5]) ∧ Below W.heap.size W w') :
    Calls Try.prog 14 #[.int .i64 n, .int .i64 k] w fun ed w' => ed = .returned (.bool true) ∧ Below w.heap.size w w' := by
  have i0 : 0 ≤ i ∧ i ≤ 39 := by omega
  have j0 : 0 ≤ j ∧ j ≤ 39 := by omega
  have htm : i.tmod 4 = 1 := by rw [Int.tmod_eq_emod_of_nonneg i0.1, hp]
  have HP1 := Lib.hid (fun W => place_any n 40 W (by omega) (by omega))
  have HP2 := Lib.hid (fun W => place_any k 40 W (by omega) (by omega))
  rw [hi] at HP1
  rw [hj] at HP2
  have HA := Lib.hid (qspin1 (5898240 * i) (by omega))
  have HB := Lib.hid hB
  have HM := Lib.hid hM
  have HS := Lib.hid hS
  have HI := Lib.hid qinv1
  have HV := Lib.hid (qspin3 (5898240 * (40 - i)) (by omega))
  have HW := Lib.hid (fun W => show Calls Try.prog 27 #[.int .i64 0, .int .i64 1, .int .i64 (-1), .int .i64 0, .int .i64 0, .int .i64 0] W fun ed w' => ed = .returned (.agg #[.int .i64 0, .int .i64 65536, .int .i64 (-65536), .int .i64 0, .int .i64 0, .int .i64 0]) ∧ Below W.heap.size W w' by exact Whole_any 0 1 (-1) 0 0 0 W (by omega) (by omega) (by omega) (by omega) (by omega) (by omega))
  have JG := guard_mat
  have J1 : ∀ w, (binOp .eql 23 (.agg #[.int .i64 m0, .int .i64 m1, .int .i64 m2, .int .i64 m3, .int .i64 m4, .int .i64 m5]) (.agg #[.int .i64 m0, .int .i64 m1, .int .i64 m2, .int .i64 m3, .int .i64 m4, .int .i64 m5])).run Try.prog w = .ok (.bool true) w := fun w => by
    have := eq_mat m0 m1 m2 m3 m4 m5 m0 m1 m2 m3 m4 m5 w
    rw [eqB_selfQ] at this
    exact this
  have J2 : ∀ w, (binOp .eql 23 (.agg #[.int .i64 0, .int .i64 (-65536), .int .i64 65536, .int .i64 0, .int .i64 0, .int .i64 0]) (.agg #[.int .i64 0, .int .i64 (-65536), .int .i64 65536, .int .i64 0, .int .i64 0, .int .i64 0])).run Try.prog w = .ok (.bool true) w := fun w => by
    have := eq_mat 0 (-65536) 65536 0 0 0 0 (-65536) 65536 0 0 0 w
    rw [eqB_selfQ] at this
    exact this
  have J3 : ∀ w, (binOp .eql 23 (.agg #[.int .i64 0, .int .i64 65536, .int .i64 (-65536), .int .i64 0, .int .i64 0, .int .i64 0]) (.agg #[.int .i64 0, .int .i64 65536, .int .i64 (-65536), .int .i64 0, .int .i64 0, .int .i64 0])).run Try.prog w = .ok (.bool true) w := fun w => by
    have := eq_mat 0 65536 (-65536) 0 0 0 0 65536 (-65536) 0 0 0 w
    rw [eqB_selfQ] at this
    exact this
  have X1 : ∀ w, (Instr.index 39 (.agg #[.int .i64 1, .int .i64 0, .int .i64 (-1), .int .i64 0]) (.int .i64 1)).run Try.prog w = .ok (.int .i64 0) w := fun w => by kernel_rfl
  have X2 : ∀ w, (Instr.index 39 (.agg #[.int .i64 0, .int .i64 1, .int .i64 0, .int .i64 (-1)]) (.int .i64 1)).run Try.prog w = .ok (.int .i64 1) w := fun w => by kernel_rfl
  have X3 : ∀ w, (Instr.index 39 (.agg #[.int .i64 0, .int .i64 (-1), .int .i64 0, .int .i64 1]) (.int .i64 1)).run Try.prog w = .ok (.int .i64 (-1)) w := fun w => by kernel_rfl
  have X4 : ∀ w, (Instr.index 39 (.agg #[.int .i64 1, .int .i64 0, .int .i64 (-1), .int .i64 0]) (.int .i64 1)).run Try.prog w = .ok (.int .i64 0) w := fun w => by kernel_rfl
  clear hi hj hp hB hM hS
  obtain ⟨i00, i01⟩ := i0
  obtain ⟨j00, j01⟩ := j0
  go_enter Try.func14, Try.ntmps14
  go_wp2_with fail
  refine (known_any _).mono ?_
  rintro e_ w1 ⟨rfl, hb1⟩
  have hbw : Below w.heap.size w w1 := btrans (by (repeat' (first | exact Below.refl _ _ | exact Below.refl _ _ | refine balloc ?_ _ | refine Below.drew ?_ | refine below_drewN ?_ _ | refine bset ?_ (by first | omega | (simp <;> omega)) _))) hb1
  clear hb1
  go_wp2_with fail
  refine (HP1.out _).mono ?_
  rintro e_ w_ ⟨rfl, rfl⟩
  go_wp2_with fail
  refine (HP2.out _).mono ?_
  rintro e_ w_ ⟨rfl, rfl⟩
  go_wp2_with fail
  refine (HA.out _).mono ?_
  rintro e_ w2 ⟨rfl, hb2⟩
  replace hbw : Below w.heap.size w w2 := btrans (by (repeat' (first | refine bset ?_ (by first | omega | (simp <;> omega)) _ | refine balloc ?_ _ | refine Below.drew ?_ | refine below_drewN ?_ _ | exact hbw | exact Below.refl _ _))) hb2
  clear hb2
  go_wp2_with fail
  refine (HB.out _).mono ?_
  rintro e_ w3 ⟨rfl, hb3⟩
  replace hbw : Below w.heap.size w w3 := btrans (by (repeat' (first | refine bset ?_ (by first | omega | (simp <;> omega)) _ | refine balloc ?_ _ | refine Below.drew ?_ | refine below_drewN ?_ _ | exact hbw | exact Below.refl _ _))) hb3
  clear hb3
  go_wp2_with fail
  refine (HM.out _).mono ?_
  rintro e_ w4 ⟨rfl, hb4⟩
  have Ka := ((Blk.new w3 23 #[.int .i64 0, .int .i64 65536, .int .i64 (-65536), .int .i64 0, .int .i64 0, .int .i64 0]).alloc (.cells #[.int .i64 b0, .int .i64 b1, .int .i64 b2, .int .i64 b3, .int .i64 b4, .int .i64 b5] 23)).below hb4 (by simp; omega)
  have Kb := (Blk.new (w3.alloc (.cells #[.int .i64 0, .int .i64 65536, .int .i64 (-65536), .int .i64 0, .int .i64 0, .int .i64 0] 23)) 23 #[.int .i64 b0, .int .i64 b1, .int .i64 b2, .int .i64 b3, .int .i64 b4, .int .i64 b5]).below hb4 (by simp)
  have hz_Kb : (w3.alloc (.cells #[.int .i64 0, .int .i64 65536, .int .i64 (-65536), .int .i64 0, .int .i64 0, .int .i64 0] 23)).heap.size = w3.heap.size + 1 := by simp
  rw [hz_Kb] at Kb
  clear hz_Kb
  replace hbw : Below w.heap.size w w4 := btrans (by (repeat' (first | refine bset ?_ (by first | omega | (simp <;> omega)) _ | refine balloc ?_ _ | refine Below.drew ?_ | refine below_drewN ?_ _ | exact hbw | exact Below.refl _ _))) hb4
  clear hb4
  have lKa := Ka.lt
  have cKa0 := Ka.cell 0
  have cKa1 := Ka.cell 1
  have cKa2 := Ka.cell 2
  have cKa3 := Ka.cell 3
  have cKa4 := Ka.cell 4
  have cKa5 := Ka.cell 5
  have lKb := Kb.lt
  have cKb0 := Kb.cell 0
  have cKb1 := Kb.cell 1
  have cKb2 := Kb.cell 2
  have cKb3 := Kb.cell 3
  have cKb4 := Kb.cell 4
  have cKb5 := Kb.cell 5
  simp only [List.getElem?_toArray, List.getElem?_cons_succ, List.getElem?_cons_zero] at cKa0 cKa1 cKa2 cKa3 cKa4 cKa5 cKb0 cKb1 cKb2 cKb3 cKb4 cKb5
  go_wp2_with fail
  refine (HI.out _).mono ?_
  rintro e_ w5 ⟨rfl, hb5⟩
  replace Ka := (Ka.alloc (.cells #[.int .i64 m0, .int .i64 m1, .int .i64 m2, .int .i64 m3, .int .i64 m4, .int .i64 m5] 23)).below hb5 (by first | exact lKa | (have := lKa; simp; omega))
  replace Kb := (Kb.alloc (.cells #[.int .i64 m0, .int .i64 m1, .int .i64 m2, .int .i64 m3, .int .i64 m4, .int .i64 m5] 23)).below hb5 (by first | exact lKb | (have := lKb; simp; omega))
  have Km := (Blk.new w4 23 #[.int .i64 m0, .int .i64 m1, .int .i64 m2, .int .i64 m3, .int .i64 m4, .int .i64 m5]).below hb5 (by simp)
  replace hbw : Below w.heap.size w w5 := btrans (by (repeat' (first | refine bset ?_ (by first | omega | (simp <;> omega)) _ | refine balloc ?_ _ | refine Below.drew ?_ | refine below_drewN ?_ _ | exact hbw | exact Below.refl _ _))) hb5
  clear hb5 lKa cKa0 cKa1 cKa2 cKa3 cKa4 cKa5 lKb cKb0 cKb1 cKb2 cKb3 cKb4 cKb5
  have lKa := Ka.lt
  have cKa0 := Ka.cell 0
  have cKa1 := Ka.cell 1
  have cKa2 := Ka.cell 2
  have cKa3 := Ka.cell 3
  have cKa4 := Ka.cell 4
  have cKa5 := Ka.cell 5
  have lKb := Kb.lt
  have cKb0 := Kb.cell 0
  have cKb1 := Kb.cell 1
  have cKb2 := Kb.cell 2
  have cKb3 := Kb.cell 3
  have cKb4 := Kb.cell 4
  have cKb5 := Kb.cell 5
  have lKm := Km.lt
  have cKm0 := Km.cell 0
  have cKm1 := Km.cell 1
  have cKm2 := Km.cell 2
  have cKm3 := Km.cell 3
  have cKm4 := Km.cell 4
  have cKm5 := Km.cell 5
  simp only [List.getElem?_toArray, List.getElem?_cons_succ, List.getElem?_cons_zero] at cKa0 cKa1 cKa2 cKa3 cKa4 cKa5 cKb0 cKb1 cKb2 cKb3 cKb4 cKb5 cKm0 cKm1 cKm2 cKm3 cKm4 cKm5
  go_wp2_with fail
  replace Ka := Ka.alloc (.cells #[.int .i64 0, .int .i64 (-65536), .int .i64 65536, .int .i64 0, .int .i64 0, .int .i64 0] 23)
  replace Kb := Kb.alloc (.cells #[.int .i64 0, .int .i64 (-65536), .int .i64 65536, .int .i64 0, .int .i64 0, .int .i64 0] 23)
  replace Km := Km.alloc (.cells #[.int .i64 0, .int .i64 (-65536), .int .i64 65536, .int .i64 0, .int .i64 0, .int .i64 0] 23)
  have Kv := Blk.new w5 23 #[.int .i64 0, .int .i64 (-65536), .int .i64 65536, .int .i64 0, .int .i64 0, .int .i64 0]
  replace hbw : Below w.heap.size w (w5.alloc (.cells #[.int .i64 0, .int .i64 (-65536), .int .i64 65536, .int .i64 0, .int .i64 0, .int .i64 0] 23)) := by (repeat' (first | refine bset ?_ (by first | omega | (simp <;> omega)) _ | refine balloc ?_ _ | refine Below.drew ?_ | refine below_drewN ?_ _ | exact hbw | exact Below.refl _ _))
  obtain ⟨Pv, hPv⟩ : ∃ P, w5.heap.size = P := ⟨_, rfl⟩
  rw [hPv] at Kv ⊢
  generalize hwx : (w5.alloc (.cells #[.int .i64 0, .int .i64 (-65536), .int .i64 65536, .int .i64 0, .int .i64 0, .int .i64 0] 23)) = wz at *
  clear hwx hPv lKa cKa0 cKa1 cKa2 cKa3 cKa4 cKa5 lKb cKb0 cKb1 cKb2 cKb3 cKb4 cKb5 lKm cKm0 cKm1 cKm2 cKm3 cKm4 cKm5
  have lKa := Ka.lt
  have cKa0 := Ka.cell 0
  have cKa1 := Ka.cell 1
  have cKa2 := Ka.cell 2
  have cKa3 := Ka.cell 3
  have cKa4 := Ka.cell 4
  have cKa5 := Ka.cell 5
  have lKb := Kb.lt
  have cKb0 := Kb.cell 0
  have cKb1 := Kb.cell 1
  have cKb2 := Kb.cell 2
  have cKb3 := Kb.cell 3
  have cKb4 := Kb.cell 4
  have cKb5 := Kb.cell 5
  have lKm := Km.lt
  have cKm0 := Km.cell 0
  have cKm1 := Km.cell 1
  have cKm2 := Km.cell 2
  have cKm3 := Km.cell 3
  have cKm4 := Km.cell 4
  have cKm5 := Km.cell 5
  have lKv := Kv.lt
  have cKv0 := Kv.cell 0
  have cKv1 := Kv.cell 1
  have cKv2 := Kv.cell 2
  have cKv3 := Kv.cell 3
  have cKv4 := Kv.cell 4
  have cKv5 := Kv.cell 5
  simp only [List.getElem?_toArray, List.getElem?_cons_succ, List.getElem?_cons_zero] at cKa0 cKa1 cKa2 cKa3 cKa4 cKa5 cKb0 cKb1 cKb2 cKb3 cKb4 cKb5 cKm0 cKm1 cKm2 cKm3 cKm4 cKm5 cKv0 cKv1 cKv2 cKv3 cKv4 cKv5
  have HU1 := Lib.hid (fun u : Up wz => up_of (u := u) (HS.out u.val))
  have HU2 := Lib.hid (fun u : Up wz => up_of (u := u) (HV.out u.val))
  have HU4 := Lib.hid (fun u : Up wz => up_of (u := u) (HW.out u.val))
  have HU3 := Lib.hid (fun u : Up wz => up_of (u := u) (one_any u.val))
  have uKa0 : ∀ u : Up wz, u.val.cell? ⟨w3.heap.size, 0, none⟩ = some (.int .i64 0) := fun u => (u.cell lKa).trans cKa0
  have uKa1 : ∀ u : Up wz, u.val.cell? ⟨w3.heap.size, 1, none⟩ = some (.int .i64 65536) := fun u => (u.cell lKa).trans cKa1
  have uKa2 : ∀ u : Up wz, u.val.cell? ⟨w3.heap.size, 2, none⟩ = some (.int .i64 (-65536)) := fun u => (u.cell lKa).trans cKa2
  have uKa3 : ∀ u : Up wz, u.val.cell? ⟨w3.heap.size, 3, none⟩ = some (.int .i64 0) := fun u => (u.cell lKa).trans cKa3
  have uKa4 : ∀ u : Up wz, u.val.cell? ⟨w3.heap.size, 4, none⟩ = some (.int .i64 0) := fun u => (u.cell lKa).trans cKa4
  have uKa5 : ∀ u : Up wz, u.val.cell? ⟨w3.heap.size, 5, none⟩ = some (.int .i64 0) := fun u => (u.cell lKa).trans cKa5
  have uKm0 : ∀ u : Up wz, u.val.cell? ⟨w4.heap.size, 0, none⟩ = some (.int .i64 m0) := fun u => (u.cell lKm).trans cKm0
  have uKm1 : ∀ u : Up wz, u.val.cell? ⟨w4.heap.size, 1, none⟩ = some (.int .i64 m1) := fun u => (u.cell lKm).trans cKm1
  have uKm2 : ∀ u : Up wz, u.val.cell? ⟨w4.heap.size, 2, none⟩ = some (.int .i64 m2) := fun u => (u.cell lKm).trans cKm2
  have uKm3 : ∀ u : Up wz, u.val.cell? ⟨w4.heap.size, 3, none⟩ = some (.int .i64 m3) := fun u => (u.cell lKm).trans cKm3
  have uKm4 : ∀ u : Up wz, u.val.cell? ⟨w4.heap.size, 4, none⟩ = some (.int .i64 m4) := fun u => (u.cell lKm).trans cKm4
  have uKm5 : ∀ u : Up wz, u.val.cell? ⟨w4.heap.size, 5, none⟩ = some (.int .i64 m5) := fun u => (u.cell lKm).trans cKm5
  have uKv0 : ∀ u : Up wz, u.val.cell? ⟨Pv, 0, none⟩ = some (.int .i64 0) := fun u => (u.cell lKv).trans cKv0
  have uKv1 : ∀ u : Up wz, u.val.cell? ⟨Pv, 1, none⟩ = some (.int .i64 (-65536)) := fun u => (u.cell lKv).trans cKv1
  have uKv2 : ∀ u : Up wz, u.val.cell? ⟨Pv, 2, none⟩ = some (.int .i64 65536) := fun u => (u.cell lKv).trans cKv2
  have uKv3 : ∀ u : Up wz, u.val.cell? ⟨Pv, 3, none⟩ = some (.int .i64 0) := fun u => (u.cell lKv).trans cKv3
  have uKv4 : ∀ u : Up wz, u.val.cell? ⟨Pv, 4, none⟩ = some (.int .i64 0) := fun u => (u.cell lKv).trans cKv4
  have uKv5 : ∀ u : Up wz, u.val.cell? ⟨Pv, 5, none⟩ = some (.int .i64 0) := fun u => (u.cell lKv).trans cKv5
  refine wp_region_up (by kernel_rfl) (by kernel_rfl) ?_
  repeat (go_big_quiet_step (fail))
  go_big_quiet_step (exact HU1.out _)
  repeat (go_big_quiet_step (fail))
  go_big_quiet_step (exact HU2.out _)
  repeat (go_big_quiet_step (fail))
  go_big_quiet_step (exact HU4.out _)
  repeat (go_big_quiet_step (fail))
  refine wpQuiet_nil ?_
  rintro _ ⟨uq, rfl⟩
  replace hbw := btrans hbw uq.ok
  go_wp2_with fail
  go_ret
  exact ⟨rfl, hbw⟩

set_option maxRecDepth 100000 in
set_option maxHeartbeats 3200000 in
theorem quarters_2 (n k i j b0 b1 b2 b3 b4 b5 m0 m1 m2 m3 m4 m5 : Int) (w : World) (hi : n % 40 = i) (hj : k % 40 = j) (hp : i % 4 = 2)
    (hB : ∀ W, Calls Try.prog 48 #[.int .i64 (5898240 * j)] W fun ed w' => ed = .returned (.agg #[.int .i64 b0, .int .i64 b1, .int .i64 b2, .int .i64 b3, .int .i64 b4, .int .i64 b5]) ∧ Below W.heap.size W w') (hM : ∀ W, Calls Try.prog 29 #[.agg #[.int .i64 (-65536), .int .i64 0, .int .i64 0, .int .i64 (-65536), .int .i64 0, .int .i64 0], .agg #[.int .i64 b0, .int .i64 b1, .int .i64 b2, .int .i64 b3, .int .i64 b4, .int .i64 b5]] W fun ed w' => ed = .returned (.tuple #[.agg #[.int .i64 m0, .int .i64 m1, .int .i64 m2, .int .i64 m3, .int .i64 m4, .int .i64 m5], .int .i64 0]) ∧ Below W.heap.size W w') (hS : ∀ W, Calls Try.prog 48 #[.int .i64 (5898240 * (i + j))] W fun ed w' => ed = .returned (.agg #[.int .i64 m0, .int .i64 m1, .int .i64 m2, .int .i64 m3, .int .i64 m4, .int .i64 m5]) ∧ Below W.heap.size W w') :
    Calls Try.prog 14 #[.int .i64 n, .int .i64 k] w fun ed w' => ed = .returned (.bool true) ∧ Below w.heap.size w w' := by
  have i0 : 0 ≤ i ∧ i ≤ 39 := by omega
  have j0 : 0 ≤ j ∧ j ≤ 39 := by omega
  have htm : i.tmod 4 = 2 := by rw [Int.tmod_eq_emod_of_nonneg i0.1, hp]
  have HP1 := Lib.hid (fun W => place_any n 40 W (by omega) (by omega))
  have HP2 := Lib.hid (fun W => place_any k 40 W (by omega) (by omega))
  rw [hi] at HP1
  rw [hj] at HP2
  have HA := Lib.hid (qspin2 (5898240 * i) (by omega))
  have HB := Lib.hid hB
  have HM := Lib.hid hM
  have HS := Lib.hid hS
  have HI := Lib.hid qinv2
  have HV := Lib.hid (qspin2 (5898240 * (40 - i)) (by omega))
  have HW := Lib.hid (fun W => show Calls Try.prog 27 #[.int .i64 (-1), .int .i64 0, .int .i64 0, .int .i64 (-1), .int .i64 0, .int .i64 0] W fun ed w' => ed = .returned (.agg #[.int .i64 (-65536), .int .i64 0, .int .i64 0, .int .i64 (-65536), .int .i64 0, .int .i64 0]) ∧ Below W.heap.size W w' by exact Whole_any (-1) 0 0 (-1) 0 0 W (by omega) (by omega) (by omega) (by omega) (by omega) (by omega))
  have JG := guard_mat
  have J1 : ∀ w, (binOp .eql 23 (.agg #[.int .i64 m0, .int .i64 m1, .int .i64 m2, .int .i64 m3, .int .i64 m4, .int .i64 m5]) (.agg #[.int .i64 m0, .int .i64 m1, .int .i64 m2, .int .i64 m3, .int .i64 m4, .int .i64 m5])).run Try.prog w = .ok (.bool true) w := fun w => by
    have := eq_mat m0 m1 m2 m3 m4 m5 m0 m1 m2 m3 m4 m5 w
    rw [eqB_selfQ] at this
    exact this
  have J2 : ∀ w, (binOp .eql 23 (.agg #[.int .i64 (-65536), .int .i64 0, .int .i64 0, .int .i64 (-65536), .int .i64 0, .int .i64 0]) (.agg #[.int .i64 (-65536), .int .i64 0, .int .i64 0, .int .i64 (-65536), .int .i64 0, .int .i64 0])).run Try.prog w = .ok (.bool true) w := fun w => by
    have := eq_mat (-65536) 0 0 (-65536) 0 0 (-65536) 0 0 (-65536) 0 0 w
    rw [eqB_selfQ] at this
    exact this
  have J3 : ∀ w, (binOp .eql 23 (.agg #[.int .i64 (-65536), .int .i64 0, .int .i64 0, .int .i64 (-65536), .int .i64 0, .int .i64 0]) (.agg #[.int .i64 (-65536), .int .i64 0, .int .i64 0, .int .i64 (-65536), .int .i64 0, .int .i64 0])).run Try.prog w = .ok (.bool true) w := fun w => by
    have := eq_mat (-65536) 0 0 (-65536) 0 0 (-65536) 0 0 (-65536) 0 0 w
    rw [eqB_selfQ] at this
    exact this
  have X1 : ∀ w, (Instr.index 39 (.agg #[.int .i64 1, .int .i64 0, .int .i64 (-1), .int .i64 0]) (.int .i64 2)).run Try.prog w = .ok (.int .i64 (-1)) w := fun w => by kernel_rfl
  have X2 : ∀ w, (Instr.index 39 (.agg #[.int .i64 0, .int .i64 1, .int .i64 0, .int .i64 (-1)]) (.int .i64 2)).run Try.prog w = .ok (.int .i64 0) w := fun w => by kernel_rfl
  have X3 : ∀ w, (Instr.index 39 (.agg #[.int .i64 0, .int .i64 (-1), .int .i64 0, .int .i64 1]) (.int .i64 2)).run Try.prog w = .ok (.int .i64 0) w := fun w => by kernel_rfl
  have X4 : ∀ w, (Instr.index 39 (.agg #[.int .i64 1, .int .i64 0, .int .i64 (-1), .int .i64 0]) (.int .i64 2)).run Try.prog w = .ok (.int .i64 (-1)) w := fun w => by kernel_rfl
  clear hi hj hp hB hM hS
  obtain ⟨i00, i01⟩ := i0
  obtain ⟨j00, j01⟩ := j0
  go_enter Try.func14, Try.ntmps14
  go_wp2_with fail
  refine (known_any _).mono ?_
  rintro e_ w1 ⟨rfl, hb1⟩
  have hbw : Below w.heap.size w w1 := btrans (by (repeat' (first | exact Below.refl _ _ | exact Below.refl _ _ | refine balloc ?_ _ | refine Below.drew ?_ | refine below_drewN ?_ _ | refine bset ?_ (by first | omega | (simp <;> omega)) _))) hb1
  clear hb1
  go_wp2_with fail
  refine (HP1.out _).mono ?_
  rintro e_ w_ ⟨rfl, rfl⟩
  go_wp2_with fail
  refine (HP2.out _).mono ?_
  rintro e_ w_ ⟨rfl, rfl⟩
  go_wp2_with fail
  refine (HA.out _).mono ?_
  rintro e_ w2 ⟨rfl, hb2⟩
  replace hbw : Below w.heap.size w w2 := btrans (by (repeat' (first | refine bset ?_ (by first | omega | (simp <;> omega)) _ | refine balloc ?_ _ | refine Below.drew ?_ | refine below_drewN ?_ _ | exact hbw | exact Below.refl _ _))) hb2
  clear hb2
  go_wp2_with fail
  refine (HB.out _).mono ?_
  rintro e_ w3 ⟨rfl, hb3⟩
  replace hbw : Below w.heap.size w w3 := btrans (by (repeat' (first | refine bset ?_ (by first | omega | (simp <;> omega)) _ | refine balloc ?_ _ | refine Below.drew ?_ | refine below_drewN ?_ _ | exact hbw | exact Below.refl _ _))) hb3
  clear hb3
  go_wp2_with fail
  refine (HM.out _).mono ?_
  rintro e_ w4 ⟨rfl, hb4⟩
  have Ka := ((Blk.new w3 23 #[.int .i64 (-65536), .int .i64 0, .int .i64 0, .int .i64 (-65536), .int .i64 0, .int .i64 0]).alloc (.cells #[.int .i64 b0, .int .i64 b1, .int .i64 b2, .int .i64 b3, .int .i64 b4, .int .i64 b5] 23)).below hb4 (by simp; omega)
  have Kb := (Blk.new (w3.alloc (.cells #[.int .i64 (-65536), .int .i64 0, .int .i64 0, .int .i64 (-65536), .int .i64 0, .int .i64 0] 23)) 23 #[.int .i64 b0, .int .i64 b1, .int .i64 b2, .int .i64 b3, .int .i64 b4, .int .i64 b5]).below hb4 (by simp)
  have hz_Kb : (w3.alloc (.cells #[.int .i64 (-65536), .int .i64 0, .int .i64 0, .int .i64 (-65536), .int .i64 0, .int .i64 0] 23)).heap.size = w3.heap.size + 1 := by simp
  rw [hz_Kb] at Kb
  clear hz_Kb
  replace hbw : Below w.heap.size w w4 := btrans (by (repeat' (first | refine bset ?_ (by first | omega | (simp <;> omega)) _ | refine balloc ?_ _ | refine Below.drew ?_ | refine below_drewN ?_ _ | exact hbw | exact Below.refl _ _))) hb4
  clear hb4
  have lKa := Ka.lt
  have cKa0 := Ka.cell 0
  have cKa1 := Ka.cell 1
  have cKa2 := Ka.cell 2
  have cKa3 := Ka.cell 3
  have cKa4 := Ka.cell 4
  have cKa5 := Ka.cell 5
  have lKb := Kb.lt
  have cKb0 := Kb.cell 0
  have cKb1 := Kb.cell 1
  have cKb2 := Kb.cell 2
  have cKb3 := Kb.cell 3
  have cKb4 := Kb.cell 4
  have cKb5 := Kb.cell 5
  simp only [List.getElem?_toArray, List.getElem?_cons_succ, List.getElem?_cons_zero] at cKa0 cKa1 cKa2 cKa3 cKa4 cKa5 cKb0 cKb1 cKb2 cKb3 cKb4 cKb5
  go_wp2_with fail
  refine (HI.out _).mono ?_
  rintro e_ w5 ⟨rfl, hb5⟩
  replace Ka := (Ka.alloc (.cells #[.int .i64 m0, .int .i64 m1, .int .i64 m2, .int .i64 m3, .int .i64 m4, .int .i64 m5] 23)).below hb5 (by first | exact lKa | (have := lKa; simp; omega))
  replace Kb := (Kb.alloc (.cells #[.int .i64 m0, .int .i64 m1, .int .i64 m2, .int .i64 m3, .int .i64 m4, .int .i64 m5] 23)).below hb5 (by first | exact lKb | (have := lKb; simp; omega))
  have Km := (Blk.new w4 23 #[.int .i64 m0, .int .i64 m1, .int .i64 m2, .int .i64 m3, .int .i64 m4, .int .i64 m5]).below hb5 (by simp)
  replace hbw : Below w.heap.size w w5 := btrans (by (repeat' (first | refine bset ?_ (by first | omega | (simp <;> omega)) _ | refine balloc ?_ _ | refine Below.drew ?_ | refine below_drewN ?_ _ | exact hbw | exact Below.refl _ _))) hb5
  clear hb5 lKa cKa0 cKa1 cKa2 cKa3 cKa4 cKa5 lKb cKb0 cKb1 cKb2 cKb3 cKb4 cKb5
  have lKa := Ka.lt
  have cKa0 := Ka.cell 0
  have cKa1 := Ka.cell 1
  have cKa2 := Ka.cell 2
  have cKa3 := Ka.cell 3
  have cKa4 := Ka.cell 4
  have cKa5 := Ka.cell 5
  have lKb := Kb.lt
  have cKb0 := Kb.cell 0
  have cKb1 := Kb.cell 1
  have cKb2 := Kb.cell 2
  have cKb3 := Kb.cell 3
  have cKb4 := Kb.cell 4
  have cKb5 := Kb.cell 5
  have lKm := Km.lt
  have cKm0 := Km.cell 0
  have cKm1 := Km.cell 1
  have cKm2 := Km.cell 2
  have cKm3 := Km.cell 3
  have cKm4 := Km.cell 4
  have cKm5 := Km.cell 5
  simp only [List.getElem?_toArray, List.getElem?_cons_succ, List.getElem?_cons_zero] at cKa0 cKa1 cKa2 cKa3 cKa4 cKa5 cKb0 cKb1 cKb2 cKb3 cKb4 cKb5 cKm0 cKm1 cKm2 cKm3 cKm4 cKm5
  go_wp2_with fail
  replace Ka := Ka.alloc (.cells #[.int .i64 (-65536), .int .i64 0, .int .i64 0, .int .i64 (-65536), .int .i64 0, .int .i64 0] 23)
  replace Kb := Kb.alloc (.cells #[.int .i64 (-65536), .int .i64 0, .int .i64 0, .int .i64 (-65536), .int .i64 0, .int .i64 0] 23)
  replace Km := Km.alloc (.cells #[.int .i64 (-65536), .int .i64 0, .int .i64 0, .int .i64 (-65536), .int .i64 0, .int .i64 0] 23)
  have Kv := Blk.new w5 23 #[.int .i64 (-65536), .int .i64 0, .int .i64 0, .int .i64 (-65536), .int .i64 0, .int .i64 0]
  replace hbw : Below w.heap.size w (w5.alloc (.cells #[.int .i64 (-65536), .int .i64 0, .int .i64 0, .int .i64 (-65536), .int .i64 0, .int .i64 0] 23)) := by (repeat' (first | refine bset ?_ (by first | omega | (simp <;> omega)) _ | refine balloc ?_ _ | refine Below.drew ?_ | refine below_drewN ?_ _ | exact hbw | exact Below.refl _ _))
  obtain ⟨Pv, hPv⟩ : ∃ P, w5.heap.size = P := ⟨_, rfl⟩
  rw [hPv] at Kv ⊢
  generalize hwx : (w5.alloc (.cells #[.int .i64 (-65536), .int .i64 0, .int .i64 0, .int .i64 (-65536), .int .i64 0, .int .i64 0] 23)) = wz at *
  clear hwx hPv lKa cKa0 cKa1 cKa2 cKa3 cKa4 cKa5 lKb cKb0 cKb1 cKb2 cKb3 cKb4 cKb5 lKm cKm0 cKm1 cKm2 cKm3 cKm4 cKm5
  have lKa := Ka.lt
  have cKa0 := Ka.cell 0
  have cKa1 := Ka.cell 1
  have cKa2 := Ka.cell 2
  have cKa3 := Ka.cell 3
  have cKa4 := Ka.cell 4
  have cKa5 := Ka.cell 5
  have lKb := Kb.lt
  have cKb0 := Kb.cell 0
  have cKb1 := Kb.cell 1
  have cKb2 := Kb.cell 2
  have cKb3 := Kb.cell 3
  have cKb4 := Kb.cell 4
  have cKb5 := Kb.cell 5
  have lKm := Km.lt
  have cKm0 := Km.cell 0
  have cKm1 := Km.cell 1
  have cKm2 := Km.cell 2
  have cKm3 := Km.cell 3
  have cKm4 := Km.cell 4
  have cKm5 := Km.cell 5
  have lKv := Kv.lt
  have cKv0 := Kv.cell 0
  have cKv1 := Kv.cell 1
  have cKv2 := Kv.cell 2
  have cKv3 := Kv.cell 3
  have cKv4 := Kv.cell 4
  have cKv5 := Kv.cell 5
  simp only [List.getElem?_toArray, List.getElem?_cons_succ, List.getElem?_cons_zero] at cKa0 cKa1 cKa2 cKa3 cKa4 cKa5 cKb0 cKb1 cKb2 cKb3 cKb4 cKb5 cKm0 cKm1 cKm2 cKm3 cKm4 cKm5 cKv0 cKv1 cKv2 cKv3 cKv4 cKv5
  have HU1 := Lib.hid (fun u : Up wz => up_of (u := u) (HS.out u.val))
  have HU2 := Lib.hid (fun u : Up wz => up_of (u := u) (HV.out u.val))
  have HU4 := Lib.hid (fun u : Up wz => up_of (u := u) (HW.out u.val))
  have HU3 := Lib.hid (fun u : Up wz => up_of (u := u) (one_any u.val))
  have uKa0 : ∀ u : Up wz, u.val.cell? ⟨w3.heap.size, 0, none⟩ = some (.int .i64 (-65536)) := fun u => (u.cell lKa).trans cKa0
  have uKa1 : ∀ u : Up wz, u.val.cell? ⟨w3.heap.size, 1, none⟩ = some (.int .i64 0) := fun u => (u.cell lKa).trans cKa1
  have uKa2 : ∀ u : Up wz, u.val.cell? ⟨w3.heap.size, 2, none⟩ = some (.int .i64 0) := fun u => (u.cell lKa).trans cKa2
  have uKa3 : ∀ u : Up wz, u.val.cell? ⟨w3.heap.size, 3, none⟩ = some (.int .i64 (-65536)) := fun u => (u.cell lKa).trans cKa3
  have uKa4 : ∀ u : Up wz, u.val.cell? ⟨w3.heap.size, 4, none⟩ = some (.int .i64 0) := fun u => (u.cell lKa).trans cKa4
  have uKa5 : ∀ u : Up wz, u.val.cell? ⟨w3.heap.size, 5, none⟩ = some (.int .i64 0) := fun u => (u.cell lKa).trans cKa5
  have uKm0 : ∀ u : Up wz, u.val.cell? ⟨w4.heap.size, 0, none⟩ = some (.int .i64 m0) := fun u => (u.cell lKm).trans cKm0
  have uKm1 : ∀ u : Up wz, u.val.cell? ⟨w4.heap.size, 1, none⟩ = some (.int .i64 m1) := fun u => (u.cell lKm).trans cKm1
  have uKm2 : ∀ u : Up wz, u.val.cell? ⟨w4.heap.size, 2, none⟩ = some (.int .i64 m2) := fun u => (u.cell lKm).trans cKm2
  have uKm3 : ∀ u : Up wz, u.val.cell? ⟨w4.heap.size, 3, none⟩ = some (.int .i64 m3) := fun u => (u.cell lKm).trans cKm3
  have uKm4 : ∀ u : Up wz, u.val.cell? ⟨w4.heap.size, 4, none⟩ = some (.int .i64 m4) := fun u => (u.cell lKm).trans cKm4
  have uKm5 : ∀ u : Up wz, u.val.cell? ⟨w4.heap.size, 5, none⟩ = some (.int .i64 m5) := fun u => (u.cell lKm).trans cKm5
  have uKv0 : ∀ u : Up wz, u.val.cell? ⟨Pv, 0, none⟩ = some (.int .i64 (-65536)) := fun u => (u.cell lKv).trans cKv0
  have uKv1 : ∀ u : Up wz, u.val.cell? ⟨Pv, 1, none⟩ = some (.int .i64 0) := fun u => (u.cell lKv).trans cKv1
  have uKv2 : ∀ u : Up wz, u.val.cell? ⟨Pv, 2, none⟩ = some (.int .i64 0) := fun u => (u.cell lKv).trans cKv2
  have uKv3 : ∀ u : Up wz, u.val.cell? ⟨Pv, 3, none⟩ = some (.int .i64 (-65536)) := fun u => (u.cell lKv).trans cKv3
  have uKv4 : ∀ u : Up wz, u.val.cell? ⟨Pv, 4, none⟩ = some (.int .i64 0) := fun u => (u.cell lKv).trans cKv4
  have uKv5 : ∀ u : Up wz, u.val.cell? ⟨Pv, 5, none⟩ = some (.int .i64 0) := fun u => (u.cell lKv).trans cKv5
  refine wp_region_up (by kernel_rfl) (by kernel_rfl) ?_
  repeat (go_big_quiet_step (fail))
  go_big_quiet_step (exact HU1.out _)
  repeat (go_big_quiet_step (fail))
  go_big_quiet_step (exact HU2.out _)
  repeat (go_big_quiet_step (fail))
  go_big_quiet_step (exact HU4.out _)
  repeat (go_big_quiet_step (fail))
  refine wpQuiet_nil ?_
  rintro _ ⟨uq, rfl⟩
  replace hbw := btrans hbw uq.ok
  go_wp2_with fail
  go_ret
  exact ⟨rfl, hbw⟩

set_option maxRecDepth 100000 in
set_option maxHeartbeats 3200000 in
theorem quarters_3 (n k i j b0 b1 b2 b3 b4 b5 m0 m1 m2 m3 m4 m5 : Int) (w : World) (hi : n % 40 = i) (hj : k % 40 = j) (hp : i % 4 = 3)
    (hB : ∀ W, Calls Try.prog 48 #[.int .i64 (5898240 * j)] W fun ed w' => ed = .returned (.agg #[.int .i64 b0, .int .i64 b1, .int .i64 b2, .int .i64 b3, .int .i64 b4, .int .i64 b5]) ∧ Below W.heap.size W w') (hM : ∀ W, Calls Try.prog 29 #[.agg #[.int .i64 0, .int .i64 (-65536), .int .i64 65536, .int .i64 0, .int .i64 0, .int .i64 0], .agg #[.int .i64 b0, .int .i64 b1, .int .i64 b2, .int .i64 b3, .int .i64 b4, .int .i64 b5]] W fun ed w' => ed = .returned (.tuple #[.agg #[.int .i64 m0, .int .i64 m1, .int .i64 m2, .int .i64 m3, .int .i64 m4, .int .i64 m5], .int .i64 0]) ∧ Below W.heap.size W w') (hS : ∀ W, Calls Try.prog 48 #[.int .i64 (5898240 * (i + j))] W fun ed w' => ed = .returned (.agg #[.int .i64 m0, .int .i64 m1, .int .i64 m2, .int .i64 m3, .int .i64 m4, .int .i64 m5]) ∧ Below W.heap.size W w') :
    Calls Try.prog 14 #[.int .i64 n, .int .i64 k] w fun ed w' => ed = .returned (.bool true) ∧ Below w.heap.size w w' := by
  have i0 : 0 ≤ i ∧ i ≤ 39 := by omega
  have j0 : 0 ≤ j ∧ j ≤ 39 := by omega
  have htm : i.tmod 4 = 3 := by rw [Int.tmod_eq_emod_of_nonneg i0.1, hp]
  have HP1 := Lib.hid (fun W => place_any n 40 W (by omega) (by omega))
  have HP2 := Lib.hid (fun W => place_any k 40 W (by omega) (by omega))
  rw [hi] at HP1
  rw [hj] at HP2
  have HA := Lib.hid (qspin3 (5898240 * i) (by omega))
  have HB := Lib.hid hB
  have HM := Lib.hid hM
  have HS := Lib.hid hS
  have HI := Lib.hid qinv3
  have HV := Lib.hid (qspin1 (5898240 * (40 - i)) (by omega))
  have HW := Lib.hid (fun W => show Calls Try.prog 27 #[.int .i64 0, .int .i64 (-1), .int .i64 1, .int .i64 0, .int .i64 0, .int .i64 0] W fun ed w' => ed = .returned (.agg #[.int .i64 0, .int .i64 (-65536), .int .i64 65536, .int .i64 0, .int .i64 0, .int .i64 0]) ∧ Below W.heap.size W w' by exact Whole_any 0 (-1) 1 0 0 0 W (by omega) (by omega) (by omega) (by omega) (by omega) (by omega))
  have JG := guard_mat
  have J1 : ∀ w, (binOp .eql 23 (.agg #[.int .i64 m0, .int .i64 m1, .int .i64 m2, .int .i64 m3, .int .i64 m4, .int .i64 m5]) (.agg #[.int .i64 m0, .int .i64 m1, .int .i64 m2, .int .i64 m3, .int .i64 m4, .int .i64 m5])).run Try.prog w = .ok (.bool true) w := fun w => by
    have := eq_mat m0 m1 m2 m3 m4 m5 m0 m1 m2 m3 m4 m5 w
    rw [eqB_selfQ] at this
    exact this
  have J2 : ∀ w, (binOp .eql 23 (.agg #[.int .i64 0, .int .i64 65536, .int .i64 (-65536), .int .i64 0, .int .i64 0, .int .i64 0]) (.agg #[.int .i64 0, .int .i64 65536, .int .i64 (-65536), .int .i64 0, .int .i64 0, .int .i64 0])).run Try.prog w = .ok (.bool true) w := fun w => by
    have := eq_mat 0 65536 (-65536) 0 0 0 0 65536 (-65536) 0 0 0 w
    rw [eqB_selfQ] at this
    exact this
  have J3 : ∀ w, (binOp .eql 23 (.agg #[.int .i64 0, .int .i64 (-65536), .int .i64 65536, .int .i64 0, .int .i64 0, .int .i64 0]) (.agg #[.int .i64 0, .int .i64 (-65536), .int .i64 65536, .int .i64 0, .int .i64 0, .int .i64 0])).run Try.prog w = .ok (.bool true) w := fun w => by
    have := eq_mat 0 (-65536) 65536 0 0 0 0 (-65536) 65536 0 0 0 w
    rw [eqB_selfQ] at this
    exact this
  have X1 : ∀ w, (Instr.index 39 (.agg #[.int .i64 1, .int .i64 0, .int .i64 (-1), .int .i64 0]) (.int .i64 3)).run Try.prog w = .ok (.int .i64 0) w := fun w => by kernel_rfl
  have X2 : ∀ w, (Instr.index 39 (.agg #[.int .i64 0, .int .i64 1, .int .i64 0, .int .i64 (-1)]) (.int .i64 3)).run Try.prog w = .ok (.int .i64 (-1)) w := fun w => by kernel_rfl
  have X3 : ∀ w, (Instr.index 39 (.agg #[.int .i64 0, .int .i64 (-1), .int .i64 0, .int .i64 1]) (.int .i64 3)).run Try.prog w = .ok (.int .i64 1) w := fun w => by kernel_rfl
  have X4 : ∀ w, (Instr.index 39 (.agg #[.int .i64 1, .int .i64 0, .int .i64 (-1), .int .i64 0]) (.int .i64 3)).run Try.prog w = .ok (.int .i64 0) w := fun w => by kernel_rfl
  clear hi hj hp hB hM hS
  obtain ⟨i00, i01⟩ := i0
  obtain ⟨j00, j01⟩ := j0
  go_enter Try.func14, Try.ntmps14
  go_wp2_with fail
  refine (known_any _).mono ?_
  rintro e_ w1 ⟨rfl, hb1⟩
  have hbw : Below w.heap.size w w1 := btrans (by (repeat' (first | exact Below.refl _ _ | exact Below.refl _ _ | refine balloc ?_ _ | refine Below.drew ?_ | refine below_drewN ?_ _ | refine bset ?_ (by first | omega | (simp <;> omega)) _))) hb1
  clear hb1
  go_wp2_with fail
  refine (HP1.out _).mono ?_
  rintro e_ w_ ⟨rfl, rfl⟩
  go_wp2_with fail
  refine (HP2.out _).mono ?_
  rintro e_ w_ ⟨rfl, rfl⟩
  go_wp2_with fail
  refine (HA.out _).mono ?_
  rintro e_ w2 ⟨rfl, hb2⟩
  replace hbw : Below w.heap.size w w2 := btrans (by (repeat' (first | refine bset ?_ (by first | omega | (simp <;> omega)) _ | refine balloc ?_ _ | refine Below.drew ?_ | refine below_drewN ?_ _ | exact hbw | exact Below.refl _ _))) hb2
  clear hb2
  go_wp2_with fail
  refine (HB.out _).mono ?_
  rintro e_ w3 ⟨rfl, hb3⟩
  replace hbw : Below w.heap.size w w3 := btrans (by (repeat' (first | refine bset ?_ (by first | omega | (simp <;> omega)) _ | refine balloc ?_ _ | refine Below.drew ?_ | refine below_drewN ?_ _ | exact hbw | exact Below.refl _ _))) hb3
  clear hb3
  go_wp2_with fail
  refine (HM.out _).mono ?_
  rintro e_ w4 ⟨rfl, hb4⟩
  have Ka := ((Blk.new w3 23 #[.int .i64 0, .int .i64 (-65536), .int .i64 65536, .int .i64 0, .int .i64 0, .int .i64 0]).alloc (.cells #[.int .i64 b0, .int .i64 b1, .int .i64 b2, .int .i64 b3, .int .i64 b4, .int .i64 b5] 23)).below hb4 (by simp; omega)
  have Kb := (Blk.new (w3.alloc (.cells #[.int .i64 0, .int .i64 (-65536), .int .i64 65536, .int .i64 0, .int .i64 0, .int .i64 0] 23)) 23 #[.int .i64 b0, .int .i64 b1, .int .i64 b2, .int .i64 b3, .int .i64 b4, .int .i64 b5]).below hb4 (by simp)
  have hz_Kb : (w3.alloc (.cells #[.int .i64 0, .int .i64 (-65536), .int .i64 65536, .int .i64 0, .int .i64 0, .int .i64 0] 23)).heap.size = w3.heap.size + 1 := by simp
  rw [hz_Kb] at Kb
  clear hz_Kb
  replace hbw : Below w.heap.size w w4 := btrans (by (repeat' (first | refine bset ?_ (by first | omega | (simp <;> omega)) _ | refine balloc ?_ _ | refine Below.drew ?_ | refine below_drewN ?_ _ | exact hbw | exact Below.refl _ _))) hb4
  clear hb4
  have lKa := Ka.lt
  have cKa0 := Ka.cell 0
  have cKa1 := Ka.cell 1
  have cKa2 := Ka.cell 2
  have cKa3 := Ka.cell 3
  have cKa4 := Ka.cell 4
  have cKa5 := Ka.cell 5
  have lKb := Kb.lt
  have cKb0 := Kb.cell 0
  have cKb1 := Kb.cell 1
  have cKb2 := Kb.cell 2
  have cKb3 := Kb.cell 3
  have cKb4 := Kb.cell 4
  have cKb5 := Kb.cell 5
  simp only [List.getElem?_toArray, List.getElem?_cons_succ, List.getElem?_cons_zero] at cKa0 cKa1 cKa2 cKa3 cKa4 cKa5 cKb0 cKb1 cKb2 cKb3 cKb4 cKb5
  go_wp2_with fail
  refine (HI.out _).mono ?_
  rintro e_ w5 ⟨rfl, hb5⟩
  replace Ka := (Ka.alloc (.cells #[.int .i64 m0, .int .i64 m1, .int .i64 m2, .int .i64 m3, .int .i64 m4, .int .i64 m5] 23)).below hb5 (by first | exact lKa | (have := lKa; simp; omega))
  replace Kb := (Kb.alloc (.cells #[.int .i64 m0, .int .i64 m1, .int .i64 m2, .int .i64 m3, .int .i64 m4, .int .i64 m5] 23)).below hb5 (by first | exact lKb | (have := lKb; simp; omega))
  have Km := (Blk.new w4 23 #[.int .i64 m0, .int .i64 m1, .int .i64 m2, .int .i64 m3, .int .i64 m4, .int .i64 m5]).below hb5 (by simp)
  replace hbw : Below w.heap.size w w5 := btrans (by (repeat' (first | refine bset ?_ (by first | omega | (simp <;> omega)) _ | refine balloc ?_ _ | refine Below.drew ?_ | refine below_drewN ?_ _ | exact hbw | exact Below.refl _ _))) hb5
  clear hb5 lKa cKa0 cKa1 cKa2 cKa3 cKa4 cKa5 lKb cKb0 cKb1 cKb2 cKb3 cKb4 cKb5
  have lKa := Ka.lt
  have cKa0 := Ka.cell 0
  have cKa1 := Ka.cell 1
  have cKa2 := Ka.cell 2
  have cKa3 := Ka.cell 3
  have cKa4 := Ka.cell 4
  have cKa5 := Ka.cell 5
  have lKb := Kb.lt
  have cKb0 := Kb.cell 0
  have cKb1 := Kb.cell 1
  have cKb2 := Kb.cell 2
  have cKb3 := Kb.cell 3
  have cKb4 := Kb.cell 4
  have cKb5 := Kb.cell 5
  have lKm := Km.lt
  have cKm0 := Km.cell 0
  have cKm1 := Km.cell 1
  have cKm2 := Km.cell 2
  have cKm3 := Km.cell 3
  have cKm4 := Km.cell 4
  have cKm5 := Km.cell 5
  simp only [List.getElem?_toArray, List.getElem?_cons_succ, List.getElem?_cons_zero] at cKa0 cKa1 cKa2 cKa3 cKa4 cKa5 cKb0 cKb1 cKb2 cKb3 cKb4 cKb5 cKm0 cKm1 cKm2 cKm3 cKm4 cKm5
  go_wp2_with fail
  replace Ka := Ka.alloc (.cells #[.int .i64 0, .int .i64 65536, .int .i64 (-65536), .int .i64 0, .int .i64 0, .int .i64 0] 23)
  replace Kb := Kb.alloc (.cells #[.int .i64 0, .int .i64 65536, .int .i64 (-65536), .int .i64 0, .int .i64 0, .int .i64 0] 23)
  replace Km := Km.alloc (.cells #[.int .i64 0, .int .i64 65536, .int .i64 (-65536), .int .i64 0, .int .i64 0, .int .i64 0] 23)
  have Kv := Blk.new w5 23 #[.int .i64 0, .int .i64 65536, .int .i64 (-65536), .int .i64 0, .int .i64 0, .int .i64 0]
  replace hbw : Below w.heap.size w (w5.alloc (.cells #[.int .i64 0, .int .i64 65536, .int .i64 (-65536), .int .i64 0, .int .i64 0, .int .i64 0] 23)) := by (repeat' (first | refine bset ?_ (by first | omega | (simp <;> omega)) _ | refine balloc ?_ _ | refine Below.drew ?_ | refine below_drewN ?_ _ | exact hbw | exact Below.refl _ _))
  obtain ⟨Pv, hPv⟩ : ∃ P, w5.heap.size = P := ⟨_, rfl⟩
  rw [hPv] at Kv ⊢
  generalize hwx : (w5.alloc (.cells #[.int .i64 0, .int .i64 65536, .int .i64 (-65536), .int .i64 0, .int .i64 0, .int .i64 0] 23)) = wz at *
  clear hwx hPv lKa cKa0 cKa1 cKa2 cKa3 cKa4 cKa5 lKb cKb0 cKb1 cKb2 cKb3 cKb4 cKb5 lKm cKm0 cKm1 cKm2 cKm3 cKm4 cKm5
  have lKa := Ka.lt
  have cKa0 := Ka.cell 0
  have cKa1 := Ka.cell 1
  have cKa2 := Ka.cell 2
  have cKa3 := Ka.cell 3
  have cKa4 := Ka.cell 4
  have cKa5 := Ka.cell 5
  have lKb := Kb.lt
  have cKb0 := Kb.cell 0
  have cKb1 := Kb.cell 1
  have cKb2 := Kb.cell 2
  have cKb3 := Kb.cell 3
  have cKb4 := Kb.cell 4
  have cKb5 := Kb.cell 5
  have lKm := Km.lt
  have cKm0 := Km.cell 0
  have cKm1 := Km.cell 1
  have cKm2 := Km.cell 2
  have cKm3 := Km.cell 3
  have cKm4 := Km.cell 4
  have cKm5 := Km.cell 5
  have lKv := Kv.lt
  have cKv0 := Kv.cell 0
  have cKv1 := Kv.cell 1
  have cKv2 := Kv.cell 2
  have cKv3 := Kv.cell 3
  have cKv4 := Kv.cell 4
  have cKv5 := Kv.cell 5
  simp only [List.getElem?_toArray, List.getElem?_cons_succ, List.getElem?_cons_zero] at cKa0 cKa1 cKa2 cKa3 cKa4 cKa5 cKb0 cKb1 cKb2 cKb3 cKb4 cKb5 cKm0 cKm1 cKm2 cKm3 cKm4 cKm5 cKv0 cKv1 cKv2 cKv3 cKv4 cKv5
  have HU1 := Lib.hid (fun u : Up wz => up_of (u := u) (HS.out u.val))
  have HU2 := Lib.hid (fun u : Up wz => up_of (u := u) (HV.out u.val))
  have HU4 := Lib.hid (fun u : Up wz => up_of (u := u) (HW.out u.val))
  have HU3 := Lib.hid (fun u : Up wz => up_of (u := u) (one_any u.val))
  have uKa0 : ∀ u : Up wz, u.val.cell? ⟨w3.heap.size, 0, none⟩ = some (.int .i64 0) := fun u => (u.cell lKa).trans cKa0
  have uKa1 : ∀ u : Up wz, u.val.cell? ⟨w3.heap.size, 1, none⟩ = some (.int .i64 (-65536)) := fun u => (u.cell lKa).trans cKa1
  have uKa2 : ∀ u : Up wz, u.val.cell? ⟨w3.heap.size, 2, none⟩ = some (.int .i64 65536) := fun u => (u.cell lKa).trans cKa2
  have uKa3 : ∀ u : Up wz, u.val.cell? ⟨w3.heap.size, 3, none⟩ = some (.int .i64 0) := fun u => (u.cell lKa).trans cKa3
  have uKa4 : ∀ u : Up wz, u.val.cell? ⟨w3.heap.size, 4, none⟩ = some (.int .i64 0) := fun u => (u.cell lKa).trans cKa4
  have uKa5 : ∀ u : Up wz, u.val.cell? ⟨w3.heap.size, 5, none⟩ = some (.int .i64 0) := fun u => (u.cell lKa).trans cKa5
  have uKm0 : ∀ u : Up wz, u.val.cell? ⟨w4.heap.size, 0, none⟩ = some (.int .i64 m0) := fun u => (u.cell lKm).trans cKm0
  have uKm1 : ∀ u : Up wz, u.val.cell? ⟨w4.heap.size, 1, none⟩ = some (.int .i64 m1) := fun u => (u.cell lKm).trans cKm1
  have uKm2 : ∀ u : Up wz, u.val.cell? ⟨w4.heap.size, 2, none⟩ = some (.int .i64 m2) := fun u => (u.cell lKm).trans cKm2
  have uKm3 : ∀ u : Up wz, u.val.cell? ⟨w4.heap.size, 3, none⟩ = some (.int .i64 m3) := fun u => (u.cell lKm).trans cKm3
  have uKm4 : ∀ u : Up wz, u.val.cell? ⟨w4.heap.size, 4, none⟩ = some (.int .i64 m4) := fun u => (u.cell lKm).trans cKm4
  have uKm5 : ∀ u : Up wz, u.val.cell? ⟨w4.heap.size, 5, none⟩ = some (.int .i64 m5) := fun u => (u.cell lKm).trans cKm5
  have uKv0 : ∀ u : Up wz, u.val.cell? ⟨Pv, 0, none⟩ = some (.int .i64 0) := fun u => (u.cell lKv).trans cKv0
  have uKv1 : ∀ u : Up wz, u.val.cell? ⟨Pv, 1, none⟩ = some (.int .i64 65536) := fun u => (u.cell lKv).trans cKv1
  have uKv2 : ∀ u : Up wz, u.val.cell? ⟨Pv, 2, none⟩ = some (.int .i64 (-65536)) := fun u => (u.cell lKv).trans cKv2
  have uKv3 : ∀ u : Up wz, u.val.cell? ⟨Pv, 3, none⟩ = some (.int .i64 0) := fun u => (u.cell lKv).trans cKv3
  have uKv4 : ∀ u : Up wz, u.val.cell? ⟨Pv, 4, none⟩ = some (.int .i64 0) := fun u => (u.cell lKv).trans cKv4
  have uKv5 : ∀ u : Up wz, u.val.cell? ⟨Pv, 5, none⟩ = some (.int .i64 0) := fun u => (u.cell lKv).trans cKv5
  refine wp_region_up (by kernel_rfl) (by kernel_rfl) ?_
  repeat (go_big_quiet_step (fail))
  go_big_quiet_step (exact HU1.out _)
  repeat (go_big_quiet_step (fail))
  go_big_quiet_step (exact HU2.out _)
  repeat (go_big_quiet_step (fail))
  go_big_quiet_step (exact HU4.out _)
  repeat (go_big_quiet_step (fail))
  refine wpQuiet_nil ?_
  rintro _ ⟨uq, rfl⟩
  replace hbw := btrans hbw uq.ok
  go_wp2_with fail
  go_ret
  exact ⟨rfl, hbw⟩

theorem quarters_law (n k : Int) (w : World) (_hn : -9223372036854775808 ≤ n ∧ n ≤ 9223372036854775807) (_hk : -9223372036854775808 ≤ k ∧ k ≤ 9223372036854775807) : Calls Try.prog 14 #[.int .i64 n, .int .i64 k] w fun ed w' => ed = .returned (.bool true) ∧ Below w.heap.size w w' := by
  obtain ⟨i, hi⟩ : ∃ i, n % 40 = i := ⟨_, rfl⟩
  obtain ⟨j, hj⟩ : ∃ j, k % 40 = j := ⟨_, rfl⟩
  rcases (show i % 4 = 0 ∨ i % 4 = 1 ∨ i % 4 = 2 ∨ i % 4 = 3 by omega) with hp | hp | hp | hp <;> rcases (show j % 4 = 0 ∨ j % 4 = 1 ∨ j % 4 = 2 ∨ j % 4 = 3 by omega) with ht | ht | ht | ht
  · exact quarters_0 n k i j _ _ _ _ _ _ _ _ _ _ _ _ w hi hj hp (qspin0 (5898240 * j) (by omega)) qmul00 (qspin0 (5898240 * (i + j)) (by omega))
  · exact quarters_0 n k i j _ _ _ _ _ _ _ _ _ _ _ _ w hi hj hp (qspin1 (5898240 * j) (by omega)) qmul01 (qspin1 (5898240 * (i + j)) (by omega))
  · exact quarters_0 n k i j _ _ _ _ _ _ _ _ _ _ _ _ w hi hj hp (qspin2 (5898240 * j) (by omega)) qmul02 (qspin2 (5898240 * (i + j)) (by omega))
  · exact quarters_0 n k i j _ _ _ _ _ _ _ _ _ _ _ _ w hi hj hp (qspin3 (5898240 * j) (by omega)) qmul03 (qspin3 (5898240 * (i + j)) (by omega))
  · exact quarters_1 n k i j _ _ _ _ _ _ _ _ _ _ _ _ w hi hj hp (qspin0 (5898240 * j) (by omega)) qmul10 (qspin1 (5898240 * (i + j)) (by omega))
  · exact quarters_1 n k i j _ _ _ _ _ _ _ _ _ _ _ _ w hi hj hp (qspin1 (5898240 * j) (by omega)) qmul11 (qspin2 (5898240 * (i + j)) (by omega))
  · exact quarters_1 n k i j _ _ _ _ _ _ _ _ _ _ _ _ w hi hj hp (qspin2 (5898240 * j) (by omega)) qmul12 (qspin3 (5898240 * (i + j)) (by omega))
  · exact quarters_1 n k i j _ _ _ _ _ _ _ _ _ _ _ _ w hi hj hp (qspin3 (5898240 * j) (by omega)) qmul13 (qspin0 (5898240 * (i + j)) (by omega))
  · exact quarters_2 n k i j _ _ _ _ _ _ _ _ _ _ _ _ w hi hj hp (qspin0 (5898240 * j) (by omega)) qmul20 (qspin2 (5898240 * (i + j)) (by omega))
  · exact quarters_2 n k i j _ _ _ _ _ _ _ _ _ _ _ _ w hi hj hp (qspin1 (5898240 * j) (by omega)) qmul21 (qspin3 (5898240 * (i + j)) (by omega))
  · exact quarters_2 n k i j _ _ _ _ _ _ _ _ _ _ _ _ w hi hj hp (qspin2 (5898240 * j) (by omega)) qmul22 (qspin0 (5898240 * (i + j)) (by omega))
  · exact quarters_2 n k i j _ _ _ _ _ _ _ _ _ _ _ _ w hi hj hp (qspin3 (5898240 * j) (by omega)) qmul23 (qspin1 (5898240 * (i + j)) (by omega))
  · exact quarters_3 n k i j _ _ _ _ _ _ _ _ _ _ _ _ w hi hj hp (qspin0 (5898240 * j) (by omega)) qmul30 (qspin3 (5898240 * (i + j)) (by omega))
  · exact quarters_3 n k i j _ _ _ _ _ _ _ _ _ _ _ _ w hi hj hp (qspin1 (5898240 * j) (by omega)) qmul31 (qspin0 (5898240 * (i + j)) (by omega))
  · exact quarters_3 n k i j _ _ _ _ _ _ _ _ _ _ _ _ w hi hj hp (qspin2 (5898240 * j) (by omega)) qmul32 (qspin1 (5898240 * (i + j)) (by omega))
  · exact quarters_3 n k i j _ _ _ _ _ _ _ _ _ _ _ _ w hi hj hp (qspin3 (5898240 * j) (by omega)) qmul33 (qspin2 (5898240 * (i + j)) (by omega))

end Go.Proofs.Ytaephahcohdbpaa.mt
