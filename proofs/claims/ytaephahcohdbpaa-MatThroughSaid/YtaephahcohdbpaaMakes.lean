/-
  Layer 24: Move, Size, Device, and the law's Whole, small, fixed.
-/
import Derived.Test.YtaephahcohdbpaaMay
namespace Go.Proofs.Ytaephahcohdbpaa.mt
set_option linter.unusedVariables false
set_option linter.unusedSimpArgs false
open Go.RowKit bs

theorem tmod_cases (v n : Int) (h0 : 0 < n) : ∃ q : Int, v.tmod n = q ∧ -n < q ∧ q < n ∧ (q < 0 → q + n = v % n) ∧ (0 ≤ q → q = v % n) := by
  refine ⟨_, rfl, ?_⟩
  rcases Int.lt_or_le v 0 with hv | hv
  · have e : v.tmod n = -((-v) % n) := by
      have := Int.neg_tmod (-v) n
      rw [Int.neg_neg] at this
      rw [this, Int.tmod_eq_emod_of_nonneg (by omega)]
    have b0 := Int.emod_nonneg (-v) (show n ≠ 0 by omega)
    have b1 := Int.emod_lt_of_pos (-v) h0
    have c0 := Int.emod_nonneg v (show n ≠ 0 by omega)
    have c1 := Int.emod_lt_of_pos v h0
    have d1 := Int.mul_ediv_add_emod (-v) n
    have d2 := Int.mul_ediv_add_emod v n
    rw [e]
    have key : (v % n = 0 ∧ (-v) % n = 0) ∨ v % n = n - (-v) % n := by
      have hs : n * ((-v) / n + v / n) = -((-v) % n + v % n) := by rw [Int.mul_add]; omega
      have hb : (-v) / n + v / n = 0 ∨ (-v) / n + v / n = -1 := by
        have h1 : n * ((-v) / n + v / n) ≤ 0 := by omega
        have h2 : -(2 * n) < n * ((-v) / n + v / n) := by omega
        have h3 : (-v) / n + v / n ≤ 0 := by
          rcases Int.lt_or_le 0 ((-v) / n + v / n) with h | h
          · have := Int.mul_pos h0 h; omega
          · exact h
        have h4 : -2 < (-v) / n + v / n := by
          rcases Int.lt_or_le (-2) ((-v) / n + v / n) with h | h
          · exact h
          · have := Int.mul_le_mul_of_nonneg_left h (show 0 ≤ n by omega); omega
        omega
      rcases hb with hb | hb <;> rw [hb] at hs <;> omega
    omega
  · rw [Int.tmod_eq_emod_of_nonneg hv]
    have b0 := Int.emod_nonneg v (show n ≠ 0 by omega)
    have b1 := Int.emod_lt_of_pos v h0
    omega

theorem place_any (v n : Int) (w : World) (h0 : 0 < n) (h1 : n ≤ 1152921504606846976) :
    Calls Try.prog 31 #[.int .i64 v, .int .i64 n] w fun e w' => e = .returned (.int .i64 (v % n)) ∧ w = w' := by
  have hne : (n == 0) = false := by simp; omega
  obtain ⟨q, hq, q0, q1, q2, q3⟩ := tmod_cases v n h0
  have Q2 := Lib.hid q2
  have Q3 := Lib.hid q3
  clear q2 q3
  go_enter Try.func31, Try.ntmps31
  go_wp2_with fail
  all_goals go_ret
  all_goals refine ⟨ret_int ?_, rfl⟩
  · exact Q2.out (by omega)
  · exact Q3.out (by omega)


set_option maxHeartbeats 800000 in
theorem Move_no1 (x y : Int) (w : World) (hx : fixB x = false) : Calls Try.prog 16 #[.int .i64 x, .int .i64 y] w fun ed w' => ed = .returned (.tuple #[.agg #[.int .i64 0, .int .i64 0, .int .i64 0, .int .i64 0, .int .i64 0, .int .i64 0], .int .i64 1]) ∧ Below w.heap.size w w' := by
  have HX := Lib.hid (fun W => show Calls Try.prog 51 #[.int .i64 x] W fun ed w' => ed = .returned (.bool false) ∧ W = w' by have := fix_any x W; rw [hx] at this; exact this)
  clear hx
  have K2 := Blk.new w 23 #[.int .i64 0, .int .i64 0, .int .i64 0, .int .i64 0, .int .i64 0, .int .i64 0]
  have q0 := K2.cell 0
  have f0 := K2.frozen 0
  have q1 := K2.cell 1
  have f1 := K2.frozen 1
  have q2 := K2.cell 2
  have f2 := K2.frozen 2
  have q3 := K2.cell 3
  have f3 := K2.frozen 3
  have q4 := K2.cell 4
  have f4 := K2.frozen 4
  have q5 := K2.cell 5
  have f5 := K2.frozen 5
  simp only [List.getElem?_toArray, List.getElem?_cons_succ, List.getElem?_cons_zero] at q0 q1 q2 q3 q4 q5
  clear K2
  go_enter Try.func16, Try.ntmps16
  go_wp2_with fail
  refine (HX.out _).mono ?_
  rintro e_ w1 ⟨rfl, rfl⟩
  go_wp2_with fail
  refine ret_struct2 (g := w.heap.size) (t := 23) (cs := #[.int .i64 0, .int .i64 0, .int .i64 0, .int .i64 0, .int .i64 0, .int .i64 0]) rfl rfl ?_ Try.underlying23 rfl rfl rfl ?_
  · exact Blk.new _ _ _
  · exact ⟨rfl, by (repeat' (first | refine bset ?_ (by first | omega | (simp <;> omega)) _ | refine balloc ?_ _ | refine Below.drew ?_ | refine below_drewN ?_ _ | exact Below.refl _ _ | exact Below.refl _ _))⟩

set_option maxHeartbeats 800000 in
theorem Move_no2 (x y : Int) (w : World) (hx : fixB x = true) (hy : fixB y = false) : Calls Try.prog 16 #[.int .i64 x, .int .i64 y] w fun ed w' => ed = .returned (.tuple #[.agg #[.int .i64 0, .int .i64 0, .int .i64 0, .int .i64 0, .int .i64 0, .int .i64 0], .int .i64 1]) ∧ Below w.heap.size w w' := by
  have HX := Lib.hid (fun W => show Calls Try.prog 51 #[.int .i64 x] W fun ed w' => ed = .returned (.bool true) ∧ W = w' by have := fix_any x W; rw [hx] at this; exact this)
  have HY := Lib.hid (fun W => show Calls Try.prog 51 #[.int .i64 y] W fun ed w' => ed = .returned (.bool false) ∧ W = w' by have := fix_any y W; rw [hy] at this; exact this)
  clear hx hy
  have K2 := Blk.new w 23 #[.int .i64 0, .int .i64 0, .int .i64 0, .int .i64 0, .int .i64 0, .int .i64 0]
  have q0 := K2.cell 0
  have f0 := K2.frozen 0
  have q1 := K2.cell 1
  have f1 := K2.frozen 1
  have q2 := K2.cell 2
  have f2 := K2.frozen 2
  have q3 := K2.cell 3
  have f3 := K2.frozen 3
  have q4 := K2.cell 4
  have f4 := K2.frozen 4
  have q5 := K2.cell 5
  have f5 := K2.frozen 5
  simp only [List.getElem?_toArray, List.getElem?_cons_succ, List.getElem?_cons_zero] at q0 q1 q2 q3 q4 q5
  clear K2
  go_enter Try.func16, Try.ntmps16
  go_wp2_with fail
  refine (HX.out _).mono ?_
  rintro e_ w1 ⟨rfl, rfl⟩
  go_wp2_with fail
  refine (HY.out _).mono ?_
  rintro e_ w1 ⟨rfl, rfl⟩
  go_wp2_with fail
  refine ret_struct2 (g := w.heap.size) (t := 23) (cs := #[.int .i64 0, .int .i64 0, .int .i64 0, .int .i64 0, .int .i64 0, .int .i64 0]) rfl rfl ?_ Try.underlying23 rfl rfl rfl ?_
  · exact Blk.new _ _ _
  · exact ⟨rfl, by (repeat' (first | refine bset ?_ (by first | omega | (simp <;> omega)) _ | refine balloc ?_ _ | refine Below.drew ?_ | refine below_drewN ?_ _ | exact Below.refl _ _ | exact Below.refl _ _))⟩

set_option maxHeartbeats 800000 in
theorem Move_yes (x y : Int) (w : World) (hx : fixB x = true) (hy : fixB y = true) : Calls Try.prog 16 #[.int .i64 x, .int .i64 y] w fun ed w' => ed = .returned (.tuple #[.agg #[.int .i64 65536, .int .i64 0, .int .i64 0, .int .i64 65536, .int .i64 x, .int .i64 y], .int .i64 0]) ∧ Below w.heap.size w w' := by
  have HX := Lib.hid (fun W => show Calls Try.prog 51 #[.int .i64 x] W fun ed w' => ed = .returned (.bool true) ∧ W = w' by have := fix_any x W; rw [hx] at this; exact this)
  have HY := Lib.hid (fun W => show Calls Try.prog 51 #[.int .i64 y] W fun ed w' => ed = .returned (.bool true) ∧ W = w' by have := fix_any y W; rw [hy] at this; exact this)
  clear hx hy
  have K2 := Blk.new w 23 #[.int .i64 0, .int .i64 0, .int .i64 0, .int .i64 0, .int .i64 0, .int .i64 0]
  have q0 := K2.cell 0
  have f0 := K2.frozen 0
  have q1 := K2.cell 1
  have f1 := K2.frozen 1
  have q2 := K2.cell 2
  have f2 := K2.frozen 2
  have q3 := K2.cell 3
  have f3 := K2.frozen 3
  have q4 := K2.cell 4
  have f4 := K2.frozen 4
  have q5 := K2.cell 5
  have f5 := K2.frozen 5
  simp only [List.getElem?_toArray, List.getElem?_cons_succ, List.getElem?_cons_zero] at q0 q1 q2 q3 q4 q5
  clear K2
  go_enter Try.func16, Try.ntmps16
  go_wp2_with fail
  refine (HX.out _).mono ?_
  rintro e_ w1 ⟨rfl, rfl⟩
  go_wp2_with fail
  refine (HY.out _).mono ?_
  rintro e_ w1 ⟨rfl, rfl⟩
  go_wp2_with fail
  refine ret_struct2 (g := w.heap.size) (t := 23) (cs := #[.int .i64 65536, .int .i64 0, .int .i64 0, .int .i64 65536, .int .i64 x, .int .i64 y]) rfl rfl ?_ Try.underlying23 rfl rfl rfl ?_
  · exact Blk.new _ _ _
  · exact ⟨rfl, by (repeat' (first | refine bset ?_ (by first | omega | (simp <;> omega)) _ | refine balloc ?_ _ | refine Below.drew ?_ | refine below_drewN ?_ _ | exact Below.refl _ _ | exact Below.refl _ _))⟩

set_option maxHeartbeats 800000 in
theorem Size_no1 (x y : Int) (w : World) (hx : fixB x = false) : Calls Try.prog 17 #[.int .i64 x, .int .i64 y] w fun ed w' => ed = .returned (.tuple #[.agg #[.int .i64 0, .int .i64 0, .int .i64 0, .int .i64 0, .int .i64 0, .int .i64 0], .int .i64 1]) ∧ Below w.heap.size w w' := by
  have HX := Lib.hid (fun W => show Calls Try.prog 51 #[.int .i64 x] W fun ed w' => ed = .returned (.bool false) ∧ W = w' by have := fix_any x W; rw [hx] at this; exact this)
  clear hx
  have K2 := Blk.new w 23 #[.int .i64 0, .int .i64 0, .int .i64 0, .int .i64 0, .int .i64 0, .int .i64 0]
  have q0 := K2.cell 0
  have f0 := K2.frozen 0
  have q1 := K2.cell 1
  have f1 := K2.frozen 1
  have q2 := K2.cell 2
  have f2 := K2.frozen 2
  have q3 := K2.cell 3
  have f3 := K2.frozen 3
  have q4 := K2.cell 4
  have f4 := K2.frozen 4
  have q5 := K2.cell 5
  have f5 := K2.frozen 5
  simp only [List.getElem?_toArray, List.getElem?_cons_succ, List.getElem?_cons_zero] at q0 q1 q2 q3 q4 q5
  clear K2
  go_enter Try.func17, Try.ntmps17
  go_wp2_with fail
  refine (HX.out _).mono ?_
  rintro e_ w1 ⟨rfl, rfl⟩
  go_wp2_with fail
  refine ret_struct2 (g := w.heap.size) (t := 23) (cs := #[.int .i64 0, .int .i64 0, .int .i64 0, .int .i64 0, .int .i64 0, .int .i64 0]) rfl rfl ?_ Try.underlying23 rfl rfl rfl ?_
  · exact Blk.new _ _ _
  · exact ⟨rfl, by (repeat' (first | refine bset ?_ (by first | omega | (simp <;> omega)) _ | refine balloc ?_ _ | refine Below.drew ?_ | refine below_drewN ?_ _ | exact Below.refl _ _ | exact Below.refl _ _))⟩

set_option maxHeartbeats 800000 in
theorem Size_no2 (x y : Int) (w : World) (hx : fixB x = true) (hy : fixB y = false) : Calls Try.prog 17 #[.int .i64 x, .int .i64 y] w fun ed w' => ed = .returned (.tuple #[.agg #[.int .i64 0, .int .i64 0, .int .i64 0, .int .i64 0, .int .i64 0, .int .i64 0], .int .i64 1]) ∧ Below w.heap.size w w' := by
  have HX := Lib.hid (fun W => show Calls Try.prog 51 #[.int .i64 x] W fun ed w' => ed = .returned (.bool true) ∧ W = w' by have := fix_any x W; rw [hx] at this; exact this)
  have HY := Lib.hid (fun W => show Calls Try.prog 51 #[.int .i64 y] W fun ed w' => ed = .returned (.bool false) ∧ W = w' by have := fix_any y W; rw [hy] at this; exact this)
  clear hx hy
  have K2 := Blk.new w 23 #[.int .i64 0, .int .i64 0, .int .i64 0, .int .i64 0, .int .i64 0, .int .i64 0]
  have q0 := K2.cell 0
  have f0 := K2.frozen 0
  have q1 := K2.cell 1
  have f1 := K2.frozen 1
  have q2 := K2.cell 2
  have f2 := K2.frozen 2
  have q3 := K2.cell 3
  have f3 := K2.frozen 3
  have q4 := K2.cell 4
  have f4 := K2.frozen 4
  have q5 := K2.cell 5
  have f5 := K2.frozen 5
  simp only [List.getElem?_toArray, List.getElem?_cons_succ, List.getElem?_cons_zero] at q0 q1 q2 q3 q4 q5
  clear K2
  go_enter Try.func17, Try.ntmps17
  go_wp2_with fail
  refine (HX.out _).mono ?_
  rintro e_ w1 ⟨rfl, rfl⟩
  go_wp2_with fail
  refine (HY.out _).mono ?_
  rintro e_ w1 ⟨rfl, rfl⟩
  go_wp2_with fail
  refine ret_struct2 (g := w.heap.size) (t := 23) (cs := #[.int .i64 0, .int .i64 0, .int .i64 0, .int .i64 0, .int .i64 0, .int .i64 0]) rfl rfl ?_ Try.underlying23 rfl rfl rfl ?_
  · exact Blk.new _ _ _
  · exact ⟨rfl, by (repeat' (first | refine bset ?_ (by first | omega | (simp <;> omega)) _ | refine balloc ?_ _ | refine Below.drew ?_ | refine below_drewN ?_ _ | exact Below.refl _ _ | exact Below.refl _ _))⟩

set_option maxHeartbeats 800000 in
theorem Size_yes (x y : Int) (w : World) (hx : fixB x = true) (hy : fixB y = true) : Calls Try.prog 17 #[.int .i64 x, .int .i64 y] w fun ed w' => ed = .returned (.tuple #[.agg #[.int .i64 x, .int .i64 0, .int .i64 0, .int .i64 y, .int .i64 0, .int .i64 0], .int .i64 0]) ∧ Below w.heap.size w w' := by
  have HX := Lib.hid (fun W => show Calls Try.prog 51 #[.int .i64 x] W fun ed w' => ed = .returned (.bool true) ∧ W = w' by have := fix_any x W; rw [hx] at this; exact this)
  have HY := Lib.hid (fun W => show Calls Try.prog 51 #[.int .i64 y] W fun ed w' => ed = .returned (.bool true) ∧ W = w' by have := fix_any y W; rw [hy] at this; exact this)
  clear hx hy
  have K2 := Blk.new w 23 #[.int .i64 0, .int .i64 0, .int .i64 0, .int .i64 0, .int .i64 0, .int .i64 0]
  have q0 := K2.cell 0
  have f0 := K2.frozen 0
  have q1 := K2.cell 1
  have f1 := K2.frozen 1
  have q2 := K2.cell 2
  have f2 := K2.frozen 2
  have q3 := K2.cell 3
  have f3 := K2.frozen 3
  have q4 := K2.cell 4
  have f4 := K2.frozen 4
  have q5 := K2.cell 5
  have f5 := K2.frozen 5
  simp only [List.getElem?_toArray, List.getElem?_cons_succ, List.getElem?_cons_zero] at q0 q1 q2 q3 q4 q5
  clear K2
  go_enter Try.func17, Try.ntmps17
  go_wp2_with fail
  refine (HX.out _).mono ?_
  rintro e_ w1 ⟨rfl, rfl⟩
  go_wp2_with fail
  refine (HY.out _).mono ?_
  rintro e_ w1 ⟨rfl, rfl⟩
  go_wp2_with fail
  refine ret_struct2 (g := w.heap.size) (t := 23) (cs := #[.int .i64 x, .int .i64 0, .int .i64 0, .int .i64 y, .int .i64 0, .int .i64 0]) rfl rfl ?_ Try.underlying23 rfl rfl rfl ?_
  · exact Blk.new _ _ _
  · exact ⟨rfl, by (repeat' (first | refine bset ?_ (by first | omega | (simp <;> omega)) _ | refine balloc ?_ _ | refine Below.drew ?_ | refine below_drewN ?_ _ | exact Below.refl _ _ | exact Below.refl _ _))⟩

set_option maxHeartbeats 800000 in
theorem Device_yes (h : Int) (w : World) (h0 : 1 ≤ h) (h1 : h ≤ 64) : Calls Try.prog 21 #[.int .i64 h] w fun ed w' => ed = .returned (.tuple #[.agg #[.int .i64 1048576, .int .i64 0, .int .i64 0, .int .i64 (-1048576), .int .i64 0, .int .i64 (16 * h * 65536)], .int .i64 0]) ∧ Below w.heap.size w w' := by
  have c1 : decide (h < 1) = false := by simp; omega
  have c2 : decide (64 < h) = false := by simp; omega
  have K2 := Blk.new w 23 #[.int .i64 0, .int .i64 0, .int .i64 0, .int .i64 0, .int .i64 0, .int .i64 0]
  have q0 := K2.cell 0
  have f0 := K2.frozen 0
  have q1 := K2.cell 1
  have f1 := K2.frozen 1
  have q2 := K2.cell 2
  have f2 := K2.frozen 2
  have q3 := K2.cell 3
  have f3 := K2.frozen 3
  have q4 := K2.cell 4
  have f4 := K2.frozen 4
  have q5 := K2.cell 5
  have f5 := K2.frozen 5
  simp only [List.getElem?_toArray, List.getElem?_cons_succ, List.getElem?_cons_zero] at q0 q1 q2 q3 q4 q5
  clear K2
  go_enter Try.func21, Try.ntmps21
  go_wp2_with fail
  refine ret_struct2 (g := w.heap.size) (t := 23) (cs := #[.int .i64 1048576, .int .i64 0, .int .i64 0, .int .i64 (-1048576), .int .i64 0, .int .i64 (16 * h * 65536)]) rfl rfl ?_ Try.underlying23 rfl rfl rfl ?_
  · exact Blk.new _ _ _
  · exact ⟨rfl, by (repeat' (first | refine bset ?_ (by first | omega | (simp <;> omega)) _ | refine balloc ?_ _ | refine Below.drew ?_ | refine below_drewN ?_ _ | exact Below.refl _ _ | exact Below.refl _ _))⟩

set_option maxHeartbeats 800000 in
theorem Device_no1 (h : Int) (w : World) (h0 : h < 1) : Calls Try.prog 21 #[.int .i64 h] w fun ed w' => ed = .returned (.tuple #[.agg #[.int .i64 0, .int .i64 0, .int .i64 0, .int .i64 0, .int .i64 0, .int .i64 0], .int .i64 1]) ∧ Below w.heap.size w w' := by
  have c1 : decide (h < 1) = true := by simp; omega
  have K2 := Blk.new w 23 #[.int .i64 0, .int .i64 0, .int .i64 0, .int .i64 0, .int .i64 0, .int .i64 0]
  have q0 := K2.cell 0
  have f0 := K2.frozen 0
  have q1 := K2.cell 1
  have f1 := K2.frozen 1
  have q2 := K2.cell 2
  have f2 := K2.frozen 2
  have q3 := K2.cell 3
  have f3 := K2.frozen 3
  have q4 := K2.cell 4
  have f4 := K2.frozen 4
  have q5 := K2.cell 5
  have f5 := K2.frozen 5
  simp only [List.getElem?_toArray, List.getElem?_cons_succ, List.getElem?_cons_zero] at q0 q1 q2 q3 q4 q5
  clear K2
  go_enter Try.func21, Try.ntmps21
  go_wp2_with fail
  refine ret_struct2 (g := w.heap.size) (t := 23) (cs := #[.int .i64 0, .int .i64 0, .int .i64 0, .int .i64 0, .int .i64 0, .int .i64 0]) rfl rfl ?_ Try.underlying23 rfl rfl rfl ?_
  · exact Blk.new _ _ _
  · exact ⟨rfl, by (repeat' (first | refine bset ?_ (by first | omega | (simp <;> omega)) _ | refine balloc ?_ _ | refine Below.drew ?_ | refine below_drewN ?_ _ | exact Below.refl _ _ | exact Below.refl _ _))⟩

set_option maxHeartbeats 800000 in
theorem Device_no2 (h : Int) (w : World) (h0 : 64 < h) : Calls Try.prog 21 #[.int .i64 h] w fun ed w' => ed = .returned (.tuple #[.agg #[.int .i64 0, .int .i64 0, .int .i64 0, .int .i64 0, .int .i64 0, .int .i64 0], .int .i64 1]) ∧ Below w.heap.size w w' := by
  have c1 : decide (h < 1) = false := by simp; omega
  have c2 : decide (64 < h) = true := by simp; omega
  have K2 := Blk.new w 23 #[.int .i64 0, .int .i64 0, .int .i64 0, .int .i64 0, .int .i64 0, .int .i64 0]
  have q0 := K2.cell 0
  have f0 := K2.frozen 0
  have q1 := K2.cell 1
  have f1 := K2.frozen 1
  have q2 := K2.cell 2
  have f2 := K2.frozen 2
  have q3 := K2.cell 3
  have f3 := K2.frozen 3
  have q4 := K2.cell 4
  have f4 := K2.frozen 4
  have q5 := K2.cell 5
  have f5 := K2.frozen 5
  simp only [List.getElem?_toArray, List.getElem?_cons_succ, List.getElem?_cons_zero] at q0 q1 q2 q3 q4 q5
  clear K2
  go_enter Try.func21, Try.ntmps21
  go_wp2_with fail
  refine ret_struct2 (g := w.heap.size) (t := 23) (cs := #[.int .i64 0, .int .i64 0, .int .i64 0, .int .i64 0, .int .i64 0, .int .i64 0]) rfl rfl ?_ Try.underlying23 rfl rfl rfl ?_
  · exact Blk.new _ _ _
  · exact ⟨rfl, by (repeat' (first | refine bset ?_ (by first | omega | (simp <;> omega)) _ | refine balloc ?_ _ | refine Below.drew ?_ | refine below_drewN ?_ _ | exact Below.refl _ _ | exact Below.refl _ _))⟩

set_option maxHeartbeats 800000 in
theorem Whole_any (a b c d e f : Int) (w : World) (ha : -1000000 ≤ a ∧ a ≤ 1000000) (hb : -1000000 ≤ b ∧ b ≤ 1000000) (hc : -1000000 ≤ c ∧ c ≤ 1000000) (hd : -1000000 ≤ d ∧ d ≤ 1000000) (he : -1000000 ≤ e ∧ e ≤ 1000000) (hf : -1000000 ≤ f ∧ f ≤ 1000000) :
    Calls Try.prog 27 #[.int .i64 a, .int .i64 b, .int .i64 c, .int .i64 d, .int .i64 e, .int .i64 f] w fun ed w' => ed = .returned (.agg #[.int .i64 (a * 65536), .int .i64 (b * 65536), .int .i64 (c * 65536), .int .i64 (d * 65536), .int .i64 (e * 65536), .int .i64 (f * 65536)]) ∧ Below w.heap.size w w' := by
  obtain ⟨a0, a1⟩ := ha
  obtain ⟨b0, b1⟩ := hb
  obtain ⟨c0, c1⟩ := hc
  obtain ⟨d0, d1⟩ := hd
  obtain ⟨e0, e1⟩ := he
  obtain ⟨f0, f1⟩ := hf
  have K2 := Blk.new w 23 #[.int .i64 0, .int .i64 0, .int .i64 0, .int .i64 0, .int .i64 0, .int .i64 0]
  have q0 := K2.cell 0
  have f0 := K2.frozen 0
  have q1 := K2.cell 1
  have f1 := K2.frozen 1
  have q2 := K2.cell 2
  have f2 := K2.frozen 2
  have q3 := K2.cell 3
  have f3 := K2.frozen 3
  have q4 := K2.cell 4
  have f4 := K2.frozen 4
  have q5 := K2.cell 5
  have f5 := K2.frozen 5
  simp only [List.getElem?_toArray, List.getElem?_cons_succ, List.getElem?_cons_zero] at q0 q1 q2 q3 q4 q5
  clear K2
  go_enter Try.func27, Try.ntmps27
  go_wp2_with fail
  refine ret_struct1 (g := w.heap.size) (t := 23) (cs := #[.int .i64 (a * 65536), .int .i64 (b * 65536), .int .i64 (c * 65536), .int .i64 (d * 65536), .int .i64 (e * 65536), .int .i64 (f * 65536)]) rfl rfl ?_ Try.underlying23 rfl rfl rfl ?_
  · exact Blk.new _ _ _
  · exact ⟨rfl, by (repeat' (first | refine bset ?_ (by first | omega | (simp <;> omega)) _ | refine balloc ?_ _ | refine Below.drew ?_ | refine below_drewN ?_ _ | exact Below.refl _ _ | exact Below.refl _ _))⟩

theorem small_any (v : Int) (w : World) : Calls Try.prog 33 #[.int .i64 v] w fun ed w' => ed = .returned (.int .i64 (v % 81 - 40)) ∧ w = w' := by
  have HP := Lib.hid (fun W => place_any v 81 W (by omega) (by omega))
  obtain ⟨r, hr⟩ : ∃ r, v % 81 = r := ⟨_, rfl⟩
  have r0 : 0 ≤ r := by omega
  have r1 : r < 81 := by omega
  rw [hr] at HP
  rw [hr]
  clear hr
  go_enter Try.func33, Try.ntmps33
  go_wp2_with fail
  refine (HP.out _).mono ?_
  rintro e_ w1 ⟨rfl, rfl⟩
  go_wp2_with fail
  go_ret
  exact ⟨rfl, rfl⟩

theorem fixed_any (v : Int) (w : World) : Calls Try.prog 28 #[.int .i64 v] w fun ed w' => ed = .returned (.int .i64 (v % 536870911 - 268435455)) ∧ w = w' := by
  have HP := Lib.hid (fun W => place_any v 536870911 W (by omega) (by omega))
  obtain ⟨r, hr⟩ : ∃ r, v % 536870911 = r := ⟨_, rfl⟩
  have r0 : 0 ≤ r := by omega
  have r1 : r < 536870911 := by omega
  rw [hr] at HP
  rw [hr]
  clear hr
  go_enter Try.func28, Try.ntmps28
  go_wp2_with fail
  refine (HP.out _).mono ?_
  rintro e_ w1 ⟨rfl, rfl⟩
  go_wp2_with fail
  go_ret
  exact ⟨rfl, rfl⟩

end Go.Proofs.Ytaephahcohdbpaa.mt
