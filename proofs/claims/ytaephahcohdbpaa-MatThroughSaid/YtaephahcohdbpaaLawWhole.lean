/-
  MatWhole: matrices of whole numbers, by the numbers.
-/
import Derived.Test.YtaephahcohdbpaaMovesP
namespace Go.Proofs.Ytaephahcohdbpaa.mt
set_option linter.unusedVariables false
set_option linter.unusedSimpArgs false
open Go.RowKit bs

theorem whole_vector (s0 s1 s2 s3 s4 s5 x y u v : Int) (W : World) (bs0 : -16000 ≤ s0 ∧ s0 ≤ 16000) (bs1 : -16000 ≤ s1 ∧ s1 ≤ 16000) (bs2 : -16000 ≤ s2 ∧ s2 ≤ 16000) (bs3 : -16000 ≤ s3 ∧ s3 ≤ 16000) (bs4 : -16000 ≤ s4 ∧ s4 ≤ 16000) (bs5 : -16000 ≤ s5 ∧ s5 ≤ 16000) (bx : -16000 ≤ x ∧ x ≤ 16000) (by_ : -16000 ≤ y ∧ y ≤ 16000) (bu : -16000 ≤ u ∧ u ≤ 16000) (bv : -16000 ≤ v ∧ v ≤ 16000) (qu : s0 * x + s2 * y = u) (qv : s1 * x + s3 * y = v) :
    Calls Try.prog 36 #[.agg #[.int .i64 (s0 * 65536), .int .i64 (s1 * 65536), .int .i64 (s2 * 65536), .int .i64 (s3 * 65536), .int .i64 (s4 * 65536), .int .i64 (s5 * 65536)], .int .i64 (x * 65536), .int .i64 (y * 65536)] W fun ed w' => ed = .returned (.tuple #[.int .i64 u, .int .i64 v, .int .i64 0]) ∧ Below W.heap.size W w' := by
  have hx : xVector (s0 * 65536) (s1 * 65536) (s2 * 65536) (s3 * 65536) (s4 * 65536) (s5 * 65536) (x * 65536) (y * 65536) = u := by
    unfold xVector
    rw [mul16, mul16, show s0 * x * 4294967296 + s2 * y * 4294967296 = u * 4294967296 by omega]
    exact even32_exact _
  have hy : yVector (s0 * 65536) (s1 * 65536) (s2 * 65536) (s3 * 65536) (s4 * 65536) (s5 * 65536) (x * 65536) (y * 65536) = v := by
    unfold yVector
    rw [mul16, mul16, show s1 * x * 4294967296 + s3 * y * 4294967296 = v * 4294967296 by omega]
    exact even32_exact _
  have hb : bVector (s0 * 65536) (s1 * 65536) (s2 * 65536) (s3 * 65536) (s4 * 65536) (s5 * 65536) (x * 65536) (y * 65536) = true := by unfold bVector; rw [hx, hy]; exact nearB_true (by omega) (by omega)
  have := Vector_yes (s0 * 65536) (s1 * 65536) (s2 * 65536) (s3 * 65536) (s4 * 65536) (s5 * 65536) (x * 65536) (y * 65536) W (goodB_true (mayB_true (by omega) (by omega) (by omega) (by omega) (by omega) (by omega)) (by omega) (by omega))
  rw [hb, hx, hy] at this
  exact this
theorem whole_map (s0 s1 s2 s3 s4 s5 x y u v : Int) (W : World) (bs0 : -16000 ≤ s0 ∧ s0 ≤ 16000) (bs1 : -16000 ≤ s1 ∧ s1 ≤ 16000) (bs2 : -16000 ≤ s2 ∧ s2 ≤ 16000) (bs3 : -16000 ≤ s3 ∧ s3 ≤ 16000) (bs4 : -16000 ≤ s4 ∧ s4 ≤ 16000) (bs5 : -16000 ≤ s5 ∧ s5 ≤ 16000) (bx : -16000 ≤ x ∧ x ≤ 16000) (by_ : -16000 ≤ y ∧ y ≤ 16000) (bu : -16000 ≤ u ∧ u ≤ 16000) (bv : -16000 ≤ v ∧ v ≤ 16000) (qu : s0 * x + s2 * y + s4 = u) (qv : s1 * x + s3 * y + s5 = v) :
    Calls Try.prog 37 #[.agg #[.int .i64 (s0 * 65536), .int .i64 (s1 * 65536), .int .i64 (s2 * 65536), .int .i64 (s3 * 65536), .int .i64 (s4 * 65536), .int .i64 (s5 * 65536)], .int .i64 (x * 65536), .int .i64 (y * 65536)] W fun ed w' => ed = .returned (.tuple #[.int .i64 (u * 65536), .int .i64 (v * 65536), .int .i64 0]) ∧ Below W.heap.size W w' := by
  have hx : xMap (s0 * 65536) (s1 * 65536) (s2 * 65536) (s3 * 65536) (s4 * 65536) (s5 * 65536) (x * 65536) (y * 65536) = u * 65536 := by
    unfold xMap
    rw [mul16, mul16, show s0 * x * 4294967296 + s2 * y * 4294967296 = (u - s4) * 65536 * 65536 by omega, even16_exact]
    omega
  have hy : yMap (s0 * 65536) (s1 * 65536) (s2 * 65536) (s3 * 65536) (s4 * 65536) (s5 * 65536) (x * 65536) (y * 65536) = v * 65536 := by
    unfold yMap
    rw [mul16, mul16, show s1 * x * 4294967296 + s3 * y * 4294967296 = (v - s5) * 65536 * 65536 by omega, even16_exact]
    omega
  have hb : bMap (s0 * 65536) (s1 * 65536) (s2 * 65536) (s3 * 65536) (s4 * 65536) (s5 * 65536) (x * 65536) (y * 65536) = true := by unfold bMap; rw [hx, hy]; exact nearB_true (by omega) (by omega)
  have := Map_yes (s0 * 65536) (s1 * 65536) (s2 * 65536) (s3 * 65536) (s4 * 65536) (s5 * 65536) (x * 65536) (y * 65536) W (goodB_true (mayB_true (by omega) (by omega) (by omega) (by omega) (by omega) (by omega)) (by omega) (by omega))
  rw [hb, hx, hy] at this
  exact this

set_option maxRecDepth 100000 in
set_option maxHeartbeats 6400000 in
theorem whole_walk (a0 a1 a2 a3 a4 a5 b0 b1 b2 b3 b4 b5 x0 y0 s0 s1 s2 s3 s4 s5 t0 t1 t2 t3 t4 t5 x y : Int) (w : World) (es0 : a0 % 81 - 40 = s0) (es1 : a1 % 81 - 40 = s1) (es2 : a2 % 81 - 40 = s2) (es3 : a3 % 81 - 40 = s3) (es4 : a4 % 81 - 40 = s4) (es5 : a5 % 81 - 40 = s5) (et0 : b0 % 81 - 40 = t0) (et1 : b1 % 81 - 40 = t1) (et2 : b2 % 81 - 40 = t2) (et3 : b3 % 81 - 40 = t3) (et4 : b4 % 81 - 40 = t4) (et5 : b5 % 81 - 40 = t5) (ex : x0 % 81 - 40 = x) (ey : y0 % 81 - 40 = y) : Calls Try.prog 8 #[.agg #[.int .i64 a0, .int .i64 a1, .int .i64 a2, .int .i64 a3, .int .i64 a4, .int .i64 a5], .agg #[.int .i64 b0, .int .i64 b1, .int .i64 b2, .int .i64 b3, .int .i64 b4, .int .i64 b5], .int .i64 x0, .int .i64 y0] w fun ed w' => ed = .returned (.bool true) ∧ Below w.heap.size w w' := by
  have bs0 : -40 ≤ s0 ∧ s0 ≤ 40 := by omega
  have HSs0 := Lib.hid (fun W => show Calls Try.prog 33 #[.int .i64 a0] W fun ed w' => ed = .returned (.int .i64 s0) ∧ W = w' by have := small_any a0 W; rw [es0] at this; exact this)
  have bs1 : -40 ≤ s1 ∧ s1 ≤ 40 := by omega
  have HSs1 := Lib.hid (fun W => show Calls Try.prog 33 #[.int .i64 a1] W fun ed w' => ed = .returned (.int .i64 s1) ∧ W = w' by have := small_any a1 W; rw [es1] at this; exact this)
  have bs2 : -40 ≤ s2 ∧ s2 ≤ 40 := by omega
  have HSs2 := Lib.hid (fun W => show Calls Try.prog 33 #[.int .i64 a2] W fun ed w' => ed = .returned (.int .i64 s2) ∧ W = w' by have := small_any a2 W; rw [es2] at this; exact this)
  have bs3 : -40 ≤ s3 ∧ s3 ≤ 40 := by omega
  have HSs3 := Lib.hid (fun W => show Calls Try.prog 33 #[.int .i64 a3] W fun ed w' => ed = .returned (.int .i64 s3) ∧ W = w' by have := small_any a3 W; rw [es3] at this; exact this)
  have bs4 : -40 ≤ s4 ∧ s4 ≤ 40 := by omega
  have HSs4 := Lib.hid (fun W => show Calls Try.prog 33 #[.int .i64 a4] W fun ed w' => ed = .returned (.int .i64 s4) ∧ W = w' by have := small_any a4 W; rw [es4] at this; exact this)
  have bs5 : -40 ≤ s5 ∧ s5 ≤ 40 := by omega
  have HSs5 := Lib.hid (fun W => show Calls Try.prog 33 #[.int .i64 a5] W fun ed w' => ed = .returned (.int .i64 s5) ∧ W = w' by have := small_any a5 W; rw [es5] at this; exact this)
  have bt0 : -40 ≤ t0 ∧ t0 ≤ 40 := by omega
  have HSt0 := Lib.hid (fun W => show Calls Try.prog 33 #[.int .i64 b0] W fun ed w' => ed = .returned (.int .i64 t0) ∧ W = w' by have := small_any b0 W; rw [et0] at this; exact this)
  have bt1 : -40 ≤ t1 ∧ t1 ≤ 40 := by omega
  have HSt1 := Lib.hid (fun W => show Calls Try.prog 33 #[.int .i64 b1] W fun ed w' => ed = .returned (.int .i64 t1) ∧ W = w' by have := small_any b1 W; rw [et1] at this; exact this)
  have bt2 : -40 ≤ t2 ∧ t2 ≤ 40 := by omega
  have HSt2 := Lib.hid (fun W => show Calls Try.prog 33 #[.int .i64 b2] W fun ed w' => ed = .returned (.int .i64 t2) ∧ W = w' by have := small_any b2 W; rw [et2] at this; exact this)
  have bt3 : -40 ≤ t3 ∧ t3 ≤ 40 := by omega
  have HSt3 := Lib.hid (fun W => show Calls Try.prog 33 #[.int .i64 b3] W fun ed w' => ed = .returned (.int .i64 t3) ∧ W = w' by have := small_any b3 W; rw [et3] at this; exact this)
  have bt4 : -40 ≤ t4 ∧ t4 ≤ 40 := by omega
  have HSt4 := Lib.hid (fun W => show Calls Try.prog 33 #[.int .i64 b4] W fun ed w' => ed = .returned (.int .i64 t4) ∧ W = w' by have := small_any b4 W; rw [et4] at this; exact this)
  have bt5 : -40 ≤ t5 ∧ t5 ≤ 40 := by omega
  have HSt5 := Lib.hid (fun W => show Calls Try.prog 33 #[.int .i64 b5] W fun ed w' => ed = .returned (.int .i64 t5) ∧ W = w' by have := small_any b5 W; rw [et5] at this; exact this)
  have bx : -40 ≤ x ∧ x ≤ 40 := by omega
  have HSx := Lib.hid (fun W => show Calls Try.prog 33 #[.int .i64 x0] W fun ed w' => ed = .returned (.int .i64 x) ∧ W = w' by have := small_any x0 W; rw [ex] at this; exact this)
  have by0 : -40 ≤ y ∧ y ≤ 40 := by omega
  have HSy := Lib.hid (fun W => show Calls Try.prog 33 #[.int .i64 y0] W fun ed w' => ed = .returned (.int .i64 y) ∧ W = w' by have := small_any y0 W; rw [ey] at this; exact this)
  clear es0 es1 es2 es3 es4 es5 et0 et1 et2 et3 et4 et5 ex ey
  have mps0t0 := mul40 bs0 bt0
  have mps1t2 := mul40 bs1 bt2
  have mps0t1 := mul40 bs0 bt1
  have mps1t3 := mul40 bs1 bt3
  have mps2t0 := mul40 bs2 bt0
  have mps3t2 := mul40 bs3 bt2
  have mps2t1 := mul40 bs2 bt1
  have mps3t3 := mul40 bs3 bt3
  have mps4t0 := mul40 bs4 bt0
  have mps5t2 := mul40 bs5 bt2
  have mps4t1 := mul40 bs4 bt1
  have mps5t3 := mul40 bs5 bt3
  have mps0x := mul40 bs0 bx
  have mps2y := mul40 bs2 by0
  have mps1x := mul40 bs1 bx
  have mps3y := mul40 bs3 by0
  have HW1 := Lib.hid (fun W => Whole_any s0 s1 s2 s3 s4 s5 W (by omega) (by omega) (by omega) (by omega) (by omega) (by omega))
  have HW2 := Lib.hid (fun W => Whole_any t0 t1 t2 t3 t4 t5 W (by omega) (by omega) (by omega) (by omega) (by omega) (by omega))
  have P3 := fun W => Whole_any (s0 * t0 + s1 * t2) (s0 * t1 + s1 * t3) (s2 * t0 + s3 * t2) (s2 * t1 + s3 * t3) (s4 * t0 + s5 * t2 + t4) (s4 * t1 + s5 * t3 + t5) W (by omega) (by omega) (by omega) (by omega) (by omega) (by omega)
  have PX := fun W => mul_whole s0 s1 s2 s3 s4 s5 t0 t1 t2 t3 t4 t5 (s0 * t0 + s1 * t2) (s0 * t1 + s1 * t3) (s2 * t0 + s3 * t2) (s2 * t1 + s3 * t3) (s4 * t0 + s5 * t2 + t4) (s4 * t1 + s5 * t3 + t5) W (by omega) (by omega) (by omega) (by omega) (by omega) (by omega) (by omega) (by omega) (by omega) (by omega) (by omega) (by omega) (by omega) (by omega) (by omega) (by omega) (by omega) (by omega) rfl rfl rfl rfl rfl rfl
  have PP := fun W => point_whole s0 s1 s2 s3 s4 s5 x y W bs0 bs1 bs2 bs3 bs4 bs5 bx by0
  have PV := fun W => whole_vector s0 s1 s2 s3 s4 s5 x y (s0 * x + s2 * y) (s1 * x + s3 * y) W (by omega) (by omega) (by omega) (by omega) (by omega) (by omega) (by omega) (by omega) (by omega) (by omega) rfl rfl
  have PM := fun W => whole_map s0 s1 s2 s3 s4 s5 x y (s0 * x + s2 * y + s4) (s1 * x + s3 * y + s5) W (by omega) (by omega) (by omega) (by omega) (by omega) (by omega) (by omega) (by omega) (by omega) (by omega) rfl rfl
  generalize hps0t0 : s0 * t0 = ps0t0 at *
  generalize hps1t2 : s1 * t2 = ps1t2 at *
  generalize hps0t1 : s0 * t1 = ps0t1 at *
  generalize hps1t3 : s1 * t3 = ps1t3 at *
  generalize hps2t0 : s2 * t0 = ps2t0 at *
  generalize hps3t2 : s3 * t2 = ps3t2 at *
  generalize hps2t1 : s2 * t1 = ps2t1 at *
  generalize hps3t3 : s3 * t3 = ps3t3 at *
  generalize hps4t0 : s4 * t0 = ps4t0 at *
  generalize hps5t2 : s5 * t2 = ps5t2 at *
  generalize hps4t1 : s4 * t1 = ps4t1 at *
  generalize hps5t3 : s5 * t3 = ps5t3 at *
  generalize hps0x : s0 * x = ps0x at *
  generalize hps2y : s2 * y = ps2y at *
  generalize hps1x : s1 * x = ps1x at *
  generalize hps3y : s3 * y = ps3y at *
  have HW3 := Lib.hid P3
  have HX := Lib.hid PX
  have HP := Lib.hid PP
  have HV := Lib.hid PV
  have HM := Lib.hid PM
  clear P3 PX PP PV PM
  obtain ⟨mps0t00, mps0t01⟩ := mps0t0
  obtain ⟨mps1t20, mps1t21⟩ := mps1t2
  obtain ⟨mps0t10, mps0t11⟩ := mps0t1
  obtain ⟨mps1t30, mps1t31⟩ := mps1t3
  obtain ⟨mps2t00, mps2t01⟩ := mps2t0
  obtain ⟨mps3t20, mps3t21⟩ := mps3t2
  obtain ⟨mps2t10, mps2t11⟩ := mps2t1
  obtain ⟨mps3t30, mps3t31⟩ := mps3t3
  obtain ⟨mps4t00, mps4t01⟩ := mps4t0
  obtain ⟨mps5t20, mps5t21⟩ := mps5t2
  obtain ⟨mps4t10, mps4t11⟩ := mps4t1
  obtain ⟨mps5t30, mps5t31⟩ := mps5t3
  obtain ⟨mps0x0, mps0x1⟩ := mps0x
  obtain ⟨mps2y0, mps2y1⟩ := mps2y
  obtain ⟨mps1x0, mps1x1⟩ := mps1x
  obtain ⟨mps3y0, mps3y1⟩ := mps3y
  obtain ⟨bs00, bs01⟩ := bs0
  obtain ⟨bs10, bs11⟩ := bs1
  obtain ⟨bs20, bs21⟩ := bs2
  obtain ⟨bs30, bs31⟩ := bs3
  obtain ⟨bs40, bs41⟩ := bs4
  obtain ⟨bs50, bs51⟩ := bs5
  obtain ⟨bt00, bt01⟩ := bt0
  obtain ⟨bt10, bt11⟩ := bt1
  obtain ⟨bt20, bt21⟩ := bt2
  obtain ⟨bt30, bt31⟩ := bt3
  obtain ⟨bt40, bt41⟩ := bt4
  obtain ⟨bt50, bt51⟩ := bt5
  obtain ⟨bx0, bx1⟩ := bx
  obtain ⟨bY0, bY1⟩ := by0
  have JG := guard_mat
  have JE : ∀ w, (binOp .eql 23 (.agg #[.int .i64 ((ps0t0 + ps1t2) * 65536), .int .i64 ((ps0t1 + ps1t3) * 65536), .int .i64 ((ps2t0 + ps3t2) * 65536), .int .i64 ((ps2t1 + ps3t3) * 65536), .int .i64 ((ps4t0 + ps5t2 + t4) * 65536), .int .i64 ((ps4t1 + ps5t3 + t5) * 65536)]) (.agg #[.int .i64 ((ps0t0 + ps1t2) * 65536), .int .i64 ((ps0t1 + ps1t3) * 65536), .int .i64 ((ps2t0 + ps3t2) * 65536), .int .i64 ((ps2t1 + ps3t3) * 65536), .int .i64 ((ps4t0 + ps5t2 + t4) * 65536), .int .i64 ((ps4t1 + ps5t3 + t5) * 65536)])).run Try.prog w = .ok (.bool true) w := fun w => by
    have := eq_mat ((ps0t0 + ps1t2) * 65536) ((ps0t1 + ps1t3) * 65536) ((ps2t0 + ps3t2) * 65536) ((ps2t1 + ps3t3) * 65536) ((ps4t0 + ps5t2 + t4) * 65536) ((ps4t1 + ps5t3 + t5) * 65536) ((ps0t0 + ps1t2) * 65536) ((ps0t1 + ps1t3) * 65536) ((ps2t0 + ps3t2) * 65536) ((ps2t1 + ps3t3) * 65536) ((ps4t0 + ps5t2 + t4) * 65536) ((ps4t1 + ps5t3 + t5) * 65536) w
    rw [show eqB ((ps0t0 + ps1t2) * 65536) ((ps0t1 + ps1t3) * 65536) ((ps2t0 + ps3t2) * 65536) ((ps2t1 + ps3t3) * 65536) ((ps4t0 + ps5t2 + t4) * 65536) ((ps4t1 + ps5t3 + t5) * 65536) ((ps0t0 + ps1t2) * 65536) ((ps0t1 + ps1t3) * 65536) ((ps2t0 + ps3t2) * 65536) ((ps2t1 + ps3t3) * 65536) ((ps4t0 + ps5t2 + t4) * 65536) ((ps4t1 + ps5t3 + t5) * 65536) = true by unfold eqB; simp] at this
    exact this
  have Ka := (Blk.new w 51 #[.int .i64 a0, .int .i64 a1, .int .i64 a2, .int .i64 a3, .int .i64 a4, .int .i64 a5]).alloc (.cells #[.int .i64 b0, .int .i64 b1, .int .i64 b2, .int .i64 b3, .int .i64 b4, .int .i64 b5] 51)
  have Kb := Blk.new (w.alloc (.cells #[.int .i64 a0, .int .i64 a1, .int .i64 a2, .int .i64 a3, .int .i64 a4, .int .i64 a5] 51)) 51 #[.int .i64 b0, .int .i64 b1, .int .i64 b2, .int .i64 b3, .int .i64 b4, .int .i64 b5]
  have s1 : (w.alloc (.cells #[.int .i64 a0, .int .i64 a1, .int .i64 a2, .int .i64 a3, .int .i64 a4, .int .i64 a5] 51)).heap.size = w.heap.size + 1 := by simp
  rw [s1] at Kb
  clear s1
  go_enter Try.func8, Try.ntmps8
  go_wp2_with fail
  refine (known_any _).mono ?_
  rintro e_ w1 ⟨rfl, hb1⟩
  replace Ka := Ka.below hb1 (by simp; omega)
  replace Kb := Kb.below hb1 (by simp)
  have hbw : Below w.heap.size w w1 := btrans (by (repeat' (first | exact Below.refl _ _ | exact Below.refl _ _ | refine balloc ?_ _ | refine Below.drew ?_ | refine below_drewN ?_ _ | refine bset ?_ (by first | omega | (simp <;> omega)) _))) hb1
  have HK := Lib.hid Ka
  have HL := Lib.hid Kb
  have HBW := Lib.hid hbw
  clear Ka Kb hb1 hbw
  go_wp2_with fail
  go_loopw [9] (fun c wr => ∃ k : Nat, k ≤ 6 ∧ c = .int .i64 k ∧ Blk wr w.heap.size 51 (arrS a0 a1 a2 a3 a4 a5 s0 s1 s2 s3 s4 s5 k) ∧ Blk wr (w.heap.size + 1) 51 (arrS b0 b1 b2 b3 b4 b5 t0 t1 t2 t3 t4 t5 k) ∧ Below w.heap.size w wr) (fun c _ => 6 - (intOf c).toNat)
  case atStart => exact ⟨0, by omega, rfl, HK.out, HL.out, HBW.out⟩
  case round =>
    clear HK HL HBW
    obtain ⟨k, hk, rfl, Ka, Kb, hbw⟩ := hrel
    rcases (show k = 0 ∨ k = 1 ∨ k = 2 ∨ k = 3 ∨ k = 4 ∨ k = 5 ∨ k = 6 by omega) with h | h | h | h | h | h | h <;> subst h
    · have cA := Ka.cell 0
      have cB := Kb.cell 0
      have lA := Ka.lt
      have lB := Kb.lt
      simp only [arrS, List.getElem?_toArray, List.getElem?_cons_succ, List.getElem?_cons_zero] at cA cB
      have HA2 := Lib.hid Ka
      have HB2 := Lib.hid Kb
      have HC2 := Lib.hid hbw
      clear Ka Kb hbw
      go_wp2_with fail
      refine wp_region_late 11 [1] (by kernel_rfl) (by kernel_rfl) (fun d _ _ _ _ h => by cases d <;> exact h) ?_
      intro u0
      have uA : ∀ u : Up u0.val, u.val.cell? ⟨w.heap.size, 0, none⟩ = some (.int .i64 a0) := fun u => ((u.cell (Nat.lt_of_lt_of_le lA u0.ok.size)).trans (u0.cell lA)).trans cA
      have uB : ∀ u : Up u0.val, u.val.cell? ⟨w.heap.size + 1, 0, none⟩ = some (.int .i64 b0) := fun u => ((u.cell (Nat.lt_of_lt_of_le lB u0.ok.size)).trans (u0.cell lB)).trans cB
      have HU1 := Lib.hid (fun u : Up u0.val => up_same (u := u) (HSs0.out u.val))
      have HU2 := Lib.hid (fun u : Up u0.val => up_same (u := u) (HSt0.out u.val))
      simp only [List.take_succ_cons, List.take_zero, List.drop_succ_cons, List.drop_zero]
      repeat (go_big_quiet_step (fail))
      go_big_quiet_step (exact HU1.out _)
      repeat (go_big_quiet_step (fail))
      go_big_quiet_step (exact HU2.out _)
      repeat (go_big_quiet_step (fail))
      refine wpQuiet_nil ?_
      rintro _ ⟨uq, rfl⟩
      have Ka := HA2.out.below uq.ok lA
      have Kb := HB2.out.below uq.ok lB
      have hbw := btrans HC2.out uq.ok
      generalize hwx : uq.val = wx at *
      clear hwx uq u0 uA uB HU1 HU2 HA2 HB2 HC2 cA cB lA lB
      have cA := Ka.cell 0
      have cB := Kb.cell 0
      have fA := Ka.frozen 0
      have fB := Kb.frozen 0
      simp only [arrS, List.getElem?_toArray, List.getElem?_cons_succ, List.getElem?_cons_zero] at cA cB
      have HN := Lib.hid ((Ka.set_ 0 (.int .i64 s0)).far (p := ⟨w.heap.size + 1, 0, none⟩) (show w.heap.size ≠ w.heap.size + 1 by omega) (.int .i64 t0))
      have HM2 := Lib.hid ((Kb.far (p := ⟨w.heap.size, 0, none⟩) (show w.heap.size + 1 ≠ w.heap.size by omega) (.int .i64 s0)).set_ 0 (.int .i64 t0))
      have HC2 := Lib.hid hbw
      clear Ka Kb hbw
      go_wp2_with fail
      go_roundw
      case rel => exact ⟨1, by omega, rfl, HN.out, HM2.out, bset (bset HC2.out (Nat.le_refl _) _) (Nat.le_succ _) _⟩
      case measure => simp [intOf]
    · have cA := Ka.cell 1
      have cB := Kb.cell 1
      have lA := Ka.lt
      have lB := Kb.lt
      simp only [arrS, List.getElem?_toArray, List.getElem?_cons_succ, List.getElem?_cons_zero] at cA cB
      have HA2 := Lib.hid Ka
      have HB2 := Lib.hid Kb
      have HC2 := Lib.hid hbw
      clear Ka Kb hbw
      go_wp2_with fail
      refine wp_region_late 11 [1] (by kernel_rfl) (by kernel_rfl) (fun d _ _ _ _ h => by cases d <;> exact h) ?_
      intro u0
      have uA : ∀ u : Up u0.val, u.val.cell? ⟨w.heap.size, 1, none⟩ = some (.int .i64 a1) := fun u => ((u.cell (Nat.lt_of_lt_of_le lA u0.ok.size)).trans (u0.cell lA)).trans cA
      have uB : ∀ u : Up u0.val, u.val.cell? ⟨w.heap.size + 1, 1, none⟩ = some (.int .i64 b1) := fun u => ((u.cell (Nat.lt_of_lt_of_le lB u0.ok.size)).trans (u0.cell lB)).trans cB
      have HU1 := Lib.hid (fun u : Up u0.val => up_same (u := u) (HSs1.out u.val))
      have HU2 := Lib.hid (fun u : Up u0.val => up_same (u := u) (HSt1.out u.val))
      simp only [List.take_succ_cons, List.take_zero, List.drop_succ_cons, List.drop_zero]
      repeat (go_big_quiet_step (fail))
      go_big_quiet_step (exact HU1.out _)
      repeat (go_big_quiet_step (fail))
      go_big_quiet_step (exact HU2.out _)
      repeat (go_big_quiet_step (fail))
      refine wpQuiet_nil ?_
      rintro _ ⟨uq, rfl⟩
      have Ka := HA2.out.below uq.ok lA
      have Kb := HB2.out.below uq.ok lB
      have hbw := btrans HC2.out uq.ok
      generalize hwx : uq.val = wx at *
      clear hwx uq u0 uA uB HU1 HU2 HA2 HB2 HC2 cA cB lA lB
      have cA := Ka.cell 1
      have cB := Kb.cell 1
      have fA := Ka.frozen 1
      have fB := Kb.frozen 1
      simp only [arrS, List.getElem?_toArray, List.getElem?_cons_succ, List.getElem?_cons_zero] at cA cB
      have HN := Lib.hid ((Ka.set_ 1 (.int .i64 s1)).far (p := ⟨w.heap.size + 1, 1, none⟩) (show w.heap.size ≠ w.heap.size + 1 by omega) (.int .i64 t1))
      have HM2 := Lib.hid ((Kb.far (p := ⟨w.heap.size, 1, none⟩) (show w.heap.size + 1 ≠ w.heap.size by omega) (.int .i64 s1)).set_ 1 (.int .i64 t1))
      have HC2 := Lib.hid hbw
      clear Ka Kb hbw
      go_wp2_with fail
      go_roundw
      case rel => exact ⟨2, by omega, rfl, HN.out, HM2.out, bset (bset HC2.out (Nat.le_refl _) _) (Nat.le_succ _) _⟩
      case measure => simp [intOf]
    · have cA := Ka.cell 2
      have cB := Kb.cell 2
      have lA := Ka.lt
      have lB := Kb.lt
      simp only [arrS, List.getElem?_toArray, List.getElem?_cons_succ, List.getElem?_cons_zero] at cA cB
      have HA2 := Lib.hid Ka
      have HB2 := Lib.hid Kb
      have HC2 := Lib.hid hbw
      clear Ka Kb hbw
      go_wp2_with fail
      refine wp_region_late 11 [1] (by kernel_rfl) (by kernel_rfl) (fun d _ _ _ _ h => by cases d <;> exact h) ?_
      intro u0
      have uA : ∀ u : Up u0.val, u.val.cell? ⟨w.heap.size, 2, none⟩ = some (.int .i64 a2) := fun u => ((u.cell (Nat.lt_of_lt_of_le lA u0.ok.size)).trans (u0.cell lA)).trans cA
      have uB : ∀ u : Up u0.val, u.val.cell? ⟨w.heap.size + 1, 2, none⟩ = some (.int .i64 b2) := fun u => ((u.cell (Nat.lt_of_lt_of_le lB u0.ok.size)).trans (u0.cell lB)).trans cB
      have HU1 := Lib.hid (fun u : Up u0.val => up_same (u := u) (HSs2.out u.val))
      have HU2 := Lib.hid (fun u : Up u0.val => up_same (u := u) (HSt2.out u.val))
      simp only [List.take_succ_cons, List.take_zero, List.drop_succ_cons, List.drop_zero]
      repeat (go_big_quiet_step (fail))
      go_big_quiet_step (exact HU1.out _)
      repeat (go_big_quiet_step (fail))
      go_big_quiet_step (exact HU2.out _)
      repeat (go_big_quiet_step (fail))
      refine wpQuiet_nil ?_
      rintro _ ⟨uq, rfl⟩
      have Ka := HA2.out.below uq.ok lA
      have Kb := HB2.out.below uq.ok lB
      have hbw := btrans HC2.out uq.ok
      generalize hwx : uq.val = wx at *
      clear hwx uq u0 uA uB HU1 HU2 HA2 HB2 HC2 cA cB lA lB
      have cA := Ka.cell 2
      have cB := Kb.cell 2
      have fA := Ka.frozen 2
      have fB := Kb.frozen 2
      simp only [arrS, List.getElem?_toArray, List.getElem?_cons_succ, List.getElem?_cons_zero] at cA cB
      have HN := Lib.hid ((Ka.set_ 2 (.int .i64 s2)).far (p := ⟨w.heap.size + 1, 2, none⟩) (show w.heap.size ≠ w.heap.size + 1 by omega) (.int .i64 t2))
      have HM2 := Lib.hid ((Kb.far (p := ⟨w.heap.size, 2, none⟩) (show w.heap.size + 1 ≠ w.heap.size by omega) (.int .i64 s2)).set_ 2 (.int .i64 t2))
      have HC2 := Lib.hid hbw
      clear Ka Kb hbw
      go_wp2_with fail
      go_roundw
      case rel => exact ⟨3, by omega, rfl, HN.out, HM2.out, bset (bset HC2.out (Nat.le_refl _) _) (Nat.le_succ _) _⟩
      case measure => simp [intOf]
    · have cA := Ka.cell 3
      have cB := Kb.cell 3
      have lA := Ka.lt
      have lB := Kb.lt
      simp only [arrS, List.getElem?_toArray, List.getElem?_cons_succ, List.getElem?_cons_zero] at cA cB
      have HA2 := Lib.hid Ka
      have HB2 := Lib.hid Kb
      have HC2 := Lib.hid hbw
      clear Ka Kb hbw
      go_wp2_with fail
      refine wp_region_late 11 [1] (by kernel_rfl) (by kernel_rfl) (fun d _ _ _ _ h => by cases d <;> exact h) ?_
      intro u0
      have uA : ∀ u : Up u0.val, u.val.cell? ⟨w.heap.size, 3, none⟩ = some (.int .i64 a3) := fun u => ((u.cell (Nat.lt_of_lt_of_le lA u0.ok.size)).trans (u0.cell lA)).trans cA
      have uB : ∀ u : Up u0.val, u.val.cell? ⟨w.heap.size + 1, 3, none⟩ = some (.int .i64 b3) := fun u => ((u.cell (Nat.lt_of_lt_of_le lB u0.ok.size)).trans (u0.cell lB)).trans cB
      have HU1 := Lib.hid (fun u : Up u0.val => up_same (u := u) (HSs3.out u.val))
      have HU2 := Lib.hid (fun u : Up u0.val => up_same (u := u) (HSt3.out u.val))
      simp only [List.take_succ_cons, List.take_zero, List.drop_succ_cons, List.drop_zero]
      repeat (go_big_quiet_step (fail))
      go_big_quiet_step (exact HU1.out _)
      repeat (go_big_quiet_step (fail))
      go_big_quiet_step (exact HU2.out _)
      repeat (go_big_quiet_step (fail))
      refine wpQuiet_nil ?_
      rintro _ ⟨uq, rfl⟩
      have Ka := HA2.out.below uq.ok lA
      have Kb := HB2.out.below uq.ok lB
      have hbw := btrans HC2.out uq.ok
      generalize hwx : uq.val = wx at *
      clear hwx uq u0 uA uB HU1 HU2 HA2 HB2 HC2 cA cB lA lB
      have cA := Ka.cell 3
      have cB := Kb.cell 3
      have fA := Ka.frozen 3
      have fB := Kb.frozen 3
      simp only [arrS, List.getElem?_toArray, List.getElem?_cons_succ, List.getElem?_cons_zero] at cA cB
      have HN := Lib.hid ((Ka.set_ 3 (.int .i64 s3)).far (p := ⟨w.heap.size + 1, 3, none⟩) (show w.heap.size ≠ w.heap.size + 1 by omega) (.int .i64 t3))
      have HM2 := Lib.hid ((Kb.far (p := ⟨w.heap.size, 3, none⟩) (show w.heap.size + 1 ≠ w.heap.size by omega) (.int .i64 s3)).set_ 3 (.int .i64 t3))
      have HC2 := Lib.hid hbw
      clear Ka Kb hbw
      go_wp2_with fail
      go_roundw
      case rel => exact ⟨4, by omega, rfl, HN.out, HM2.out, bset (bset HC2.out (Nat.le_refl _) _) (Nat.le_succ _) _⟩
      case measure => simp [intOf]
    · have cA := Ka.cell 4
      have cB := Kb.cell 4
      have lA := Ka.lt
      have lB := Kb.lt
      simp only [arrS, List.getElem?_toArray, List.getElem?_cons_succ, List.getElem?_cons_zero] at cA cB
      have HA2 := Lib.hid Ka
      have HB2 := Lib.hid Kb
      have HC2 := Lib.hid hbw
      clear Ka Kb hbw
      go_wp2_with fail
      refine wp_region_late 11 [1] (by kernel_rfl) (by kernel_rfl) (fun d _ _ _ _ h => by cases d <;> exact h) ?_
      intro u0
      have uA : ∀ u : Up u0.val, u.val.cell? ⟨w.heap.size, 4, none⟩ = some (.int .i64 a4) := fun u => ((u.cell (Nat.lt_of_lt_of_le lA u0.ok.size)).trans (u0.cell lA)).trans cA
      have uB : ∀ u : Up u0.val, u.val.cell? ⟨w.heap.size + 1, 4, none⟩ = some (.int .i64 b4) := fun u => ((u.cell (Nat.lt_of_lt_of_le lB u0.ok.size)).trans (u0.cell lB)).trans cB
      have HU1 := Lib.hid (fun u : Up u0.val => up_same (u := u) (HSs4.out u.val))
      have HU2 := Lib.hid (fun u : Up u0.val => up_same (u := u) (HSt4.out u.val))
      simp only [List.take_succ_cons, List.take_zero, List.drop_succ_cons, List.drop_zero]
      repeat (go_big_quiet_step (fail))
      go_big_quiet_step (exact HU1.out _)
      repeat (go_big_quiet_step (fail))
      go_big_quiet_step (exact HU2.out _)
      repeat (go_big_quiet_step (fail))
      refine wpQuiet_nil ?_
      rintro _ ⟨uq, rfl⟩
      have Ka := HA2.out.below uq.ok lA
      have Kb := HB2.out.below uq.ok lB
      have hbw := btrans HC2.out uq.ok
      generalize hwx : uq.val = wx at *
      clear hwx uq u0 uA uB HU1 HU2 HA2 HB2 HC2 cA cB lA lB
      have cA := Ka.cell 4
      have cB := Kb.cell 4
      have fA := Ka.frozen 4
      have fB := Kb.frozen 4
      simp only [arrS, List.getElem?_toArray, List.getElem?_cons_succ, List.getElem?_cons_zero] at cA cB
      have HN := Lib.hid ((Ka.set_ 4 (.int .i64 s4)).far (p := ⟨w.heap.size + 1, 4, none⟩) (show w.heap.size ≠ w.heap.size + 1 by omega) (.int .i64 t4))
      have HM2 := Lib.hid ((Kb.far (p := ⟨w.heap.size, 4, none⟩) (show w.heap.size + 1 ≠ w.heap.size by omega) (.int .i64 s4)).set_ 4 (.int .i64 t4))
      have HC2 := Lib.hid hbw
      clear Ka Kb hbw
      go_wp2_with fail
      go_roundw
      case rel => exact ⟨5, by omega, rfl, HN.out, HM2.out, bset (bset HC2.out (Nat.le_refl _) _) (Nat.le_succ _) _⟩
      case measure => simp [intOf]
    · have cA := Ka.cell 5
      have cB := Kb.cell 5
      have lA := Ka.lt
      have lB := Kb.lt
      simp only [arrS, List.getElem?_toArray, List.getElem?_cons_succ, List.getElem?_cons_zero] at cA cB
      have HA2 := Lib.hid Ka
      have HB2 := Lib.hid Kb
      have HC2 := Lib.hid hbw
      clear Ka Kb hbw
      go_wp2_with fail
      refine wp_region_late 11 [1] (by kernel_rfl) (by kernel_rfl) (fun d _ _ _ _ h => by cases d <;> exact h) ?_
      intro u0
      have uA : ∀ u : Up u0.val, u.val.cell? ⟨w.heap.size, 5, none⟩ = some (.int .i64 a5) := fun u => ((u.cell (Nat.lt_of_lt_of_le lA u0.ok.size)).trans (u0.cell lA)).trans cA
      have uB : ∀ u : Up u0.val, u.val.cell? ⟨w.heap.size + 1, 5, none⟩ = some (.int .i64 b5) := fun u => ((u.cell (Nat.lt_of_lt_of_le lB u0.ok.size)).trans (u0.cell lB)).trans cB
      have HU1 := Lib.hid (fun u : Up u0.val => up_same (u := u) (HSs5.out u.val))
      have HU2 := Lib.hid (fun u : Up u0.val => up_same (u := u) (HSt5.out u.val))
      simp only [List.take_succ_cons, List.take_zero, List.drop_succ_cons, List.drop_zero]
      repeat (go_big_quiet_step (fail))
      go_big_quiet_step (exact HU1.out _)
      repeat (go_big_quiet_step (fail))
      go_big_quiet_step (exact HU2.out _)
      repeat (go_big_quiet_step (fail))
      refine wpQuiet_nil ?_
      rintro _ ⟨uq, rfl⟩
      have Ka := HA2.out.below uq.ok lA
      have Kb := HB2.out.below uq.ok lB
      have hbw := btrans HC2.out uq.ok
      generalize hwx : uq.val = wx at *
      clear hwx uq u0 uA uB HU1 HU2 HA2 HB2 HC2 cA cB lA lB
      have cA := Ka.cell 5
      have cB := Kb.cell 5
      have fA := Ka.frozen 5
      have fB := Kb.frozen 5
      simp only [arrS, List.getElem?_toArray, List.getElem?_cons_succ, List.getElem?_cons_zero] at cA cB
      have HN := Lib.hid ((Ka.set_ 5 (.int .i64 s5)).far (p := ⟨w.heap.size + 1, 5, none⟩) (show w.heap.size ≠ w.heap.size + 1 by omega) (.int .i64 t5))
      have HM2 := Lib.hid ((Kb.far (p := ⟨w.heap.size, 5, none⟩) (show w.heap.size + 1 ≠ w.heap.size by omega) (.int .i64 s5)).set_ 5 (.int .i64 t5))
      have HC2 := Lib.hid hbw
      clear Ka Kb hbw
      go_wp2_with fail
      go_roundw
      case rel => exact ⟨6, by omega, rfl, HN.out, HM2.out, bset (bset HC2.out (Nat.le_refl _) _) (Nat.le_succ _) _⟩
      case measure => simp [intOf]
    · replace Ka : Blk wr w.heap.size 51 #[.int .i64 s0, .int .i64 s1, .int .i64 s2, .int .i64 s3, .int .i64 s4, .int .i64 s5] := Ka
      replace Kb : Blk wr (w.heap.size + 1) 51 #[.int .i64 t0, .int .i64 t1, .int .i64 t2, .int .i64 t3, .int .i64 t4, .int .i64 t5] := Kb

      have lKa := Ka.lt
      have cKa0 := Ka.cell 0
      have cKa1 := Ka.cell 1
      have cKa2 := Ka.cell 2
      have cKa3 := Ka.cell 3
      have cKa4 := Ka.cell 4
      have cKa5 := Ka.cell 5
      have lKb := Kb.lt
      have cKb0 := Kb.cell 0
      have cKb1 := Kb.cell 1
      have cKb2 := Kb.cell 2
      have cKb3 := Kb.cell 3
      have cKb4 := Kb.cell 4
      have cKb5 := Kb.cell 5
      simp only [List.getElem?_toArray, List.getElem?_cons_succ, List.getElem?_cons_zero] at cKa0 cKa1 cKa2 cKa3 cKa4 cKa5 cKb0 cKb1 cKb2 cKb3 cKb4 cKb5
      go_wp2_with fail
      refine (HSx.out _).mono ?_
      rintro e_ w_ ⟨rfl, rfl⟩
      go_wp2_with fail
      refine (HSy.out _).mono ?_
      rintro e_ w_ ⟨rfl, rfl⟩
      go_wp2_with fail
      refine wp_region_alloc2 26 [] (.cells #[.int .i64 0, .int .i64 0, .int .i64 0, .int .i64 0, .int .i64 0, .int .i64 0] 23) (.cells #[.int .i64 0, .int .i64 0, .int .i64 0, .int .i64 0, .int .i64 0, .int .i64 0] 23) _ _ (by kernel_rfl) (by kernel_rfl) (fun d _ _ _ _ h => by cases d <;> exact h) rfl rfl (fun ρ w => alloc_mat _ _ _ _ _ ρ w) (fun ρ w => alloc_mat _ _ _ _ _ ρ w) ?_
      intro u0
      have uKa0 : ∀ u : Up u0.val, u.val.cell? ⟨w.heap.size, 0, none⟩ = some (.int .i64 s0) := fun u => ((u.cell (Nat.lt_of_lt_of_le lKa u0.ok.size)).trans (u0.cell lKa)).trans cKa0
      have uKa1 : ∀ u : Up u0.val, u.val.cell? ⟨w.heap.size, 1, none⟩ = some (.int .i64 s1) := fun u => ((u.cell (Nat.lt_of_lt_of_le lKa u0.ok.size)).trans (u0.cell lKa)).trans cKa1
      have uKa2 : ∀ u : Up u0.val, u.val.cell? ⟨w.heap.size, 2, none⟩ = some (.int .i64 s2) := fun u => ((u.cell (Nat.lt_of_lt_of_le lKa u0.ok.size)).trans (u0.cell lKa)).trans cKa2
      have uKa3 : ∀ u : Up u0.val, u.val.cell? ⟨w.heap.size, 3, none⟩ = some (.int .i64 s3) := fun u => ((u.cell (Nat.lt_of_lt_of_le lKa u0.ok.size)).trans (u0.cell lKa)).trans cKa3
      have uKa4 : ∀ u : Up u0.val, u.val.cell? ⟨w.heap.size, 4, none⟩ = some (.int .i64 s4) := fun u => ((u.cell (Nat.lt_of_lt_of_le lKa u0.ok.size)).trans (u0.cell lKa)).trans cKa4
      have uKa5 : ∀ u : Up u0.val, u.val.cell? ⟨w.heap.size, 5, none⟩ = some (.int .i64 s5) := fun u => ((u.cell (Nat.lt_of_lt_of_le lKa u0.ok.size)).trans (u0.cell lKa)).trans cKa5
      have uKb0 : ∀ u : Up u0.val, u.val.cell? ⟨(w.heap.size + 1), 0, none⟩ = some (.int .i64 t0) := fun u => ((u.cell (Nat.lt_of_lt_of_le lKb u0.ok.size)).trans (u0.cell lKb)).trans cKb0
      have uKb1 : ∀ u : Up u0.val, u.val.cell? ⟨(w.heap.size + 1), 1, none⟩ = some (.int .i64 t1) := fun u => ((u.cell (Nat.lt_of_lt_of_le lKb u0.ok.size)).trans (u0.cell lKb)).trans cKb1
      have uKb2 : ∀ u : Up u0.val, u.val.cell? ⟨(w.heap.size + 1), 2, none⟩ = some (.int .i64 t2) := fun u => ((u.cell (Nat.lt_of_lt_of_le lKb u0.ok.size)).trans (u0.cell lKb)).trans cKb2
      have uKb3 : ∀ u : Up u0.val, u.val.cell? ⟨(w.heap.size + 1), 3, none⟩ = some (.int .i64 t3) := fun u => ((u.cell (Nat.lt_of_lt_of_le lKb u0.ok.size)).trans (u0.cell lKb)).trans cKb3
      have uKb4 : ∀ u : Up u0.val, u.val.cell? ⟨(w.heap.size + 1), 4, none⟩ = some (.int .i64 t4) := fun u => ((u.cell (Nat.lt_of_lt_of_le lKb u0.ok.size)).trans (u0.cell lKb)).trans cKb4
      have uKb5 : ∀ u : Up u0.val, u.val.cell? ⟨(w.heap.size + 1), 5, none⟩ = some (.int .i64 t5) := fun u => ((u.cell (Nat.lt_of_lt_of_le lKb u0.ok.size)).trans (u0.cell lKb)).trans cKb5
      have HU1 := Lib.hid (fun u : Up u0.val => up_of (u := u) (HW1.out u.val))
      have HU2 := Lib.hid (fun u : Up u0.val => up_of (u := u) (HW2.out u.val))
      simp only [List.take_succ_cons, List.take_zero, List.drop_succ_cons, List.drop_zero]
      repeat (go_big_quiet_step (fail))
      go_big_quiet_step (exact HU1.out _)
      repeat (go_big_quiet_step (fail))
      go_big_quiet_step (exact HU2.out _)
      repeat (go_big_quiet_step (fail))
      refine wpQuiet_nil ?_
      rintro _ ⟨uq, rfl⟩ Pm Pn ⟨hl_Pm, hm_Pm, Km⟩ ⟨hl_Pn, hm_Pn, Kn⟩ hne0
      replace Km : Blk uq.val Pm 23 #[.int .i64 0, .int .i64 0, .int .i64 0, .int .i64 0, .int .i64 0, .int .i64 0] := Km
      replace Kn : Blk uq.val Pn 23 #[.int .i64 0, .int .i64 0, .int .i64 0, .int .i64 0, .int .i64 0, .int .i64 0] := Kn
      replace Ka := Ka.below uq.ok lKa
      replace Kb := Kb.below uq.ok lKb
      have hd_KaPm : w.heap.size ≠ Pm := by have := lKa; omega
      have hd_KaPn : w.heap.size ≠ Pn := by have := lKa; omega
      have hd_KbPm : (w.heap.size + 1) ≠ Pm := by have := lKb; omega
      have hd_KbPn : (w.heap.size + 1) ≠ Pn := by have := lKb; omega
      have hs_w21 := hbw.size
      replace hbw := btrans hbw uq.ok
      simp only [Act.put]
      generalize hwx : uq.val = w21 at *
      clear hwx uq u0 uKa0 uKa1 uKa2 uKa3 uKa4 uKa5 uKb0 uKb1 uKb2 uKb3 uKb4 uKb5 HU1 HU2 lKa cKa0 cKa1 cKa2 cKa3 cKa4 cKa5 lKb cKb0 cKb1 cKb2 cKb3 cKb4 cKb5
      have zKm0 := Km.cell 0
      have zfKm0 := Km.frozen 0
      have zKm1 := Km.cell 1
      have zfKm1 := Km.frozen 1
      have zKm2 := Km.cell 2
      have zfKm2 := Km.frozen 2
      have zKm3 := Km.cell 3
      have zfKm3 := Km.frozen 3
      have zKm4 := Km.cell 4
      have zfKm4 := Km.frozen 4
      have zKm5 := Km.cell 5
      have zfKm5 := Km.frozen 5
      have zKn0 := Kn.cell 0
      have zfKn0 := Kn.frozen 0
      have zKn1 := Kn.cell 1
      have zfKn1 := Kn.frozen 1
      have zKn2 := Kn.cell 2
      have zfKn2 := Kn.frozen 2
      have zKn3 := Kn.cell 3
      have zfKn3 := Kn.frozen 3
      have zKn4 := Kn.cell 4
      have zfKn4 := Kn.frozen 4
      have zKn5 := Kn.cell 5
      have zfKn5 := Kn.frozen 5
      simp only [List.getElem?_toArray, List.getElem?_cons_succ, List.getElem?_cons_zero] at zKm0 zKm1 zKm2 zKm3 zKm4 zKm5 zKn0 zKn1 zKn2 zKn3 zKn4 zKn5
      refine wpList_stop fun Kx HKx => ?_
      go_wp2_with fail
      replace Ka := ((((((((((((Ka.far (p := ⟨Pm, 0, none⟩) hd_KaPm (.int .i64 (s0 * 65536))).far (p := ⟨Pm, 1, none⟩) hd_KaPm (.int .i64 (s1 * 65536))).far (p := ⟨Pm, 2, none⟩) hd_KaPm (.int .i64 (s2 * 65536))).far (p := ⟨Pm, 3, none⟩) hd_KaPm (.int .i64 (s3 * 65536))).far (p := ⟨Pm, 4, none⟩) hd_KaPm (.int .i64 (s4 * 65536))).far (p := ⟨Pm, 5, none⟩) hd_KaPm (.int .i64 (s5 * 65536))).far (p := ⟨Pn, 0, none⟩) hd_KaPn (.int .i64 (t0 * 65536))).far (p := ⟨Pn, 1, none⟩) hd_KaPn (.int .i64 (t1 * 65536))).far (p := ⟨Pn, 2, none⟩) hd_KaPn (.int .i64 (t2 * 65536))).far (p := ⟨Pn, 3, none⟩) hd_KaPn (.int .i64 (t3 * 65536))).far (p := ⟨Pn, 4, none⟩) hd_KaPn (.int .i64 (t4 * 65536))).far (p := ⟨Pn, 5, none⟩) hd_KaPn (.int .i64 (t5 * 65536)))
      replace Kb := ((((((((((((Kb.far (p := ⟨Pm, 0, none⟩) hd_KbPm (.int .i64 (s0 * 65536))).far (p := ⟨Pm, 1, none⟩) hd_KbPm (.int .i64 (s1 * 65536))).far (p := ⟨Pm, 2, none⟩) hd_KbPm (.int .i64 (s2 * 65536))).far (p := ⟨Pm, 3, none⟩) hd_KbPm (.int .i64 (s3 * 65536))).far (p := ⟨Pm, 4, none⟩) hd_KbPm (.int .i64 (s4 * 65536))).far (p := ⟨Pm, 5, none⟩) hd_KbPm (.int .i64 (s5 * 65536))).far (p := ⟨Pn, 0, none⟩) hd_KbPn (.int .i64 (t0 * 65536))).far (p := ⟨Pn, 1, none⟩) hd_KbPn (.int .i64 (t1 * 65536))).far (p := ⟨Pn, 2, none⟩) hd_KbPn (.int .i64 (t2 * 65536))).far (p := ⟨Pn, 3, none⟩) hd_KbPn (.int .i64 (t3 * 65536))).far (p := ⟨Pn, 4, none⟩) hd_KbPn (.int .i64 (t4 * 65536))).far (p := ⟨Pn, 5, none⟩) hd_KbPn (.int .i64 (t5 * 65536)))
      replace Km : Blk _ Pm 23 #[.int .i64 (s0 * 65536), .int .i64 (s1 * 65536), .int .i64 (s2 * 65536), .int .i64 (s3 * 65536), .int .i64 (s4 * 65536), .int .i64 (s5 * 65536)] := ((((((((((((Km.set_ 0 (.int .i64 (s0 * 65536))).set_ 1 (.int .i64 (s1 * 65536))).set_ 2 (.int .i64 (s2 * 65536))).set_ 3 (.int .i64 (s3 * 65536))).set_ 4 (.int .i64 (s4 * 65536))).set_ 5 (.int .i64 (s5 * 65536))).far (p := ⟨Pn, 0, none⟩) (show Pm ≠ Pn by omega) (.int .i64 (t0 * 65536))).far (p := ⟨Pn, 1, none⟩) (show Pm ≠ Pn by omega) (.int .i64 (t1 * 65536))).far (p := ⟨Pn, 2, none⟩) (show Pm ≠ Pn by omega) (.int .i64 (t2 * 65536))).far (p := ⟨Pn, 3, none⟩) (show Pm ≠ Pn by omega) (.int .i64 (t3 * 65536))).far (p := ⟨Pn, 4, none⟩) (show Pm ≠ Pn by omega) (.int .i64 (t4 * 65536))).far (p := ⟨Pn, 5, none⟩) (show Pm ≠ Pn by omega) (.int .i64 (t5 * 65536)))
      replace Kn : Blk _ Pn 23 #[.int .i64 (t0 * 65536), .int .i64 (t1 * 65536), .int .i64 (t2 * 65536), .int .i64 (t3 * 65536), .int .i64 (t4 * 65536), .int .i64 (t5 * 65536)] := ((((((((((((Kn.far (p := ⟨Pm, 0, none⟩) (show Pn ≠ Pm by omega) (.int .i64 (s0 * 65536))).far (p := ⟨Pm, 1, none⟩) (show Pn ≠ Pm by omega) (.int .i64 (s1 * 65536))).far (p := ⟨Pm, 2, none⟩) (show Pn ≠ Pm by omega) (.int .i64 (s2 * 65536))).far (p := ⟨Pm, 3, none⟩) (show Pn ≠ Pm by omega) (.int .i64 (s3 * 65536))).far (p := ⟨Pm, 4, none⟩) (show Pn ≠ Pm by omega) (.int .i64 (s4 * 65536))).far (p := ⟨Pm, 5, none⟩) (show Pn ≠ Pm by omega) (.int .i64 (s5 * 65536))).set_ 0 (.int .i64 (t0 * 65536))).set_ 1 (.int .i64 (t1 * 65536))).set_ 2 (.int .i64 (t2 * 65536))).set_ 3 (.int .i64 (t3 * 65536))).set_ 4 (.int .i64 (t4 * 65536))).set_ 5 (.int .i64 (t5 * 65536)))
      have hq_Pm : w.heap.size ≤ Pm := by omega
      have hq_Pn : w.heap.size ≤ Pn := by omega
      replace hbw : Below w.heap.size w ((((((((((((w21.setCell ⟨Pm, 0, none⟩ (.int .i64 (s0 * 65536))).setCell ⟨Pm, 1, none⟩ (.int .i64 (s1 * 65536))).setCell ⟨Pm, 2, none⟩ (.int .i64 (s2 * 65536))).setCell ⟨Pm, 3, none⟩ (.int .i64 (s3 * 65536))).setCell ⟨Pm, 4, none⟩ (.int .i64 (s4 * 65536))).setCell ⟨Pm, 5, none⟩ (.int .i64 (s5 * 65536))).setCell ⟨Pn, 0, none⟩ (.int .i64 (t0 * 65536))).setCell ⟨Pn, 1, none⟩ (.int .i64 (t1 * 65536))).setCell ⟨Pn, 2, none⟩ (.int .i64 (t2 * 65536))).setCell ⟨Pn, 3, none⟩ (.int .i64 (t3 * 65536))).setCell ⟨Pn, 4, none⟩ (.int .i64 (t4 * 65536))).setCell ⟨Pn, 5, none⟩ (.int .i64 (t5 * 65536))) := by (repeat' (first | refine bset ?_ (by first | omega | (simp <;> omega)) _ | refine balloc ?_ _ | refine Below.drew ?_ | refine below_drewN ?_ _ | exact hbw | exact Below.refl _ _))
      generalize hwx : ((((((((((((w21.setCell ⟨Pm, 0, none⟩ (.int .i64 (s0 * 65536))).setCell ⟨Pm, 1, none⟩ (.int .i64 (s1 * 65536))).setCell ⟨Pm, 2, none⟩ (.int .i64 (s2 * 65536))).setCell ⟨Pm, 3, none⟩ (.int .i64 (s3 * 65536))).setCell ⟨Pm, 4, none⟩ (.int .i64 (s4 * 65536))).setCell ⟨Pm, 5, none⟩ (.int .i64 (s5 * 65536))).setCell ⟨Pn, 0, none⟩ (.int .i64 (t0 * 65536))).setCell ⟨Pn, 1, none⟩ (.int .i64 (t1 * 65536))).setCell ⟨Pn, 2, none⟩ (.int .i64 (t2 * 65536))).setCell ⟨Pn, 3, none⟩ (.int .i64 (t3 * 65536))).setCell ⟨Pn, 4, none⟩ (.int .i64 (t4 * 65536))).setCell ⟨Pn, 5, none⟩ (.int .i64 (t5 * 65536))) = w22 at *
      clear hwx zKm0 zfKm0 zKm1 zfKm1 zKm2 zfKm2 zKm3 zfKm3 zKm4 zfKm4 zKm5 zfKm5 zKn0 zfKn0 zKn1 zfKn1 zKn2 zfKn2 zKn3 zfKn3 zKn4 zfKn4 zKn5 zfKn5 hs_w21 hl_Pm hm_Pm hl_Pn hm_Pn
      have lKa := Ka.lt
      have cKa0 := Ka.cell 0
      have cKa1 := Ka.cell 1
      have cKa2 := Ka.cell 2
      have cKa3 := Ka.cell 3
      have cKa4 := Ka.cell 4
      have cKa5 := Ka.cell 5
      have lKb := Kb.lt
      have cKb0 := Kb.cell 0
      have cKb1 := Kb.cell 1
      have cKb2 := Kb.cell 2
      have cKb3 := Kb.cell 3
      have cKb4 := Kb.cell 4
      have cKb5 := Kb.cell 5
      have lKm := Km.lt
      have cKm0 := Km.cell 0
      have cKm1 := Km.cell 1
      have cKm2 := Km.cell 2
      have cKm3 := Km.cell 3
      have cKm4 := Km.cell 4
      have cKm5 := Km.cell 5
      have lKn := Kn.lt
      have cKn0 := Kn.cell 0
      have cKn1 := Kn.cell 1
      have cKn2 := Kn.cell 2
      have cKn3 := Kn.cell 3
      have cKn4 := Kn.cell 4
      have cKn5 := Kn.cell 5
      simp only [List.getElem?_toArray, List.getElem?_cons_succ, List.getElem?_cons_zero] at cKa0 cKa1 cKa2 cKa3 cKa4 cKa5 cKb0 cKb1 cKb2 cKb3 cKb4 cKb5 cKm0 cKm1 cKm2 cKm3 cKm4 cKm5 cKn0 cKn1 cKn2 cKn3 cKn4 cKn5
      refine HKx.out _ _ ?_
      clear HKx Kx
      go_wp2_with fail
      refine (HX.out _).mono ?_
      rintro e_ w23 ⟨rfl, hb23⟩
      replace Ka := Ka.below hb23 (by first | exact lKa | (have := lKa; simp; omega))
      replace Kb := Kb.below hb23 (by first | exact lKb | (have := lKb; simp; omega))
      replace Km := Km.below hb23 (by first | exact lKm | (have := lKm; simp; omega))
      replace Kn := Kn.below hb23 (by first | exact lKn | (have := lKn; simp; omega))
      replace hbw : Below w.heap.size w w23 := btrans (by (repeat' (first | refine bset ?_ (by first | omega | (simp <;> omega)) _ | refine balloc ?_ _ | refine Below.drew ?_ | refine below_drewN ?_ _ | exact hbw | exact Below.refl _ _))) hb23
      clear hb23 lKa cKa0 cKa1 cKa2 cKa3 cKa4 cKa5 lKb cKb0 cKb1 cKb2 cKb3 cKb4 cKb5 lKm cKm0 cKm1 cKm2 cKm3 cKm4 cKm5 lKn cKn0 cKn1 cKn2 cKn3 cKn4 cKn5
      have lKa := Ka.lt
      have cKa0 := Ka.cell 0
      have cKa1 := Ka.cell 1
      have cKa2 := Ka.cell 2
      have cKa3 := Ka.cell 3
      have cKa4 := Ka.cell 4
      have cKa5 := Ka.cell 5
      have lKb := Kb.lt
      have cKb0 := Kb.cell 0
      have cKb1 := Kb.cell 1
      have cKb2 := Kb.cell 2
      have cKb3 := Kb.cell 3
      have cKb4 := Kb.cell 4
      have cKb5 := Kb.cell 5
      have lKm := Km.lt
      have cKm0 := Km.cell 0
      have cKm1 := Km.cell 1
      have cKm2 := Km.cell 2
      have cKm3 := Km.cell 3
      have cKm4 := Km.cell 4
      have cKm5 := Km.cell 5
      have lKn := Kn.lt
      have cKn0 := Kn.cell 0
      have cKn1 := Kn.cell 1
      have cKn2 := Kn.cell 2
      have cKn3 := Kn.cell 3
      have cKn4 := Kn.cell 4
      have cKn5 := Kn.cell 5
      simp only [List.getElem?_toArray, List.getElem?_cons_succ, List.getElem?_cons_zero] at cKa0 cKa1 cKa2 cKa3 cKa4 cKa5 cKb0 cKb1 cKb2 cKb3 cKb4 cKb5 cKm0 cKm1 cKm2 cKm3 cKm4 cKm5 cKn0 cKn1 cKn2 cKn3 cKn4 cKn5
      go_wp2_with fail
      refine (HW3.out _).mono ?_
      rintro e_ w24 ⟨rfl, hb24⟩
      replace Ka := (Ka.alloc (.cells #[.int .i64 ((ps0t0 + ps1t2) * 65536), .int .i64 ((ps0t1 + ps1t3) * 65536), .int .i64 ((ps2t0 + ps3t2) * 65536), .int .i64 ((ps2t1 + ps3t3) * 65536), .int .i64 ((ps4t0 + ps5t2 + t4) * 65536), .int .i64 ((ps4t1 + ps5t3 + t5) * 65536)] 23)).below hb24 (by first | exact lKa | (have := lKa; simp; omega))
      replace Kb := (Kb.alloc (.cells #[.int .i64 ((ps0t0 + ps1t2) * 65536), .int .i64 ((ps0t1 + ps1t3) * 65536), .int .i64 ((ps2t0 + ps3t2) * 65536), .int .i64 ((ps2t1 + ps3t3) * 65536), .int .i64 ((ps4t0 + ps5t2 + t4) * 65536), .int .i64 ((ps4t1 + ps5t3 + t5) * 65536)] 23)).below hb24 (by first | exact lKb | (have := lKb; simp; omega))
      replace Km := (Km.alloc (.cells #[.int .i64 ((ps0t0 + ps1t2) * 65536), .int .i64 ((ps0t1 + ps1t3) * 65536), .int .i64 ((ps2t0 + ps3t2) * 65536), .int .i64 ((ps2t1 + ps3t3) * 65536), .int .i64 ((ps4t0 + ps5t2 + t4) * 65536), .int .i64 ((ps4t1 + ps5t3 + t5) * 65536)] 23)).below hb24 (by first | exact lKm | (have := lKm; simp; omega))
      replace Kn := (Kn.alloc (.cells #[.int .i64 ((ps0t0 + ps1t2) * 65536), .int .i64 ((ps0t1 + ps1t3) * 65536), .int .i64 ((ps2t0 + ps3t2) * 65536), .int .i64 ((ps2t1 + ps3t3) * 65536), .int .i64 ((ps4t0 + ps5t2 + t4) * 65536), .int .i64 ((ps4t1 + ps5t3 + t5) * 65536)] 23)).below hb24 (by first | exact lKn | (have := lKn; simp; omega))
      have Kp := (Blk.new w23 23 #[.int .i64 ((ps0t0 + ps1t2) * 65536), .int .i64 ((ps0t1 + ps1t3) * 65536), .int .i64 ((ps2t0 + ps3t2) * 65536), .int .i64 ((ps2t1 + ps3t3) * 65536), .int .i64 ((ps4t0 + ps5t2 + t4) * 65536), .int .i64 ((ps4t1 + ps5t3 + t5) * 65536)]).below hb24 (by simp)
      replace hbw : Below w.heap.size w w24 := btrans (by (repeat' (first | refine bset ?_ (by first | omega | (simp <;> omega)) _ | refine balloc ?_ _ | refine Below.drew ?_ | refine below_drewN ?_ _ | exact hbw | exact Below.refl _ _))) hb24
      clear hb24 lKa cKa0 cKa1 cKa2 cKa3 cKa4 cKa5 lKb cKb0 cKb1 cKb2 cKb3 cKb4 cKb5 lKm cKm0 cKm1 cKm2 cKm3 cKm4 cKm5 lKn cKn0 cKn1 cKn2 cKn3 cKn4 cKn5
      have lKa := Ka.lt
      have cKa0 := Ka.cell 0
      have cKa1 := Ka.cell 1
      have cKa2 := Ka.cell 2
      have cKa3 := Ka.cell 3
      have cKa4 := Ka.cell 4
      have cKa5 := Ka.cell 5
      have lKb := Kb.lt
      have cKb0 := Kb.cell 0
      have cKb1 := Kb.cell 1
      have cKb2 := Kb.cell 2
      have cKb3 := Kb.cell 3
      have cKb4 := Kb.cell 4
      have cKb5 := Kb.cell 5
      have lKm := Km.lt
      have cKm0 := Km.cell 0
      have cKm1 := Km.cell 1
      have cKm2 := Km.cell 2
      have cKm3 := Km.cell 3
      have cKm4 := Km.cell 4
      have cKm5 := Km.cell 5
      have lKn := Kn.lt
      have cKn0 := Kn.cell 0
      have cKn1 := Kn.cell 1
      have cKn2 := Kn.cell 2
      have cKn3 := Kn.cell 3
      have cKn4 := Kn.cell 4
      have cKn5 := Kn.cell 5
      have lKp := Kp.lt
      have cKp0 := Kp.cell 0
      have cKp1 := Kp.cell 1
      have cKp2 := Kp.cell 2
      have cKp3 := Kp.cell 3
      have cKp4 := Kp.cell 4
      have cKp5 := Kp.cell 5
      simp only [List.getElem?_toArray, List.getElem?_cons_succ, List.getElem?_cons_zero] at cKa0 cKa1 cKa2 cKa3 cKa4 cKa5 cKb0 cKb1 cKb2 cKb3 cKb4 cKb5 cKm0 cKm1 cKm2 cKm3 cKm4 cKm5 cKn0 cKn1 cKn2 cKn3 cKn4 cKn5 cKp0 cKp1 cKp2 cKp3 cKp4 cKp5
      go_wp2_with fail
      replace Ka := Ka.alloc (.cells #[.int .i64 ((ps0t0 + ps1t2) * 65536), .int .i64 ((ps0t1 + ps1t3) * 65536), .int .i64 ((ps2t0 + ps3t2) * 65536), .int .i64 ((ps2t1 + ps3t3) * 65536), .int .i64 ((ps4t0 + ps5t2 + t4) * 65536), .int .i64 ((ps4t1 + ps5t3 + t5) * 65536)] 23)
      replace Kb := Kb.alloc (.cells #[.int .i64 ((ps0t0 + ps1t2) * 65536), .int .i64 ((ps0t1 + ps1t3) * 65536), .int .i64 ((ps2t0 + ps3t2) * 65536), .int .i64 ((ps2t1 + ps3t3) * 65536), .int .i64 ((ps4t0 + ps5t2 + t4) * 65536), .int .i64 ((ps4t1 + ps5t3 + t5) * 65536)] 23)
      replace Km := Km.alloc (.cells #[.int .i64 ((ps0t0 + ps1t2) * 65536), .int .i64 ((ps0t1 + ps1t3) * 65536), .int .i64 ((ps2t0 + ps3t2) * 65536), .int .i64 ((ps2t1 + ps3t3) * 65536), .int .i64 ((ps4t0 + ps5t2 + t4) * 65536), .int .i64 ((ps4t1 + ps5t3 + t5) * 65536)] 23)
      replace Kn := Kn.alloc (.cells #[.int .i64 ((ps0t0 + ps1t2) * 65536), .int .i64 ((ps0t1 + ps1t3) * 65536), .int .i64 ((ps2t0 + ps3t2) * 65536), .int .i64 ((ps2t1 + ps3t3) * 65536), .int .i64 ((ps4t0 + ps5t2 + t4) * 65536), .int .i64 ((ps4t1 + ps5t3 + t5) * 65536)] 23)
      replace Kp := Kp.alloc (.cells #[.int .i64 ((ps0t0 + ps1t2) * 65536), .int .i64 ((ps0t1 + ps1t3) * 65536), .int .i64 ((ps2t0 + ps3t2) * 65536), .int .i64 ((ps2t1 + ps3t3) * 65536), .int .i64 ((ps4t0 + ps5t2 + t4) * 65536), .int .i64 ((ps4t1 + ps5t3 + t5) * 65536)] 23)
      have Kw := Blk.new w24 23 #[.int .i64 ((ps0t0 + ps1t2) * 65536), .int .i64 ((ps0t1 + ps1t3) * 65536), .int .i64 ((ps2t0 + ps3t2) * 65536), .int .i64 ((ps2t1 + ps3t3) * 65536), .int .i64 ((ps4t0 + ps5t2 + t4) * 65536), .int .i64 ((ps4t1 + ps5t3 + t5) * 65536)]
      replace hbw : Below w.heap.size w (w24.alloc (.cells #[.int .i64 ((ps0t0 + ps1t2) * 65536), .int .i64 ((ps0t1 + ps1t3) * 65536), .int .i64 ((ps2t0 + ps3t2) * 65536), .int .i64 ((ps2t1 + ps3t3) * 65536), .int .i64 ((ps4t0 + ps5t2 + t4) * 65536), .int .i64 ((ps4t1 + ps5t3 + t5) * 65536)] 23)) := by (repeat' (first | refine bset ?_ (by first | omega | (simp <;> omega)) _ | refine balloc ?_ _ | refine Below.drew ?_ | refine below_drewN ?_ _ | exact hbw | exact Below.refl _ _))
      obtain ⟨Pw, hPw⟩ : ∃ P, w24.heap.size = P := ⟨_, rfl⟩
      rw [hPw] at Kw ⊢
      generalize hwx : (w24.alloc (.cells #[.int .i64 ((ps0t0 + ps1t2) * 65536), .int .i64 ((ps0t1 + ps1t3) * 65536), .int .i64 ((ps2t0 + ps3t2) * 65536), .int .i64 ((ps2t1 + ps3t3) * 65536), .int .i64 ((ps4t0 + ps5t2 + t4) * 65536), .int .i64 ((ps4t1 + ps5t3 + t5) * 65536)] 23)) = wz at *
      clear hwx hPw lKa cKa0 cKa1 cKa2 cKa3 cKa4 cKa5 lKb cKb0 cKb1 cKb2 cKb3 cKb4 cKb5 lKm cKm0 cKm1 cKm2 cKm3 cKm4 cKm5 lKn cKn0 cKn1 cKn2 cKn3 cKn4 cKn5 lKp cKp0 cKp1 cKp2 cKp3 cKp4 cKp5
      have lKa := Ka.lt
      have cKa0 := Ka.cell 0
      have cKa1 := Ka.cell 1
      have cKa2 := Ka.cell 2
      have cKa3 := Ka.cell 3
      have cKa4 := Ka.cell 4
      have cKa5 := Ka.cell 5
      have lKb := Kb.lt
      have cKb0 := Kb.cell 0
      have cKb1 := Kb.cell 1
      have cKb2 := Kb.cell 2
      have cKb3 := Kb.cell 3
      have cKb4 := Kb.cell 4
      have cKb5 := Kb.cell 5
      have lKm := Km.lt
      have cKm0 := Km.cell 0
      have cKm1 := Km.cell 1
      have cKm2 := Km.cell 2
      have cKm3 := Km.cell 3
      have cKm4 := Km.cell 4
      have cKm5 := Km.cell 5
      have lKn := Kn.lt
      have cKn0 := Kn.cell 0
      have cKn1 := Kn.cell 1
      have cKn2 := Kn.cell 2
      have cKn3 := Kn.cell 3
      have cKn4 := Kn.cell 4
      have cKn5 := Kn.cell 5
      have lKp := Kp.lt
      have cKp0 := Kp.cell 0
      have cKp1 := Kp.cell 1
      have cKp2 := Kp.cell 2
      have cKp3 := Kp.cell 3
      have cKp4 := Kp.cell 4
      have cKp5 := Kp.cell 5
      have lKw := Kw.lt
      have cKw0 := Kw.cell 0
      have cKw1 := Kw.cell 1
      have cKw2 := Kw.cell 2
      have cKw3 := Kw.cell 3
      have cKw4 := Kw.cell 4
      have cKw5 := Kw.cell 5
      simp only [List.getElem?_toArray, List.getElem?_cons_succ, List.getElem?_cons_zero] at cKa0 cKa1 cKa2 cKa3 cKa4 cKa5 cKb0 cKb1 cKb2 cKb3 cKb4 cKb5 cKm0 cKm1 cKm2 cKm3 cKm4 cKm5 cKn0 cKn1 cKn2 cKn3 cKn4 cKn5 cKp0 cKp1 cKp2 cKp3 cKp4 cKp5 cKw0 cKw1 cKw2 cKw3 cKw4 cKw5
      have uKa0 : ∀ u : Up wz, u.val.cell? ⟨w.heap.size, 0, none⟩ = some (.int .i64 s0) := fun u => (u.cell lKa).trans cKa0
      have uKa1 : ∀ u : Up wz, u.val.cell? ⟨w.heap.size, 1, none⟩ = some (.int .i64 s1) := fun u => (u.cell lKa).trans cKa1
      have uKa2 : ∀ u : Up wz, u.val.cell? ⟨w.heap.size, 2, none⟩ = some (.int .i64 s2) := fun u => (u.cell lKa).trans cKa2
      have uKa3 : ∀ u : Up wz, u.val.cell? ⟨w.heap.size, 3, none⟩ = some (.int .i64 s3) := fun u => (u.cell lKa).trans cKa3
      have uKa4 : ∀ u : Up wz, u.val.cell? ⟨w.heap.size, 4, none⟩ = some (.int .i64 s4) := fun u => (u.cell lKa).trans cKa4
      have uKa5 : ∀ u : Up wz, u.val.cell? ⟨w.heap.size, 5, none⟩ = some (.int .i64 s5) := fun u => (u.cell lKa).trans cKa5
      refine wp_region_up (by kernel_rfl) (by kernel_rfl) ?_
      repeat (go_big_quiet_step (fail))
      refine wpQuiet_nil ?_
      rintro _ ⟨uq, rfl⟩
      replace hbw := btrans hbw uq.ok
      replace Ka := Ka.below uq.ok lKa
      replace Km := Km.below uq.ok lKm
      replace Kp := Kp.below uq.ok lKp
      replace Kw := Kw.below uq.ok lKw
      generalize hwx : uq.val = wy at *
      clear hwx uq Kb Kn lKa cKa0 cKa1 cKa2 cKa3 cKa4 cKa5 lKb cKb0 cKb1 cKb2 cKb3 cKb4 cKb5 lKm cKm0 cKm1 cKm2 cKm3 cKm4 cKm5 lKn cKn0 cKn1 cKn2 cKn3 cKn4 cKn5 lKp cKp0 cKp1 cKp2 cKp3 cKp4 cKp5 lKw cKw0 cKw1 cKw2 cKw3 cKw4 cKw5 uKa0 uKa1 uKa2 uKa3 uKa4 uKa5
      have lKa := Ka.lt
      have cKa0 := Ka.cell 0
      have cKa1 := Ka.cell 1
      have cKa2 := Ka.cell 2
      have cKa3 := Ka.cell 3
      have cKa4 := Ka.cell 4
      have cKa5 := Ka.cell 5
      have lKm := Km.lt
      have cKm0 := Km.cell 0
      have cKm1 := Km.cell 1
      have cKm2 := Km.cell 2
      have cKm3 := Km.cell 3
      have cKm4 := Km.cell 4
      have cKm5 := Km.cell 5
      have lKp := Kp.lt
      have cKp0 := Kp.cell 0
      have cKp1 := Kp.cell 1
      have cKp2 := Kp.cell 2
      have cKp3 := Kp.cell 3
      have cKp4 := Kp.cell 4
      have cKp5 := Kp.cell 5
      have lKw := Kw.lt
      have cKw0 := Kw.cell 0
      have cKw1 := Kw.cell 1
      have cKw2 := Kw.cell 2
      have cKw3 := Kw.cell 3
      have cKw4 := Kw.cell 4
      have cKw5 := Kw.cell 5
      simp only [List.getElem?_toArray, List.getElem?_cons_succ, List.getElem?_cons_zero] at cKa0 cKa1 cKa2 cKa3 cKa4 cKa5 cKm0 cKm1 cKm2 cKm3 cKm4 cKm5 cKp0 cKp1 cKp2 cKp3 cKp4 cKp5 cKw0 cKw1 cKw2 cKw3 cKw4 cKw5
      go_wp2_with fail
      refine (HP.out _).mono ?_
      rintro e_ w25 ⟨rfl, hb25⟩
      replace Ka := Ka.below hb25 (by first | exact lKa | (have := lKa; simp; omega))
      replace Km := Km.below hb25 (by first | exact lKm | (have := lKm; simp; omega))
      replace Kp := Kp.below hb25 (by first | exact lKp | (have := lKp; simp; omega))
      replace Kw := Kw.below hb25 (by first | exact lKw | (have := lKw; simp; omega))
      replace hbw : Below w.heap.size w w25 := btrans (by (repeat' (first | refine bset ?_ (by first | omega | (simp <;> omega)) _ | refine balloc ?_ _ | refine Below.drew ?_ | refine below_drewN ?_ _ | exact hbw | exact Below.refl _ _))) hb25
      clear hb25 lKa cKa0 cKa1 cKa2 cKa3 cKa4 cKa5 lKm cKm0 cKm1 cKm2 cKm3 cKm4 cKm5 lKp cKp0 cKp1 cKp2 cKp3 cKp4 cKp5 lKw cKw0 cKw1 cKw2 cKw3 cKw4 cKw5
      have lKa := Ka.lt
      have cKa0 := Ka.cell 0
      have cKa1 := Ka.cell 1
      have cKa2 := Ka.cell 2
      have cKa3 := Ka.cell 3
      have cKa4 := Ka.cell 4
      have cKa5 := Ka.cell 5
      have lKm := Km.lt
      have cKm0 := Km.cell 0
      have cKm1 := Km.cell 1
      have cKm2 := Km.cell 2
      have cKm3 := Km.cell 3
      have cKm4 := Km.cell 4
      have cKm5 := Km.cell 5
      have lKp := Kp.lt
      have cKp0 := Kp.cell 0
      have cKp1 := Kp.cell 1
      have cKp2 := Kp.cell 2
      have cKp3 := Kp.cell 3
      have cKp4 := Kp.cell 4
      have cKp5 := Kp.cell 5
      have lKw := Kw.lt
      have cKw0 := Kw.cell 0
      have cKw1 := Kw.cell 1
      have cKw2 := Kw.cell 2
      have cKw3 := Kw.cell 3
      have cKw4 := Kw.cell 4
      have cKw5 := Kw.cell 5
      simp only [List.getElem?_toArray, List.getElem?_cons_succ, List.getElem?_cons_zero] at cKa0 cKa1 cKa2 cKa3 cKa4 cKa5 cKm0 cKm1 cKm2 cKm3 cKm4 cKm5 cKp0 cKp1 cKp2 cKp3 cKp4 cKp5 cKw0 cKw1 cKw2 cKw3 cKw4 cKw5
      go_wp2_with fail
      refine (HV.out _).mono ?_
      rintro e_ w26 ⟨rfl, hb26⟩
      replace Ka := Ka.below hb26 (by first | exact lKa | (have := lKa; simp; omega))
      replace Km := Km.below hb26 (by first | exact lKm | (have := lKm; simp; omega))
      replace Kp := Kp.below hb26 (by first | exact lKp | (have := lKp; simp; omega))
      replace Kw := Kw.below hb26 (by first | exact lKw | (have := lKw; simp; omega))
      replace hbw : Below w.heap.size w w26 := btrans (by (repeat' (first | refine bset ?_ (by first | omega | (simp <;> omega)) _ | refine balloc ?_ _ | refine Below.drew ?_ | refine below_drewN ?_ _ | exact hbw | exact Below.refl _ _))) hb26
      clear hb26 lKa cKa0 cKa1 cKa2 cKa3 cKa4 cKa5 lKm cKm0 cKm1 cKm2 cKm3 cKm4 cKm5 lKp cKp0 cKp1 cKp2 cKp3 cKp4 cKp5 lKw cKw0 cKw1 cKw2 cKw3 cKw4 cKw5
      have lKa := Ka.lt
      have cKa0 := Ka.cell 0
      have cKa1 := Ka.cell 1
      have cKa2 := Ka.cell 2
      have cKa3 := Ka.cell 3
      have cKa4 := Ka.cell 4
      have cKa5 := Ka.cell 5
      have lKm := Km.lt
      have cKm0 := Km.cell 0
      have cKm1 := Km.cell 1
      have cKm2 := Km.cell 2
      have cKm3 := Km.cell 3
      have cKm4 := Km.cell 4
      have cKm5 := Km.cell 5
      have lKp := Kp.lt
      have cKp0 := Kp.cell 0
      have cKp1 := Kp.cell 1
      have cKp2 := Kp.cell 2
      have cKp3 := Kp.cell 3
      have cKp4 := Kp.cell 4
      have cKp5 := Kp.cell 5
      have lKw := Kw.lt
      have cKw0 := Kw.cell 0
      have cKw1 := Kw.cell 1
      have cKw2 := Kw.cell 2
      have cKw3 := Kw.cell 3
      have cKw4 := Kw.cell 4
      have cKw5 := Kw.cell 5
      simp only [List.getElem?_toArray, List.getElem?_cons_succ, List.getElem?_cons_zero] at cKa0 cKa1 cKa2 cKa3 cKa4 cKa5 cKm0 cKm1 cKm2 cKm3 cKm4 cKm5 cKp0 cKp1 cKp2 cKp3 cKp4 cKp5 cKw0 cKw1 cKw2 cKw3 cKw4 cKw5
      go_wp2_with fail
      refine (HM.out _).mono ?_
      rintro e_ w27 ⟨rfl, hb27⟩
      replace Ka := Ka.below hb27 (by first | exact lKa | (have := lKa; simp; omega))
      replace Km := Km.below hb27 (by first | exact lKm | (have := lKm; simp; omega))
      replace Kp := Kp.below hb27 (by first | exact lKp | (have := lKp; simp; omega))
      replace Kw := Kw.below hb27 (by first | exact lKw | (have := lKw; simp; omega))
      replace hbw : Below w.heap.size w w27 := btrans (by (repeat' (first | refine bset ?_ (by first | omega | (simp <;> omega)) _ | refine balloc ?_ _ | refine Below.drew ?_ | refine below_drewN ?_ _ | exact hbw | exact Below.refl _ _))) hb27
      clear hb27 lKa cKa0 cKa1 cKa2 cKa3 cKa4 cKa5 lKm cKm0 cKm1 cKm2 cKm3 cKm4 cKm5 lKp cKp0 cKp1 cKp2 cKp3 cKp4 cKp5 lKw cKw0 cKw1 cKw2 cKw3 cKw4 cKw5 Km
      have lKa := Ka.lt
      have cKa0 := Ka.cell 0
      have cKa1 := Ka.cell 1
      have cKa2 := Ka.cell 2
      have cKa3 := Ka.cell 3
      have cKa4 := Ka.cell 4
      have cKa5 := Ka.cell 5
      have lKp := Kp.lt
      have cKp0 := Kp.cell 0
      have cKp1 := Kp.cell 1
      have cKp2 := Kp.cell 2
      have cKp3 := Kp.cell 3
      have cKp4 := Kp.cell 4
      have cKp5 := Kp.cell 5
      have lKw := Kw.lt
      have cKw0 := Kw.cell 0
      have cKw1 := Kw.cell 1
      have cKw2 := Kw.cell 2
      have cKw3 := Kw.cell 3
      have cKw4 := Kw.cell 4
      have cKw5 := Kw.cell 5
      simp only [List.getElem?_toArray, List.getElem?_cons_succ, List.getElem?_cons_zero] at cKa0 cKa1 cKa2 cKa3 cKa4 cKa5 cKp0 cKp1 cKp2 cKp3 cKp4 cKp5 cKw0 cKw1 cKw2 cKw3 cKw4 cKw5
      go_wp2_with fail
      go_ret
      exact ⟨rfl, by (repeat' (first | refine bset ?_ (by first | omega | (simp <;> omega)) _ | refine balloc ?_ _ | refine Below.drew ?_ | refine below_drewN ?_ _ | exact hbw | exact Below.refl _ _))⟩

theorem whole_law (a0 a1 a2 a3 a4 a5 b0 b1 b2 b3 b4 b5 x0 y0 : Int) (w : World) (_h0 : -9223372036854775808 ≤ a0 ∧ a0 ≤ 9223372036854775807) (_h1 : -9223372036854775808 ≤ a1 ∧ a1 ≤ 9223372036854775807) (_h2 : -9223372036854775808 ≤ a2 ∧ a2 ≤ 9223372036854775807) (_h3 : -9223372036854775808 ≤ a3 ∧ a3 ≤ 9223372036854775807) (_h4 : -9223372036854775808 ≤ a4 ∧ a4 ≤ 9223372036854775807) (_h5 : -9223372036854775808 ≤ a5 ∧ a5 ≤ 9223372036854775807) (_h6 : -9223372036854775808 ≤ b0 ∧ b0 ≤ 9223372036854775807) (_h7 : -9223372036854775808 ≤ b1 ∧ b1 ≤ 9223372036854775807) (_h8 : -9223372036854775808 ≤ b2 ∧ b2 ≤ 9223372036854775807) (_h9 : -9223372036854775808 ≤ b3 ∧ b3 ≤ 9223372036854775807) (_h10 : -9223372036854775808 ≤ b4 ∧ b4 ≤ 9223372036854775807) (_h11 : -9223372036854775808 ≤ b5 ∧ b5 ≤ 9223372036854775807) (_h12 : -9223372036854775808 ≤ x0 ∧ x0 ≤ 9223372036854775807) (_h13 : -9223372036854775808 ≤ y0 ∧ y0 ≤ 9223372036854775807) : Calls Try.prog 8 #[.agg #[.int .i64 a0, .int .i64 a1, .int .i64 a2, .int .i64 a3, .int .i64 a4, .int .i64 a5], .agg #[.int .i64 b0, .int .i64 b1, .int .i64 b2, .int .i64 b3, .int .i64 b4, .int .i64 b5], .int .i64 x0, .int .i64 y0] w fun ed w' => ed = .returned (.bool true) ∧ Below w.heap.size w w' := by
  exact whole_walk a0 a1 a2 a3 a4 a5 b0 b1 b2 b3 b4 b5 x0 y0 _ _ _ _ _ _ _ _ _ _ _ _ _ _ w rfl rfl rfl rfl rfl rfl rfl rfl rfl rfl rfl rfl rfl rfl
end Go.Proofs.Ytaephahcohdbpaa.mt
