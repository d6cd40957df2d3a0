/-
  MatBack: where a point went, it came from.
-/
import Derived.Test.YtaephahcohdbpaaExact
namespace Go.Proofs.Ytaephahcohdbpaa.mt
set_option linter.unusedVariables false
set_option linter.unusedSimpArgs false
open Go.RowKit bs

theorem mul16 (a b : Int) : a * 65536 * (b * 65536) = a * b * 4294967296 := by
  rw [Int.mul_assoc a 65536, Int.mul_left_comm 65536 b 65536, ← Int.mul_assoc a b]
  omega
theorem mul40 {a b : Int} (ha : -40 ≤ a ∧ a ≤ 40) (hb : -40 ≤ b ∧ b ≤ 40) : -1600 ≤ a * b ∧ a * b ≤ 1600 := by
  have h1 := Int.mul_nonneg (show 0 ≤ 40 - a by omega) (show 0 ≤ 40 - b by omega)
  have h2 := Int.mul_nonneg (show 0 ≤ 40 + a by omega) (show 0 ≤ 40 + b by omega)
  have h3 := Int.mul_nonneg (show 0 ≤ 40 - a by omega) (show 0 ≤ 40 + b by omega)
  have h4 := Int.mul_nonneg (show 0 ≤ 40 + a by omega) (show 0 ≤ 40 - b by omega)
  simp only [Int.sub_mul, Int.mul_sub, Int.add_mul, Int.mul_add] at h1 h2 h3 h4
  omega

theorem whole_may {s0 s1 s2 s3 s4 s5 : Int} (b0 : -40 ≤ s0 ∧ s0 ≤ 40) (b1 : -40 ≤ s1 ∧ s1 ≤ 40) (b2 : -40 ≤ s2 ∧ s2 ≤ 40) (b3 : -40 ≤ s3 ∧ s3 ≤ 40) (b4 : -40 ≤ s4 ∧ s4 ≤ 40) (b5 : -40 ≤ s5 ∧ s5 ≤ 40) : mayB (s0 * 65536) (s1 * 65536) (s2 * 65536) (s3 * 65536) (s4 * 65536) (s5 * 65536) = true := mayB_true (by omega) (by omega) (by omega) (by omega) (by omega) (by omega)
theorem point_whole (s0 s1 s2 s3 s4 s5 x y : Int) (W : World) (b0 : -40 ≤ s0 ∧ s0 ≤ 40) (b1 : -40 ≤ s1 ∧ s1 ≤ 40) (b2 : -40 ≤ s2 ∧ s2 ≤ 40) (b3 : -40 ≤ s3 ∧ s3 ≤ 40) (b4 : -40 ≤ s4 ∧ s4 ≤ 40) (b5 : -40 ≤ s5 ∧ s5 ≤ 40) (bx : -40 ≤ x ∧ x ≤ 40) (by_ : -40 ≤ y ∧ y ≤ 40) : Calls Try.prog 34 #[.agg #[.int .i64 (s0 * 65536), .int .i64 (s1 * 65536), .int .i64 (s2 * 65536), .int .i64 (s3 * 65536), .int .i64 (s4 * 65536), .int .i64 (s5 * 65536)], .int .i64 (x * 65536), .int .i64 (y * 65536)] W fun ed w' => ed = .returned (.tuple #[.int .i64 (s0 * x + s2 * y + s4), .int .i64 (s1 * x + s3 * y + s5), .int .i64 0]) ∧ Below W.heap.size W w' := by
  have m1 := mul40 b0 bx
  have m2 := mul40 b2 by_
  have m3 := mul40 b1 bx
  have m4 := mul40 b3 by_
  have hx : xPoint (s0 * 65536) (s1 * 65536) (s2 * 65536) (s3 * 65536) (s4 * 65536) (s5 * 65536) (x * 65536) (y * 65536) = (s0 * x + s2 * y + s4) := by
    unfold xPoint
    rw [mul16, mul16, show s0 * x * 4294967296 + s2 * y * 4294967296 + s4 * 65536 * 65536 = (s0 * x + s2 * y + s4) * 4294967296 by omega]
    exact even32_exact _
  have hy : yPoint (s0 * 65536) (s1 * 65536) (s2 * 65536) (s3 * 65536) (s4 * 65536) (s5 * 65536) (x * 65536) (y * 65536) = (s1 * x + s3 * y + s5) := by
    unfold yPoint
    rw [mul16, mul16, show s1 * x * 4294967296 + s3 * y * 4294967296 + s5 * 65536 * 65536 = (s1 * x + s3 * y + s5) * 4294967296 by omega]
    exact even32_exact _
  have hb : bPoint (s0 * 65536) (s1 * 65536) (s2 * 65536) (s3 * 65536) (s4 * 65536) (s5 * 65536) (x * 65536) (y * 65536) = true := by unfold bPoint; rw [hx, hy]; exact nearB_true (by omega) (by omega)
  have := Point_yes (s0 * 65536) (s1 * 65536) (s2 * 65536) (s3 * 65536) (s4 * 65536) (s5 * 65536) (x * 65536) (y * 65536) W (goodB_true (whole_may b0 b1 b2 b3 b4 b5) (by omega) (by omega))
  rw [hb, hx, hy] at this
  exact this
theorem det_whole (s0 s1 s2 s3 s4 s5 : Int) : s0 * 65536 * (s3 * 65536) - s1 * 65536 * (s2 * 65536) = (s0 * s3 - s1 * s2) * 4294967296 := by rw [mul16, mul16]; omega
theorem back_x (s0 s1 s2 s3 s4 s5 x y : Int) : (s3 * 65536 * ((s0 * x + s2 * y + s4) * 65536 - s4 * 65536) - s2 * 65536 * ((s1 * x + s3 * y + s5) * 65536 - s5 * 65536)) * 65536 = x * 65536 * ((s0 * s3 - s1 * s2) * 4294967296) := by
  have e1 : (s0 * x + s2 * y + s4) * 65536 - s4 * 65536 = (s0 * x + s2 * y) * 65536 := by omega
  have e2 : (s1 * x + s3 * y + s5) * 65536 - s5 * 65536 = (s1 * x + s3 * y) * 65536 := by omega
  rw [e1, e2, mul16, mul16]
  have e3 : s3 * (s0 * x + s2 * y) - s2 * (s1 * x + s3 * y) = x * (s0 * s3 - s1 * s2) := by
    simp only [Int.mul_add, Int.mul_sub, Int.mul_comm, Int.mul_left_comm, Int.mul_assoc]
    omega
  have e4 : x * 65536 * ((s0 * s3 - s1 * s2) * 4294967296) = x * (s0 * s3 - s1 * s2) * 281474976710656 := by
    rw [Int.mul_assoc x, Int.mul_left_comm 65536, ← Int.mul_assoc x]
    omega
  rw [e4, ← e3]
  omega
theorem back_y (s0 s1 s2 s3 s4 s5 x y : Int) : (s0 * 65536 * ((s1 * x + s3 * y + s5) * 65536 - s5 * 65536) - s1 * 65536 * ((s0 * x + s2 * y + s4) * 65536 - s4 * 65536)) * 65536 = y * 65536 * ((s0 * s3 - s1 * s2) * 4294967296) := by
  have e1 : (s0 * x + s2 * y + s4) * 65536 - s4 * 65536 = (s0 * x + s2 * y) * 65536 := by omega
  have e2 : (s1 * x + s3 * y + s5) * 65536 - s5 * 65536 = (s1 * x + s3 * y) * 65536 := by omega
  rw [e1, e2, mul16, mul16]
  have e3 : s0 * (s1 * x + s3 * y) - s1 * (s0 * x + s2 * y) = y * (s0 * s3 - s1 * s2) := by
    simp only [Int.mul_add, Int.mul_sub, Int.mul_comm, Int.mul_left_comm, Int.mul_assoc]
    omega
  have e4 : y * 65536 * ((s0 * s3 - s1 * s2) * 4294967296) = y * (s0 * s3 - s1 * s2) * 281474976710656 := by
    rw [Int.mul_assoc y, Int.mul_left_comm 65536, ← Int.mul_assoc y]
    omega
  rw [e4, ← e3]
  omega
theorem back_whole (s0 s1 s2 s3 s4 s5 x y : Int) (W : World) (b0 : -40 ≤ s0 ∧ s0 ≤ 40) (b1 : -40 ≤ s1 ∧ s1 ≤ 40) (b2 : -40 ≤ s2 ∧ s2 ≤ 40) (b3 : -40 ≤ s3 ∧ s3 ≤ 40) (b4 : -40 ≤ s4 ∧ s4 ≤ 40) (b5 : -40 ≤ s5 ∧ s5 ≤ 40) (bx : -40 ≤ x ∧ x ≤ 40) (by_ : -40 ≤ y ∧ y ≤ 40) (hd : ¬ s0 * s3 = s1 * s2) : Calls Try.prog 35 #[.agg #[.int .i64 (s0 * 65536), .int .i64 (s1 * 65536), .int .i64 (s2 * 65536), .int .i64 (s3 * 65536), .int .i64 (s4 * 65536), .int .i64 (s5 * 65536)], .int .i64 (s0 * x + s2 * y + s4), .int .i64 (s1 * x + s3 * y + s5)] W fun ed w' => ed = .returned (.tuple #[.int .i64 (x * 65536), .int .i64 (y * 65536), .int .i64 0]) ∧ Below W.heap.size W w' := by
  have m1 := mul40 b0 bx
  have m2 := mul40 b2 by_
  have m3 := mul40 b1 bx
  have m4 := mul40 b3 by_
  have hdt := det_whole s0 s1 s2 s3 s4 s5
  have h0 : ¬ (s0 * s3 - s1 * s2) * 4294967296 = 0 := by omega
  have := Back_yes (s0 * 65536) (s1 * 65536) (s2 * 65536) (s3 * 65536) (s4 * 65536) (s5 * 65536) (s0 * x + s2 * y + s4) (s1 * x + s3 * y + s5) (x * 65536) (y * 65536) W (whole_may b0 b1 b2 b3 b4 b5) (nearB_true (by omega) (by omega)) (by rw [hdt]; exact h0) (by rw [hdt]; exact mulDiv_exact h0 (back_x s0 s1 s2 s3 s4 s5 x y) (by omega) (by omega)) (by rw [hdt]; exact mulDiv_exact h0 (back_y s0 s1 s2 s3 s4 s5 x y) (by omega) (by omega))
  rw [show nearB (x * 65536) (y * 65536) 1073741823 = true from nearB_true (by omega) (by omega)] at this
  exact this
theorem back_flat (s0 s1 s2 s3 s4 s5 x y : Int) (W : World) (b0 : -40 ≤ s0 ∧ s0 ≤ 40) (b1 : -40 ≤ s1 ∧ s1 ≤ 40) (b2 : -40 ≤ s2 ∧ s2 ≤ 40) (b3 : -40 ≤ s3 ∧ s3 ≤ 40) (b4 : -40 ≤ s4 ∧ s4 ≤ 40) (b5 : -40 ≤ s5 ∧ s5 ≤ 40) (bx : -40 ≤ x ∧ x ≤ 40) (by_ : -40 ≤ y ∧ y ≤ 40) (hd : s0 * s3 = s1 * s2) : Calls Try.prog 35 #[.agg #[.int .i64 (s0 * 65536), .int .i64 (s1 * 65536), .int .i64 (s2 * 65536), .int .i64 (s3 * 65536), .int .i64 (s4 * 65536), .int .i64 (s5 * 65536)], .int .i64 (s0 * x + s2 * y + s4), .int .i64 (s1 * x + s3 * y + s5)] W fun ed w' => ed = .returned (.tuple #[.int .i64 0, .int .i64 0, .int .i64 14]) ∧ Below W.heap.size W w' := by
  have m1 := mul40 b0 bx
  have m2 := mul40 b2 by_
  have m3 := mul40 b1 bx
  have m4 := mul40 b3 by_
  exact Back_zero (s0 * 65536) (s1 * 65536) (s2 * 65536) (s3 * 65536) (s4 * 65536) (s5 * 65536) (s0 * x + s2 * y + s4) (s1 * x + s3 * y + s5) W (whole_may b0 b1 b2 b3 b4 b5) (nearB_true (by omega) (by omega)) (by rw [det_whole s0 s1 s2 s3 s4 s5]; omega)
theorem wide_flat (s0 s1 s2 s3 s4 s5 : Int) (W : World) (b0 : -40 ≤ s0 ∧ s0 ≤ 40) (b1 : -40 ≤ s1 ∧ s1 ≤ 40) (b2 : -40 ≤ s2 ∧ s2 ≤ 40) (b3 : -40 ≤ s3 ∧ s3 ≤ 40) (b4 : -40 ≤ s4 ∧ s4 ≤ 40) (b5 : -40 ≤ s5 ∧ s5 ≤ 40) (hd : s0 * s3 = s1 * s2) : Calls Try.prog 24 #[.agg #[.int .i64 (s0 * 65536), .int .i64 (s1 * 65536), .int .i64 (s2 * 65536), .int .i64 (s3 * 65536), .int .i64 (s4 * 65536), .int .i64 (s5 * 65536)], .int .i64 589824] W fun ed w' => ed = .returned (.tuple #[.int .i64 0, .int .i64 0]) ∧ Below W.heap.size W w' := by
  have := Wide_yes (s0 * 65536) (s1 * 65536) (s2 * 65536) (s3 * 65536) (s4 * 65536) (s5 * 65536) 589824 W (whole_may b0 b1 b2 b3 b4 b5) (by decide) (by decide)
  rw [show s0 * 65536 * (s3 * 65536) - s1 * 65536 * (s2 * 65536) = 0 by rw [det_whole s0 s1 s2 s3 s4 s5]; omega, show wideV 0 589824 = 0 from rfl] at this
  exact this

set_option maxRecDepth 100000 in
set_option maxHeartbeats 1600000 in
theorem Invert_zero (A B C D E F : Int) (w : World) (h : mayB A B C D E F = true) (hd : A * D - B * C = 0) : Calls Try.prog 40 #[.agg #[.int .i64 A, .int .i64 B, .int .i64 C, .int .i64 D, .int .i64 E, .int .i64 F]] w fun ed w' => ed = .returned (.tuple #[.agg #[.int .i64 0, .int .i64 0, .int .i64 0, .int .i64 0, .int .i64 0, .int .i64 0], .int .i64 14]) ∧ Below w.heap.size w w' := by
  have HA := Lib.hid (fun W => show Calls Try.prog 30 #[.agg #[.int .i64 A, .int .i64 B, .int .i64 C, .int .i64 D, .int .i64 E, .int .i64 F]] W fun ed w' => ed = .returned (.bool true) ∧ Below W.heap.size W w' by have := may_any A B C D E F W; rw [h] at this; exact this)
  have HD := Lib.hid (fun W => show Calls Try.prog 52 #[.agg #[.int .i64 A, .int .i64 B, .int .i64 C, .int .i64 D, .int .i64 E, .int .i64 F]] W fun ed w' => ed = .returned (.int .i64 0) ∧ Below W.heap.size W w' by rw [← hd]; exact det_any A B C D E F W h)
  clear h hd
  have K1 := (Blk.new w 23 #[.int .i64 A, .int .i64 B, .int .i64 C, .int .i64 D, .int .i64 E, .int .i64 F]).alloc (.cells #[.int .i64 0, .int .i64 0, .int .i64 0, .int .i64 0, .int .i64 0, .int .i64 0] 23)
  have K2 := Blk.new (w.alloc (.cells #[.int .i64 A, .int .i64 B, .int .i64 C, .int .i64 D, .int .i64 E, .int .i64 F] 23)) 23 #[.int .i64 0, .int .i64 0, .int .i64 0, .int .i64 0, .int .i64 0, .int .i64 0]
  have s1 : (w.alloc (.cells #[.int .i64 A, .int .i64 B, .int .i64 C, .int .i64 D, .int .i64 E, .int .i64 F] 23)).heap.size = w.heap.size + 1 := by simp
  rw [s1] at K2
  clear s1
  go_enter Try.func40, Try.ntmps40
  go_wp2_with fail
  refine (HA.out _).mono ?_
  rintro e_ w1 ⟨rfl, hb1⟩
  replace K1 := K1.below hb1 (by simp; omega)
  replace K2 := K2.below hb1 (by simp)
  have hbw : Below w.heap.size w w1 := btrans (by (repeat' (first | exact Below.refl _ _ | exact Below.refl _ _ | refine balloc ?_ _ | refine Below.drew ?_ | refine below_drewN ?_ _ | refine bset ?_ (by first | omega | (simp <;> omega)) _))) hb1
  have p0 := K1.cell 0
  have p1 := K1.cell 1
  have p2 := K1.cell 2
  have p3 := K1.cell 3
  have p4 := K1.cell 4
  have p5 := K1.cell 5
  simp only [List.getElem?_toArray, List.getElem?_cons_succ, List.getElem?_cons_zero] at p0 p1 p2 p3 p4 p5
  have l2 := K2.lt
  clear hb1
  go_wp2_with fail
  refine (HD.out _).mono ?_
  rintro e_ w2 ⟨rfl, hb1⟩
  replace K2 := K2.below hb1 l2
  replace hbw := btrans hbw hb1
  clear hb1 l2 K1 p0 p1 p2 p3 p4 p5
  have q0 := K2.cell 0
  have f0 := K2.frozen 0
  have q1 := K2.cell 1
  have f1 := K2.frozen 1
  have q2 := K2.cell 2
  have f2 := K2.frozen 2
  have q3 := K2.cell 3
  have f3 := K2.frozen 3
  have q4 := K2.cell 4
  have f4 := K2.frozen 4
  have q5 := K2.cell 5
  have f5 := K2.frozen 5
  simp only [List.getElem?_toArray, List.getElem?_cons_succ, List.getElem?_cons_zero] at q0 q1 q2 q3 q4 q5
  have HK := Lib.hid K2
  have HBW := Lib.hid hbw
  clear K2 hbw
  go_wp2_with fail
  have K := (((((HK.out.set_ 0 (.int .i64 0)).set_ 1 (.int .i64 0)).set_ 2 (.int .i64 0)).set_ 3 (.int .i64 0)).set_ 4 (.int .i64 0)).set_ 5 (.int .i64 0)
  refine ret_struct2 (g := w.heap.size + 1) (t := 23) (cs := #[.int .i64 0, .int .i64 0, .int .i64 0, .int .i64 0, .int .i64 0, .int .i64 0]) rfl rfl ?_ Try.underlying23 rfl rfl rfl ?_
  · exact K
  · exact ⟨rfl, by (repeat' (first | refine bset ?_ (by first | omega | (simp <;> omega)) _ | refine balloc ?_ _ | refine Below.drew ?_ | refine below_drewN ?_ _ | exact HBW.out | exact Below.refl _ _))⟩

/-- the array behind k rounds -/
def arrS (a0 a1 a2 a3 a4 a5 s0 s1 s2 s3 s4 s5 : Int) : Nat → Array Value
  | 0 => #[.int .i64 a0, .int .i64 a1, .int .i64 a2, .int .i64 a3, .int .i64 a4, .int .i64 a5]
  | 1 => #[.int .i64 s0, .int .i64 a1, .int .i64 a2, .int .i64 a3, .int .i64 a4, .int .i64 a5]
  | 2 => #[.int .i64 s0, .int .i64 s1, .int .i64 a2, .int .i64 a3, .int .i64 a4, .int .i64 a5]
  | 3 => #[.int .i64 s0, .int .i64 s1, .int .i64 s2, .int .i64 a3, .int .i64 a4, .int .i64 a5]
  | 4 => #[.int .i64 s0, .int .i64 s1, .int .i64 s2, .int .i64 s3, .int .i64 a4, .int .i64 a5]
  | 5 => #[.int .i64 s0, .int .i64 s1, .int .i64 s2, .int .i64 s3, .int .i64 s4, .int .i64 a5]
  | _ => #[.int .i64 s0, .int .i64 s1, .int .i64 s2, .int .i64 s3, .int .i64 s4, .int .i64 s5]

set_option maxRecDepth 100000 in
set_option maxHeartbeats 3200000 in
theorem mback_flat (a0 a1 a2 a3 a4 a5 x0 y0 s0 s1 s2 s3 s4 s5 x y : Int) (w : World) (e0 : a0 % 81 - 40 = s0) (e1 : a1 % 81 - 40 = s1) (e2 : a2 % 81 - 40 = s2) (e3 : a3 % 81 - 40 = s3) (e4 : a4 % 81 - 40 = s4) (e5 : a5 % 81 - 40 = s5) (ex : x0 % 81 - 40 = x) (ey : y0 % 81 - 40 = y) (hd : s0 * s3 = s1 * s2) :
    Calls Try.prog 11 #[.agg #[.int .i64 a0, .int .i64 a1, .int .i64 a2, .int .i64 a3, .int .i64 a4, .int .i64 a5], .int .i64 x0, .int .i64 y0] w fun ed w' => ed = .returned (.bool true) ∧ Below w.heap.size w w' := by
  have b0 : -40 ≤ s0 ∧ s0 ≤ 40 := by omega
  have b1 : -40 ≤ s1 ∧ s1 ≤ 40 := by omega
  have b2 : -40 ≤ s2 ∧ s2 ≤ 40 := by omega
  have b3 : -40 ≤ s3 ∧ s3 ≤ 40 := by omega
  have b4 : -40 ≤ s4 ∧ s4 ≤ 40 := by omega
  have b5 : -40 ≤ s5 ∧ s5 ≤ 40 := by omega
  have bx : -40 ≤ x ∧ x ≤ 40 := by omega
  have by_ : -40 ≤ y ∧ y ≤ 40 := by omega
  have HS0 := Lib.hid (fun W => show Calls Try.prog 33 #[.int .i64 a0] W fun ed w' => ed = .returned (.int .i64 s0) ∧ W = w' by have := small_any a0 W; rw [e0] at this; exact this)
  have HS1 := Lib.hid (fun W => show Calls Try.prog 33 #[.int .i64 a1] W fun ed w' => ed = .returned (.int .i64 s1) ∧ W = w' by have := small_any a1 W; rw [e1] at this; exact this)
  have HS2 := Lib.hid (fun W => show Calls Try.prog 33 #[.int .i64 a2] W fun ed w' => ed = .returned (.int .i64 s2) ∧ W = w' by have := small_any a2 W; rw [e2] at this; exact this)
  have HS3 := Lib.hid (fun W => show Calls Try.prog 33 #[.int .i64 a3] W fun ed w' => ed = .returned (.int .i64 s3) ∧ W = w' by have := small_any a3 W; rw [e3] at this; exact this)
  have HS4 := Lib.hid (fun W => show Calls Try.prog 33 #[.int .i64 a4] W fun ed w' => ed = .returned (.int .i64 s4) ∧ W = w' by have := small_any a4 W; rw [e4] at this; exact this)
  have HS5 := Lib.hid (fun W => show Calls Try.prog 33 #[.int .i64 a5] W fun ed w' => ed = .returned (.int .i64 s5) ∧ W = w' by have := small_any a5 W; rw [e5] at this; exact this)
  have HSx := Lib.hid (fun W => show Calls Try.prog 33 #[.int .i64 x0] W fun ed w' => ed = .returned (.int .i64 x) ∧ W = w' by have := small_any x0 W; rw [ex] at this; exact this)
  have HSy := Lib.hid (fun W => show Calls Try.prog 33 #[.int .i64 y0] W fun ed w' => ed = .returned (.int .i64 y) ∧ W = w' by have := small_any y0 W; rw [ey] at this; exact this)
  have HW := Lib.hid (fun W => Whole_any s0 s1 s2 s3 s4 s5 W (by omega) (by omega) (by omega) (by omega) (by omega) (by omega))
  have m1 := mul40 b0 bx
  have m2 := mul40 b2 by_
  have m3 := mul40 b1 bx
  have m4 := mul40 b3 by_
  have m5 := mul40 b0 b3
  have m6 := mul40 b1 b2
  have P1 := fun W => point_whole s0 s1 s2 s3 s4 s5 x y W b0 b1 b2 b3 b4 b5 bx by_
  have P2 := fun W => back_flat s0 s1 s2 s3 s4 s5 x y W b0 b1 b2 b3 b4 b5 bx by_ hd
  have HI := Lib.hid (fun W => Invert_zero (s0 * 65536) (s1 * 65536) (s2 * 65536) (s3 * 65536) (s4 * 65536) (s5 * 65536) W (whole_may b0 b1 b2 b3 b4 b5) (by rw [det_whole s0 s1 s2 s3 s4 s5]; omega))
  have HWd := Lib.hid (fun W => wide_flat s0 s1 s2 s3 s4 s5 W b0 b1 b2 b3 b4 b5 hd)
  generalize (s0 * x + s2 * y + s4) = u at *
  generalize (s1 * x + s3 * y + s5) = v at *
  generalize hz1 : s0 * s3 = z1 at *
  generalize hz2 : s1 * s2 = z2 at *
  have hz : (z1 == z2) = true := by simp; omega
  have HP1 := Lib.hid P1
  have HP2 := Lib.hid P2
  clear P1 P2 m1 m2 m3 m4 hd ex ey e0 e1 e2 e3 e4 e5
  obtain ⟨bx0, bx1⟩ := bx
  obtain ⟨by0, by1⟩ := by_
  obtain ⟨m50, m51⟩ := m5
  obtain ⟨m60, m61⟩ := m6
  obtain ⟨b00, b01⟩ := b0
  obtain ⟨b10, b11⟩ := b1
  obtain ⟨b20, b21⟩ := b2
  obtain ⟨b30, b31⟩ := b3
  obtain ⟨b40, b41⟩ := b4
  obtain ⟨b50, b51⟩ := b5
  have K0 := Blk.new w 51 #[.int .i64 a0, .int .i64 a1, .int .i64 a2, .int .i64 a3, .int .i64 a4, .int .i64 a5]
  go_enter Try.func11, Try.ntmps11
  go_wp2_with fail
  refine (known_any _).mono ?_
  rintro e_ w1 ⟨rfl, hb1⟩
  replace K0 := K0.below hb1 (by simp)
  have hbw : Below w.heap.size w w1 := btrans (by (repeat' (first | exact Below.refl _ _ | exact Below.refl _ _ | refine balloc ?_ _ | refine Below.drew ?_ | refine below_drewN ?_ _ | refine bset ?_ (by first | omega | (simp <;> omega)) _))) hb1
  have HK := Lib.hid K0
  have HB := Lib.hid hbw
  clear K0 hb1 hbw
  go_wp2_with fail
  go_loopw [7] (fun c wr => ∃ k : Nat, k ≤ 6 ∧ c = .int .i64 k ∧ Blk wr w.heap.size 51 (arrS a0 a1 a2 a3 a4 a5 s0 s1 s2 s3 s4 s5 k) ∧ Below w.heap.size w wr) (fun c _ => 6 - (intOf c).toNat)
  case atStart => exact ⟨0, by omega, rfl, HK.out, HB.out⟩
  case round =>
    obtain ⟨k, hk, rfl, Ka, hbw⟩ := hrel
    rcases (show k = 0 ∨ k = 1 ∨ k = 2 ∨ k = 3 ∨ k = 4 ∨ k = 5 ∨ k = 6 by omega) with h | h | h | h | h | h | h <;> subst h
    · have c0 := Ka.cell 0
      have f0 := Ka.frozen 0
      simp only [arrS, List.getElem?_toArray, List.getElem?_cons_succ, List.getElem?_cons_zero] at c0
      have HN := Lib.hid (Ka.set_ 0 (.int .i64 s0))
      have HB2 := Lib.hid hbw
      clear Ka hbw
      go_wp2_with fail
      refine (HS0.out _).mono ?_
      rintro e_ w_ ⟨rfl, rfl⟩
      go_wp2_with fail
      go_roundw
      case rel => exact ⟨1, by omega, rfl, HN.out, bset HB2.out (Nat.le_refl _) _⟩
      case measure => simp [intOf]
    · have c0 := Ka.cell 1
      have f0 := Ka.frozen 1
      simp only [arrS, List.getElem?_toArray, List.getElem?_cons_succ, List.getElem?_cons_zero] at c0
      have HN := Lib.hid (Ka.set_ 1 (.int .i64 s1))
      have HB2 := Lib.hid hbw
      clear Ka hbw
      go_wp2_with fail
      refine (HS1.out _).mono ?_
      rintro e_ w_ ⟨rfl, rfl⟩
      go_wp2_with fail
      go_roundw
      case rel => exact ⟨2, by omega, rfl, HN.out, bset HB2.out (Nat.le_refl _) _⟩
      case measure => simp [intOf]
    · have c0 := Ka.cell 2
      have f0 := Ka.frozen 2
      simp only [arrS, List.getElem?_toArray, List.getElem?_cons_succ, List.getElem?_cons_zero] at c0
      have HN := Lib.hid (Ka.set_ 2 (.int .i64 s2))
      have HB2 := Lib.hid hbw
      clear Ka hbw
      go_wp2_with fail
      refine (HS2.out _).mono ?_
      rintro e_ w_ ⟨rfl, rfl⟩
      go_wp2_with fail
      go_roundw
      case rel => exact ⟨3, by omega, rfl, HN.out, bset HB2.out (Nat.le_refl _) _⟩
      case measure => simp [intOf]
    · have c0 := Ka.cell 3
      have f0 := Ka.frozen 3
      simp only [arrS, List.getElem?_toArray, List.getElem?_cons_succ, List.getElem?_cons_zero] at c0
      have HN := Lib.hid (Ka.set_ 3 (.int .i64 s3))
      have HB2 := Lib.hid hbw
      clear Ka hbw
      go_wp2_with fail
      refine (HS3.out _).mono ?_
      rintro e_ w_ ⟨rfl, rfl⟩
      go_wp2_with fail
      go_roundw
      case rel => exact ⟨4, by omega, rfl, HN.out, bset HB2.out (Nat.le_refl _) _⟩
      case measure => simp [intOf]
    · have c0 := Ka.cell 4
      have f0 := Ka.frozen 4
      simp only [arrS, List.getElem?_toArray, List.getElem?_cons_succ, List.getElem?_cons_zero] at c0
      have HN := Lib.hid (Ka.set_ 4 (.int .i64 s4))
      have HB2 := Lib.hid hbw
      clear Ka hbw
      go_wp2_with fail
      refine (HS4.out _).mono ?_
      rintro e_ w_ ⟨rfl, rfl⟩
      go_wp2_with fail
      go_roundw
      case rel => exact ⟨5, by omega, rfl, HN.out, bset HB2.out (Nat.le_refl _) _⟩
      case measure => simp [intOf]
    · have c0 := Ka.cell 5
      have f0 := Ka.frozen 5
      simp only [arrS, List.getElem?_toArray, List.getElem?_cons_succ, List.getElem?_cons_zero] at c0
      have HN := Lib.hid (Ka.set_ 5 (.int .i64 s5))
      have HB2 := Lib.hid hbw
      clear Ka hbw
      go_wp2_with fail
      refine (HS5.out _).mono ?_
      rintro e_ w_ ⟨rfl, rfl⟩
      go_wp2_with fail
      go_roundw
      case rel => exact ⟨6, by omega, rfl, HN.out, bset HB2.out (Nat.le_refl _) _⟩
      case measure => simp [intOf]
    · replace Ka : Blk wr w.heap.size 51 #[.int .i64 s0, .int .i64 s1, .int .i64 s2, .int .i64 s3, .int .i64 s4, .int .i64 s5] := Ka
      have lKa := Ka.lt
      have cKa0 := Ka.cell 0
      have cKa1 := Ka.cell 1
      have cKa2 := Ka.cell 2
      have cKa3 := Ka.cell 3
      have cKa4 := Ka.cell 4
      have cKa5 := Ka.cell 5
      simp only [List.getElem?_toArray, List.getElem?_cons_succ, List.getElem?_cons_zero] at cKa0 cKa1 cKa2 cKa3 cKa4 cKa5
      go_wp2_with fail
      refine (HSx.out _).mono ?_
      rintro e_ w_ ⟨rfl, rfl⟩
      go_wp2_with fail
      refine (HSy.out _).mono ?_
      rintro e_ w_ ⟨rfl, rfl⟩
      go_wp2_with fail
      refine (HW.out _).mono ?_
      rintro e_ w21 ⟨rfl, hb21⟩
      replace Ka := Ka.below hb21 (by first | exact lKa | (have := lKa; simp; omega))
      replace hbw : Below w.heap.size w w21 := btrans (by (repeat' (first | refine bset ?_ (by first | omega | (simp <;> omega)) _ | refine balloc ?_ _ | refine Below.drew ?_ | refine below_drewN ?_ _ | exact hbw | exact Below.refl _ _))) hb21
      clear hb21 lKa cKa0 cKa1 cKa2 cKa3 cKa4 cKa5
      have lKa := Ka.lt
      have cKa0 := Ka.cell 0
      have cKa1 := Ka.cell 1
      have cKa2 := Ka.cell 2
      have cKa3 := Ka.cell 3
      have cKa4 := Ka.cell 4
      have cKa5 := Ka.cell 5
      simp only [List.getElem?_toArray, List.getElem?_cons_succ, List.getElem?_cons_zero] at cKa0 cKa1 cKa2 cKa3 cKa4 cKa5
      go_wp2_with fail
      refine (HP1.out _).mono ?_
      rintro e_ w22 ⟨rfl, hb22⟩
      replace Ka := (Ka.alloc (.cells #[.int .i64 (s0 * 65536), .int .i64 (s1 * 65536), .int .i64 (s2 * 65536), .int .i64 (s3 * 65536), .int .i64 (s4 * 65536), .int .i64 (s5 * 65536)] 23)).below hb22 (by first | exact lKa | (have := lKa; simp; omega))
      have Km := (Blk.new w21 23 #[.int .i64 (s0 * 65536), .int .i64 (s1 * 65536), .int .i64 (s2 * 65536), .int .i64 (s3 * 65536), .int .i64 (s4 * 65536), .int .i64 (s5 * 65536)]).below hb22 (by simp)
      replace hbw : Below w.heap.size w w22 := btrans (by (repeat' (first | refine bset ?_ (by first | omega | (simp <;> omega)) _ | refine balloc ?_ _ | refine Below.drew ?_ | refine below_drewN ?_ _ | exact hbw | exact Below.refl _ _))) hb22
      clear hb22 lKa cKa0 cKa1 cKa2 cKa3 cKa4 cKa5
      have lKa := Ka.lt
      have cKa0 := Ka.cell 0
      have cKa1 := Ka.cell 1
      have cKa2 := Ka.cell 2
      have cKa3 := Ka.cell 3
      have cKa4 := Ka.cell 4
      have cKa5 := Ka.cell 5
      have lKm := Km.lt
      have cKm0 := Km.cell 0
      have cKm1 := Km.cell 1
      have cKm2 := Km.cell 2
      have cKm3 := Km.cell 3
      have cKm4 := Km.cell 4
      have cKm5 := Km.cell 5
      simp only [List.getElem?_toArray, List.getElem?_cons_succ, List.getElem?_cons_zero] at cKa0 cKa1 cKa2 cKa3 cKa4 cKa5 cKm0 cKm1 cKm2 cKm3 cKm4 cKm5
      go_wp2_with fail
      refine (HP2.out _).mono ?_
      rintro e_ w23 ⟨rfl, hb23⟩
      replace Ka := Ka.below hb23 (by first | exact lKa | (have := lKa; simp; omega))
      replace Km := Km.below hb23 (by first | exact lKm | (have := lKm; simp; omega))
      replace hbw : Below w.heap.size w w23 := btrans (by (repeat' (first | refine bset ?_ (by first | omega | (simp <;> omega)) _ | refine balloc ?_ _ | refine Below.drew ?_ | refine below_drewN ?_ _ | exact hbw | exact Below.refl _ _))) hb23
      clear hb23 lKa cKa0 cKa1 cKa2 cKa3 cKa4 cKa5 lKm cKm0 cKm1 cKm2 cKm3 cKm4 cKm5
      have lKa := Ka.lt
      have cKa0 := Ka.cell 0
      have cKa1 := Ka.cell 1
      have cKa2 := Ka.cell 2
      have cKa3 := Ka.cell 3
      have cKa4 := Ka.cell 4
      have cKa5 := Ka.cell 5
      have lKm := Km.lt
      have cKm0 := Km.cell 0
      have cKm1 := Km.cell 1
      have cKm2 := Km.cell 2
      have cKm3 := Km.cell 3
      have cKm4 := Km.cell 4
      have cKm5 := Km.cell 5
      simp only [List.getElem?_toArray, List.getElem?_cons_succ, List.getElem?_cons_zero] at cKa0 cKa1 cKa2 cKa3 cKa4 cKa5 cKm0 cKm1 cKm2 cKm3 cKm4 cKm5
      go_wp2_with fail
      refine (HI.out _).mono ?_
      rintro e_ w24 ⟨rfl, hb24⟩
      replace Ka := Ka.below hb24 (by first | exact lKa | (have := lKa; simp; omega))
      replace Km := Km.below hb24 (by first | exact lKm | (have := lKm; simp; omega))
      replace hbw : Below w.heap.size w w24 := btrans (by (repeat' (first | refine bset ?_ (by first | omega | (simp <;> omega)) _ | refine balloc ?_ _ | refine Below.drew ?_ | refine below_drewN ?_ _ | exact hbw | exact Below.refl _ _))) hb24
      clear hb24 lKa cKa0 cKa1 cKa2 cKa3 cKa4 cKa5 lKm cKm0 cKm1 cKm2 cKm3 cKm4 cKm5
      have lKa := Ka.lt
      have cKa0 := Ka.cell 0
      have cKa1 := Ka.cell 1
      have cKa2 := Ka.cell 2
      have cKa3 := Ka.cell 3
      have cKa4 := Ka.cell 4
      have cKa5 := Ka.cell 5
      have lKm := Km.lt
      have cKm0 := Km.cell 0
      have cKm1 := Km.cell 1
      have cKm2 := Km.cell 2
      have cKm3 := Km.cell 3
      have cKm4 := Km.cell 4
      have cKm5 := Km.cell 5
      simp only [List.getElem?_toArray, List.getElem?_cons_succ, List.getElem?_cons_zero] at cKa0 cKa1 cKa2 cKa3 cKa4 cKa5 cKm0 cKm1 cKm2 cKm3 cKm4 cKm5
      go_wp2_with fail
      refine (HWd.out _).mono ?_
      rintro e_ w25 ⟨rfl, hb25⟩
      replace Ka := (Ka.alloc (.cells #[.int .i64 0, .int .i64 0, .int .i64 0, .int .i64 0, .int .i64 0, .int .i64 0] 23)).below hb25 (by first | exact lKa | (have := lKa; simp; omega))
      replace Km := (Km.alloc (.cells #[.int .i64 0, .int .i64 0, .int .i64 0, .int .i64 0, .int .i64 0, .int .i64 0] 23)).below hb25 (by first | exact lKm | (have := lKm; simp; omega))
      have Ki := (Blk.new w24 23 #[.int .i64 0, .int .i64 0, .int .i64 0, .int .i64 0, .int .i64 0, .int .i64 0]).below hb25 (by simp)
      replace hbw : Below w.heap.size w w25 := btrans (by (repeat' (first | refine bset ?_ (by first | omega | (simp <;> omega)) _ | refine balloc ?_ _ | refine Below.drew ?_ | refine below_drewN ?_ _ | exact hbw | exact Below.refl _ _))) hb25
      clear hb25 lKa cKa0 cKa1 cKa2 cKa3 cKa4 cKa5 lKm cKm0 cKm1 cKm2 cKm3 cKm4 cKm5
      have lKa := Ka.lt
      have cKa0 := Ka.cell 0
      have cKa1 := Ka.cell 1
      have cKa2 := Ka.cell 2
      have cKa3 := Ka.cell 3
      have cKa4 := Ka.cell 4
      have cKa5 := Ka.cell 5
      have lKm := Km.lt
      have cKm0 := Km.cell 0
      have cKm1 := Km.cell 1
      have cKm2 := Km.cell 2
      have cKm3 := Km.cell 3
      have cKm4 := Km.cell 4
      have cKm5 := Km.cell 5
      have lKi := Ki.lt
      have cKi0 := Ki.cell 0
      have cKi1 := Ki.cell 1
      have cKi2 := Ki.cell 2
      have cKi3 := Ki.cell 3
      have cKi4 := Ki.cell 4
      have cKi5 := Ki.cell 5
      simp only [List.getElem?_toArray, List.getElem?_cons_succ, List.getElem?_cons_zero] at cKa0 cKa1 cKa2 cKa3 cKa4 cKa5 cKm0 cKm1 cKm2 cKm3 cKm4 cKm5 cKi0 cKi1 cKi2 cKi3 cKi4 cKi5
      go_wp2_with fail
      go_ret
      exact ⟨rfl, hbw⟩

set_option maxRecDepth 100000 in
set_option maxHeartbeats 3200000 in
theorem mback_yes (a0 a1 a2 a3 a4 a5 x0 y0 s0 s1 s2 s3 s4 s5 x y : Int) (w : World) (e0 : a0 % 81 - 40 = s0) (e1 : a1 % 81 - 40 = s1) (e2 : a2 % 81 - 40 = s2) (e3 : a3 % 81 - 40 = s3) (e4 : a4 % 81 - 40 = s4) (e5 : a5 % 81 - 40 = s5) (ex : x0 % 81 - 40 = x) (ey : y0 % 81 - 40 = y) (hd : ¬ s0 * s3 = s1 * s2) :
    Calls Try.prog 11 #[.agg #[.int .i64 a0, .int .i64 a1, .int .i64 a2, .int .i64 a3, .int .i64 a4, .int .i64 a5], .int .i64 x0, .int .i64 y0] w fun ed w' => ed = .returned (.bool true) ∧ Below w.heap.size w w' := by
  have b0 : -40 ≤ s0 ∧ s0 ≤ 40 := by omega
  have b1 : -40 ≤ s1 ∧ s1 ≤ 40 := by omega
  have b2 : -40 ≤ s2 ∧ s2 ≤ 40 := by omega
  have b3 : -40 ≤ s3 ∧ s3 ≤ 40 := by omega
  have b4 : -40 ≤ s4 ∧ s4 ≤ 40 := by omega
  have b5 : -40 ≤ s5 ∧ s5 ≤ 40 := by omega
  have bx : -40 ≤ x ∧ x ≤ 40 := by omega
  have by_ : -40 ≤ y ∧ y ≤ 40 := by omega
  have HS0 := Lib.hid (fun W => show Calls Try.prog 33 #[.int .i64 a0] W fun ed w' => ed = .returned (.int .i64 s0) ∧ W = w' by have := small_any a0 W; rw [e0] at this; exact this)
  have HS1 := Lib.hid (fun W => show Calls Try.prog 33 #[.int .i64 a1] W fun ed w' => ed = .returned (.int .i64 s1) ∧ W = w' by have := small_any a1 W; rw [e1] at this; exact this)
  have HS2 := Lib.hid (fun W => show Calls Try.prog 33 #[.int .i64 a2] W fun ed w' => ed = .returned (.int .i64 s2) ∧ W = w' by have := small_any a2 W; rw [e2] at this; exact this)
  have HS3 := Lib.hid (fun W => show Calls Try.prog 33 #[.int .i64 a3] W fun ed w' => ed = .returned (.int .i64 s3) ∧ W = w' by have := small_any a3 W; rw [e3] at this; exact this)
  have HS4 := Lib.hid (fun W => show Calls Try.prog 33 #[.int .i64 a4] W fun ed w' => ed = .returned (.int .i64 s4) ∧ W = w' by have := small_any a4 W; rw [e4] at this; exact this)
  have HS5 := Lib.hid (fun W => show Calls Try.prog 33 #[.int .i64 a5] W fun ed w' => ed = .returned (.int .i64 s5) ∧ W = w' by have := small_any a5 W; rw [e5] at this; exact this)
  have HSx := Lib.hid (fun W => show Calls Try.prog 33 #[.int .i64 x0] W fun ed w' => ed = .returned (.int .i64 x) ∧ W = w' by have := small_any x0 W; rw [ex] at this; exact this)
  have HSy := Lib.hid (fun W => show Calls Try.prog 33 #[.int .i64 y0] W fun ed w' => ed = .returned (.int .i64 y) ∧ W = w' by have := small_any y0 W; rw [ey] at this; exact this)
  have HW := Lib.hid (fun W => Whole_any s0 s1 s2 s3 s4 s5 W (by omega) (by omega) (by omega) (by omega) (by omega) (by omega))
  have m1 := mul40 b0 bx
  have m2 := mul40 b2 by_
  have m3 := mul40 b1 bx
  have m4 := mul40 b3 by_
  have m5 := mul40 b0 b3
  have m6 := mul40 b1 b2
  have P1 := fun W => point_whole s0 s1 s2 s3 s4 s5 x y W b0 b1 b2 b3 b4 b5 bx by_
  have P2 := fun W => back_whole s0 s1 s2 s3 s4 s5 x y W b0 b1 b2 b3 b4 b5 bx by_ hd
  generalize (s0 * x + s2 * y + s4) = u at *
  generalize (s1 * x + s3 * y + s5) = v at *
  generalize hz1 : s0 * s3 = z1 at *
  generalize hz2 : s1 * s2 = z2 at *
  have hz : (z1 == z2) = false := by simp; omega
  have HP1 := Lib.hid P1
  have HP2 := Lib.hid P2
  clear P1 P2 m1 m2 m3 m4 hd ex ey e0 e1 e2 e3 e4 e5
  obtain ⟨bx0, bx1⟩ := bx
  obtain ⟨by0, by1⟩ := by_
  obtain ⟨m50, m51⟩ := m5
  obtain ⟨m60, m61⟩ := m6
  obtain ⟨b00, b01⟩ := b0
  obtain ⟨b10, b11⟩ := b1
  obtain ⟨b20, b21⟩ := b2
  obtain ⟨b30, b31⟩ := b3
  obtain ⟨b40, b41⟩ := b4
  obtain ⟨b50, b51⟩ := b5
  have K0 := Blk.new w 51 #[.int .i64 a0, .int .i64 a1, .int .i64 a2, .int .i64 a3, .int .i64 a4, .int .i64 a5]
  go_enter Try.func11, Try.ntmps11
  go_wp2_with fail
  refine (known_any _).mono ?_
  rintro e_ w1 ⟨rfl, hb1⟩
  replace K0 := K0.below hb1 (by simp)
  have hbw : Below w.heap.size w w1 := btrans (by (repeat' (first | exact Below.refl _ _ | exact Below.refl _ _ | refine balloc ?_ _ | refine Below.drew ?_ | refine below_drewN ?_ _ | refine bset ?_ (by first | omega | (simp <;> omega)) _))) hb1
  have HK := Lib.hid K0
  have HB := Lib.hid hbw
  clear K0 hb1 hbw
  go_wp2_with fail
  go_loopw [7] (fun c wr => ∃ k : Nat, k ≤ 6 ∧ c = .int .i64 k ∧ Blk wr w.heap.size 51 (arrS a0 a1 a2 a3 a4 a5 s0 s1 s2 s3 s4 s5 k) ∧ Below w.heap.size w wr) (fun c _ => 6 - (intOf c).toNat)
  case atStart => exact ⟨0, by omega, rfl, HK.out, HB.out⟩
  case round =>
    obtain ⟨k, hk, rfl, Ka, hbw⟩ := hrel
    rcases (show k = 0 ∨ k = 1 ∨ k = 2 ∨ k = 3 ∨ k = 4 ∨ k = 5 ∨ k = 6 by omega) with h | h | h | h | h | h | h <;> subst h
    · have c0 := Ka.cell 0
      have f0 := Ka.frozen 0
      simp only [arrS, List.getElem?_toArray, List.getElem?_cons_succ, List.getElem?_cons_zero] at c0
      have HN := Lib.hid (Ka.set_ 0 (.int .i64 s0))
      have HB2 := Lib.hid hbw
      clear Ka hbw
      go_wp2_with fail
      refine (HS0.out _).mono ?_
      rintro e_ w_ ⟨rfl, rfl⟩
      go_wp2_with fail
      go_roundw
      case rel => exact ⟨1, by omega, rfl, HN.out, bset HB2.out (Nat.le_refl _) _⟩
      case measure => simp [intOf]
    · have c0 := Ka.cell 1
      have f0 := Ka.frozen 1
      simp only [arrS, List.getElem?_toArray, List.getElem?_cons_succ, List.getElem?_cons_zero] at c0
      have HN := Lib.hid (Ka.set_ 1 (.int .i64 s1))
      have HB2 := Lib.hid hbw
      clear Ka hbw
      go_wp2_with fail
      refine (HS1.out _).mono ?_
      rintro e_ w_ ⟨rfl, rfl⟩
      go_wp2_with fail
      go_roundw
      case rel => exact ⟨2, by omega, rfl, HN.out, bset HB2.out (Nat.le_refl _) _⟩
      case measure => simp [intOf]
    · have c0 := Ka.cell 2
      have f0 := Ka.frozen 2
      simp only [arrS, List.getElem?_toArray, List.getElem?_cons_succ, List.getElem?_cons_zero] at c0
      have HN := Lib.hid (Ka.set_ 2 (.int .i64 s2))
      have HB2 := Lib.hid hbw
      clear Ka hbw
      go_wp2_with fail
      refine (HS2.out _).mono ?_
      rintro e_ w_ ⟨rfl, rfl⟩
      go_wp2_with fail
      go_roundw
      case rel => exact ⟨3, by omega, rfl, HN.out, bset HB2.out (Nat.le_refl _) _⟩
      case measure => simp [intOf]
    · have c0 := Ka.cell 3
      have f0 := Ka.frozen 3
      simp only [arrS, List.getElem?_toArray, List.getElem?_cons_succ, List.getElem?_cons_zero] at c0
      have HN := Lib.hid (Ka.set_ 3 (.int .i64 s3))
      have HB2 := Lib.hid hbw
      clear Ka hbw
      go_wp2_with fail
      refine (HS3.out _).mono ?_
      rintro e_ w_ ⟨rfl, rfl⟩
      go_wp2_with fail
      go_roundw
      case rel => exact ⟨4, by omega, rfl, HN.out, bset HB2.out (Nat.le_refl _) _⟩
      case measure => simp [intOf]
    · have c0 := Ka.cell 4
      have f0 := Ka.frozen 4
      simp only [arrS, List.getElem?_toArray, List.getElem?_cons_succ, List.getElem?_cons_zero] at c0
      have HN := Lib.hid (Ka.set_ 4 (.int .i64 s4))
      have HB2 := Lib.hid hbw
      clear Ka hbw
      go_wp2_with fail
      refine (HS4.out _).mono ?_
      rintro e_ w_ ⟨rfl, rfl⟩
      go_wp2_with fail
      go_roundw
      case rel => exact ⟨5, by omega, rfl, HN.out, bset HB2.out (Nat.le_refl _) _⟩
      case measure => simp [intOf]
    · have c0 := Ka.cell 5
      have f0 := Ka.frozen 5
      simp only [arrS, List.getElem?_toArray, List.getElem?_cons_succ, List.getElem?_cons_zero] at c0
      have HN := Lib.hid (Ka.set_ 5 (.int .i64 s5))
      have HB2 := Lib.hid hbw
      clear Ka hbw
      go_wp2_with fail
      refine (HS5.out _).mono ?_
      rintro e_ w_ ⟨rfl, rfl⟩
      go_wp2_with fail
      go_roundw
      case rel => exact ⟨6, by omega, rfl, HN.out, bset HB2.out (Nat.le_refl _) _⟩
      case measure => simp [intOf]
    · replace Ka : Blk wr w.heap.size 51 #[.int .i64 s0, .int .i64 s1, .int .i64 s2, .int .i64 s3, .int .i64 s4, .int .i64 s5] := Ka
      have lKa := Ka.lt
      have cKa0 := Ka.cell 0
      have cKa1 := Ka.cell 1
      have cKa2 := Ka.cell 2
      have cKa3 := Ka.cell 3
      have cKa4 := Ka.cell 4
      have cKa5 := Ka.cell 5
      simp only [List.getElem?_toArray, List.getElem?_cons_succ, List.getElem?_cons_zero] at cKa0 cKa1 cKa2 cKa3 cKa4 cKa5
      go_wp2_with fail
      refine (HSx.out _).mono ?_
      rintro e_ w_ ⟨rfl, rfl⟩
      go_wp2_with fail
      refine (HSy.out _).mono ?_
      rintro e_ w_ ⟨rfl, rfl⟩
      go_wp2_with fail
      refine (HW.out _).mono ?_
      rintro e_ w21 ⟨rfl, hb21⟩
      replace Ka := Ka.below hb21 (by first | exact lKa | (have := lKa; simp; omega))
      replace hbw : Below w.heap.size w w21 := btrans (by (repeat' (first | refine bset ?_ (by first | omega | (simp <;> omega)) _ | refine balloc ?_ _ | refine Below.drew ?_ | refine below_drewN ?_ _ | exact hbw | exact Below.refl _ _))) hb21
      clear hb21 lKa cKa0 cKa1 cKa2 cKa3 cKa4 cKa5
      have lKa := Ka.lt
      have cKa0 := Ka.cell 0
      have cKa1 := Ka.cell 1
      have cKa2 := Ka.cell 2
      have cKa3 := Ka.cell 3
      have cKa4 := Ka.cell 4
      have cKa5 := Ka.cell 5
      simp only [List.getElem?_toArray, List.getElem?_cons_succ, List.getElem?_cons_zero] at cKa0 cKa1 cKa2 cKa3 cKa4 cKa5
      go_wp2_with fail
      refine (HP1.out _).mono ?_
      rintro e_ w22 ⟨rfl, hb22⟩
      replace Ka := (Ka.alloc (.cells #[.int .i64 (s0 * 65536), .int .i64 (s1 * 65536), .int .i64 (s2 * 65536), .int .i64 (s3 * 65536), .int .i64 (s4 * 65536), .int .i64 (s5 * 65536)] 23)).below hb22 (by first | exact lKa | (have := lKa; simp; omega))
      have Km := (Blk.new w21 23 #[.int .i64 (s0 * 65536), .int .i64 (s1 * 65536), .int .i64 (s2 * 65536), .int .i64 (s3 * 65536), .int .i64 (s4 * 65536), .int .i64 (s5 * 65536)]).below hb22 (by simp)
      replace hbw : Below w.heap.size w w22 := btrans (by (repeat' (first | refine bset ?_ (by first | omega | (simp <;> omega)) _ | refine balloc ?_ _ | refine Below.drew ?_ | refine below_drewN ?_ _ | exact hbw | exact Below.refl _ _))) hb22
      clear hb22 lKa cKa0 cKa1 cKa2 cKa3 cKa4 cKa5
      have lKa := Ka.lt
      have cKa0 := Ka.cell 0
      have cKa1 := Ka.cell 1
      have cKa2 := Ka.cell 2
      have cKa3 := Ka.cell 3
      have cKa4 := Ka.cell 4
      have cKa5 := Ka.cell 5
      have lKm := Km.lt
      have cKm0 := Km.cell 0
      have cKm1 := Km.cell 1
      have cKm2 := Km.cell 2
      have cKm3 := Km.cell 3
      have cKm4 := Km.cell 4
      have cKm5 := Km.cell 5
      simp only [List.getElem?_toArray, List.getElem?_cons_succ, List.getElem?_cons_zero] at cKa0 cKa1 cKa2 cKa3 cKa4 cKa5 cKm0 cKm1 cKm2 cKm3 cKm4 cKm5
      go_wp2_with fail
      refine (HP2.out _).mono ?_
      rintro e_ w23 ⟨rfl, hb23⟩
      replace Ka := Ka.below hb23 (by first | exact lKa | (have := lKa; simp; omega))
      replace Km := Km.below hb23 (by first | exact lKm | (have := lKm; simp; omega))
      replace hbw : Below w.heap.size w w23 := btrans (by (repeat' (first | refine bset ?_ (by first | omega | (simp <;> omega)) _ | refine balloc ?_ _ | refine Below.drew ?_ | refine below_drewN ?_ _ | exact hbw | exact Below.refl _ _))) hb23
      clear hb23 lKa cKa0 cKa1 cKa2 cKa3 cKa4 cKa5 lKm cKm0 cKm1 cKm2 cKm3 cKm4 cKm5
      have lKa := Ka.lt
      have cKa0 := Ka.cell 0
      have cKa1 := Ka.cell 1
      have cKa2 := Ka.cell 2
      have cKa3 := Ka.cell 3
      have cKa4 := Ka.cell 4
      have cKa5 := Ka.cell 5
      have lKm := Km.lt
      have cKm0 := Km.cell 0
      have cKm1 := Km.cell 1
      have cKm2 := Km.cell 2
      have cKm3 := Km.cell 3
      have cKm4 := Km.cell 4
      have cKm5 := Km.cell 5
      simp only [List.getElem?_toArray, List.getElem?_cons_succ, List.getElem?_cons_zero] at cKa0 cKa1 cKa2 cKa3 cKa4 cKa5 cKm0 cKm1 cKm2 cKm3 cKm4 cKm5
      go_wp2_with fail
      go_ret
      exact ⟨rfl, hbw⟩

theorem mback_law (a0 a1 a2 a3 a4 a5 x y : Int) (w : World) (_h0 : -9223372036854775808 ≤ a0 ∧ a0 ≤ 9223372036854775807) (_h1 : -9223372036854775808 ≤ a1 ∧ a1 ≤ 9223372036854775807) (_h2 : -9223372036854775808 ≤ a2 ∧ a2 ≤ 9223372036854775807) (_h3 : -9223372036854775808 ≤ a3 ∧ a3 ≤ 9223372036854775807) (_h4 : -9223372036854775808 ≤ a4 ∧ a4 ≤ 9223372036854775807) (_h5 : -9223372036854775808 ≤ a5 ∧ a5 ≤ 9223372036854775807) (_hx : -9223372036854775808 ≤ x ∧ x ≤ 9223372036854775807) (_hy : -9223372036854775808 ≤ y ∧ y ≤ 9223372036854775807) : Calls Try.prog 11 #[.agg #[.int .i64 a0, .int .i64 a1, .int .i64 a2, .int .i64 a3, .int .i64 a4, .int .i64 a5], .int .i64 x, .int .i64 y] w fun ed w' => ed = .returned (.bool true) ∧ Below w.heap.size w w' := by
  by_cases hd : (a0 % 81 - 40) * (a3 % 81 - 40) = (a1 % 81 - 40) * (a2 % 81 - 40)
  · exact mback_flat a0 a1 a2 a3 a4 a5 x y _ _ _ _ _ _ _ _ w rfl rfl rfl rfl rfl rfl rfl rfl hd
  · exact mback_yes a0 a1 a2 a3 a4 a5 x y _ _ _ _ _ _ _ _ w rfl rfl rfl rfl rfl rfl rfl rfl hd
end Go.Proofs.Ytaephahcohdbpaa.mt
