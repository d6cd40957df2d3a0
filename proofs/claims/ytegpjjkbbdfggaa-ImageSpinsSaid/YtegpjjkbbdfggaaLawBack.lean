/-
  Layer 24 in the seat of the images: matrices of whole numbers (the text of mat/XLawBack).
-/
import Derived.Test.YtegpjjkbbdfggaaExact
import Derived.Test.YtegpjjkbbdfggaaBackI
namespace Go.Proofs.Ytegpjjkbbdfggaa.mt
set_option linter.unusedVariables false
set_option linter.unusedSimpArgs false
open Go.RowKit bs
set_option maxRecDepth 100000 in
theorem mul16 (a b : Int) : a * 65536 * (b * 65536) = a * b * 4294967296 := by
  rw [Int.mul_assoc a 65536, Int.mul_left_comm 65536 b 65536, ← Int.mul_assoc a b]
  omega
set_option maxRecDepth 100000 in
theorem mul40 {a b : Int} (ha : -40 ≤ a ∧ a ≤ 40) (hb : -40 ≤ b ∧ b ≤ 40) : -1600 ≤ a * b ∧ a * b ≤ 1600 := by
  have h1 := Int.mul_nonneg (show 0 ≤ 40 - a by omega) (show 0 ≤ 40 - b by omega)
  have h2 := Int.mul_nonneg (show 0 ≤ 40 + a by omega) (show 0 ≤ 40 + b by omega)
  have h3 := Int.mul_nonneg (show 0 ≤ 40 - a by omega) (show 0 ≤ 40 + b by omega)
  have h4 := Int.mul_nonneg (show 0 ≤ 40 + a by omega) (show 0 ≤ 40 - b by omega)
  simp only [Int.sub_mul, Int.mul_sub, Int.add_mul, Int.mul_add] at h1 h2 h3 h4
  omega
set_option maxRecDepth 100000 in
theorem whole_may {s0 s1 s2 s3 s4 s5 : Int} (b0 : -40 ≤ s0 ∧ s0 ≤ 40) (b1 : -40 ≤ s1 ∧ s1 ≤ 40) (b2 : -40 ≤ s2 ∧ s2 ≤ 40) (b3 : -40 ≤ s3 ∧ s3 ≤ 40) (b4 : -40 ≤ s4 ∧ s4 ≤ 40) (b5 : -40 ≤ s5 ∧ s5 ≤ 40) : mayB (s0 * 65536) (s1 * 65536) (s2 * 65536) (s3 * 65536) (s4 * 65536) (s5 * 65536) = true := mayB_true (by omega) (by omega) (by omega) (by omega) (by omega) (by omega)
set_option maxRecDepth 100000 in
theorem point_whole (s0 s1 s2 s3 s4 s5 x y : Int) (W : World) (b0 : -40 ≤ s0 ∧ s0 ≤ 40) (b1 : -40 ≤ s1 ∧ s1 ≤ 40) (b2 : -40 ≤ s2 ∧ s2 ≤ 40) (b3 : -40 ≤ s3 ∧ s3 ≤ 40) (b4 : -40 ≤ s4 ∧ s4 ≤ 40) (b5 : -40 ≤ s5 ∧ s5 ≤ 40) (bx : -40 ≤ x ∧ x ≤ 40) (by_ : -40 ≤ y ∧ y ≤ 40) : Calls Try.prog 45 #[.agg #[.int .i64 (s0 * 65536), .int .i64 (s1 * 65536), .int .i64 (s2 * 65536), .int .i64 (s3 * 65536), .int .i64 (s4 * 65536), .int .i64 (s5 * 65536)], .int .i64 (x * 65536), .int .i64 (y * 65536)] W fun ed w' => ed = .returned (.tuple #[.int .i64 (s0 * x + s2 * y + s4), .int .i64 (s1 * x + s3 * y + s5), .int .i64 0]) ∧ Below W.heap.size W w' := by
  have m1 := mul40 b0 bx
  have m2 := mul40 b2 by_
  have m3 := mul40 b1 bx
  have m4 := mul40 b3 by_
  have hx : xPoint (s0 * 65536) (s1 * 65536) (s2 * 65536) (s3 * 65536) (s4 * 65536) (s5 * 65536) (x * 65536) (y * 65536) = (s0 * x + s2 * y + s4) := by
    unfold xPoint
    rw [mul16, mul16, show s0 * x * 4294967296 + s2 * y * 4294967296 + s4 * 65536 * 65536 = (s0 * x + s2 * y + s4) * 4294967296 by omega]
    exact even32_exact _
  have hy : yPoint (s0 * 65536) (s1 * 65536) (s2 * 65536) (s3 * 65536) (s4 * 65536) (s5 * 65536) (x * 65536) (y * 65536) = (s1 * x + s3 * y + s5) := by
    unfold yPoint
    rw [mul16, mul16, show s1 * x * 4294967296 + s3 * y * 4294967296 + s5 * 65536 * 65536 = (s1 * x + s3 * y + s5) * 4294967296 by omega]
    exact even32_exact _
  have hb : bPoint (s0 * 65536) (s1 * 65536) (s2 * 65536) (s3 * 65536) (s4 * 65536) (s5 * 65536) (x * 65536) (y * 65536) = true := by unfold bPoint; rw [hx, hy]; exact nearB_true (by omega) (by omega)
  have := Point_yes (s0 * 65536) (s1 * 65536) (s2 * 65536) (s3 * 65536) (s4 * 65536) (s5 * 65536) (x * 65536) (y * 65536) W (goodB_true (whole_may b0 b1 b2 b3 b4 b5) (by omega) (by omega))
  rw [hb, hx, hy] at this
  exact this
set_option maxRecDepth 100000 in
theorem det_whole (s0 s1 s2 s3 s4 s5 : Int) : s0 * 65536 * (s3 * 65536) - s1 * 65536 * (s2 * 65536) = (s0 * s3 - s1 * s2) * 4294967296 := by rw [mul16, mul16]; omega
set_option maxRecDepth 100000 in
set_option maxHeartbeats 1600000 in
theorem Invert_zero (A B C D E F : Int) (w : World) (h : mayB A B C D E F = true) (hd : A * D - B * C = 0) : Calls Try.prog 43 #[.agg #[.int .i64 A, .int .i64 B, .int .i64 C, .int .i64 D, .int .i64 E, .int .i64 F]] w fun ed w' => ed = .returned (.tuple #[.agg #[.int .i64 0, .int .i64 0, .int .i64 0, .int .i64 0, .int .i64 0, .int .i64 0], .int .i64 14]) ∧ Below w.heap.size w w' := by
  have HA := Lib.hid (fun W => show Calls Try.prog 66 #[.agg #[.int .i64 A, .int .i64 B, .int .i64 C, .int .i64 D, .int .i64 E, .int .i64 F]] W fun ed w' => ed = .returned (.bool true) ∧ Below W.heap.size W w' by have := may_any A B C D E F W; rw [h] at this; exact this)
  have HD := Lib.hid (fun W => show Calls Try.prog 68 #[.agg #[.int .i64 A, .int .i64 B, .int .i64 C, .int .i64 D, .int .i64 E, .int .i64 F]] W fun ed w' => ed = .returned (.int .i64 0) ∧ Below W.heap.size W w' by rw [← hd]; exact det_any A B C D E F W h)
  clear h hd
  have K1 := (Blk.new w 25 #[.int .i64 A, .int .i64 B, .int .i64 C, .int .i64 D, .int .i64 E, .int .i64 F]).alloc (.cells #[.int .i64 0, .int .i64 0, .int .i64 0, .int .i64 0, .int .i64 0, .int .i64 0] 25)
  have K2 := Blk.new (w.alloc (.cells #[.int .i64 A, .int .i64 B, .int .i64 C, .int .i64 D, .int .i64 E, .int .i64 F] 25)) 25 #[.int .i64 0, .int .i64 0, .int .i64 0, .int .i64 0, .int .i64 0, .int .i64 0]
  have s1 : (w.alloc (.cells #[.int .i64 A, .int .i64 B, .int .i64 C, .int .i64 D, .int .i64 E, .int .i64 F] 25)).heap.size = w.heap.size + 1 := by simp
  rw [s1] at K2
  clear s1
  go_enter Try.func43, Try.ntmps43
  go_wp2_with fail
  refine (HA.out _).mono ?_
  rintro e_ w1 ⟨rfl, hb1⟩
  replace K1 := K1.below hb1 (by simp; omega)
  replace K2 := K2.below hb1 (by simp)
  have hbw : Below w.heap.size w w1 := btrans (by (repeat' (first | exact Below.refl _ _ | exact Below.refl _ _ | refine balloc ?_ _ | refine Below.drew ?_ | refine below_drewN ?_ _ | refine bset ?_ (by first | omega | (simp <;> omega)) _))) hb1
  have p0 := K1.cell 0
  have p1 := K1.cell 1
  have p2 := K1.cell 2
  have p3 := K1.cell 3
  have p4 := K1.cell 4
  have p5 := K1.cell 5
  simp only [List.getElem?_toArray, List.getElem?_cons_succ, List.getElem?_cons_zero] at p0 p1 p2 p3 p4 p5
  have l2 := K2.lt
  clear hb1
  go_wp2_with fail
  refine (HD.out _).mono ?_
  rintro e_ w2 ⟨rfl, hb1⟩
  replace K2 := K2.below hb1 l2
  replace hbw := btrans hbw hb1
  clear hb1 l2 K1 p0 p1 p2 p3 p4 p5
  have q0 := K2.cell 0
  have f0 := K2.frozen 0
  have q1 := K2.cell 1
  have f1 := K2.frozen 1
  have q2 := K2.cell 2
  have f2 := K2.frozen 2
  have q3 := K2.cell 3
  have f3 := K2.frozen 3
  have q4 := K2.cell 4
  have f4 := K2.frozen 4
  have q5 := K2.cell 5
  have f5 := K2.frozen 5
  simp only [List.getElem?_toArray, List.getElem?_cons_succ, List.getElem?_cons_zero] at q0 q1 q2 q3 q4 q5
  have HK := Lib.hid K2
  have HBW := Lib.hid hbw
  clear K2 hbw
  go_wp2_with fail
  have K := (((((HK.out.set_ 0 (.int .i64 0)).set_ 1 (.int .i64 0)).set_ 2 (.int .i64 0)).set_ 3 (.int .i64 0)).set_ 4 (.int .i64 0)).set_ 5 (.int .i64 0)
  refine ret_struct2 (g := w.heap.size + 1) (t := 25) (cs := #[.int .i64 0, .int .i64 0, .int .i64 0, .int .i64 0, .int .i64 0, .int .i64 0]) rfl rfl ?_ Try.underlying25 rfl rfl rfl ?_
  · exact K
  · exact ⟨rfl, by (repeat' (first | refine bset ?_ (by first | omega | (simp <;> omega)) _ | refine balloc ?_ _ | refine Below.drew ?_ | refine below_drewN ?_ _ | exact HBW.out | exact Below.refl _ _))⟩
end Go.Proofs.Ytegpjjkbbdfggaa.mt
