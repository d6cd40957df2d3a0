/-
  Layer 24: Back.
-/
import Derived.Test.YtegpjjkbbdfggaaNearI
namespace Go.Proofs.Ytegpjjkbbdfggaa.mt
set_option linter.unusedVariables false
set_option linter.unusedSimpArgs false
open Go.RowKit bs

set_option maxHeartbeats 1600000 in
theorem Back_no1 (A B C D E F x y : Int) (w : World) (h : mayB A B C D E F = false) : Calls Try.prog 26 #[.agg #[.int .i64 A, .int .i64 B, .int .i64 C, .int .i64 D, .int .i64 E, .int .i64 F], .int .i64 x, .int .i64 y] w fun ed w' => ed = .returned (.tuple #[.int .i64 0, .int .i64 0, .int .i64 1]) ∧ Below w.heap.size w w' := by
  have HA := Lib.hid (fun W => show Calls Try.prog 66 #[.agg #[.int .i64 A, .int .i64 B, .int .i64 C, .int .i64 D, .int .i64 E, .int .i64 F]] W fun ed w' => ed = .returned (.bool false) ∧ Below W.heap.size W w' by have := may_any A B C D E F W; rw [h] at this; exact this)
  have K1 := Blk.new w 25 #[.int .i64 A, .int .i64 B, .int .i64 C, .int .i64 D, .int .i64 E, .int .i64 F]
  go_enter Try.func26, Try.ntmps26
  go_wp2_with fail
  refine (HA.out _).mono ?_
  rintro e_ w1 ⟨rfl, hb1⟩
  replace K1 := K1.below hb1 (by simp)
  have hbw : Below w.heap.size w w1 := btrans (by (repeat' (first | exact Below.refl _ _ | exact Below.refl _ _ | refine balloc ?_ _ | refine Below.drew ?_ | refine below_drewN ?_ _ | refine bset ?_ (by first | omega | (simp <;> omega)) _))) hb1
  clear hb1
  clear K1
  go_wp2_with fail
  go_ret3
  exact ⟨rfl, hbw⟩

set_option maxHeartbeats 1600000 in
theorem Back_no2 (A B C D E F x y : Int) (w : World) (h : mayB A B C D E F = true) (hn : nearB x y 8191 = false) : Calls Try.prog 26 #[.agg #[.int .i64 A, .int .i64 B, .int .i64 C, .int .i64 D, .int .i64 E, .int .i64 F], .int .i64 x, .int .i64 y] w fun ed w' => ed = .returned (.tuple #[.int .i64 0, .int .i64 0, .int .i64 1]) ∧ Below w.heap.size w w' := by
  have HA := Lib.hid (fun W => show Calls Try.prog 66 #[.agg #[.int .i64 A, .int .i64 B, .int .i64 C, .int .i64 D, .int .i64 E, .int .i64 F]] W fun ed w' => ed = .returned (.bool true) ∧ Below W.heap.size W w' by have := may_any A B C D E F W; rw [h] at this; exact this)
  have HN := Lib.hid (fun W => show Calls Try.prog 67 #[.int .i64 x, .int .i64 y, .int .i64 8191] W fun ed w' => ed = .returned (.tuple #[.int .i64 0, .int .i64 0, .int .i64 2]) ∧ W = w' by have := near_any x y 8191 W (by omega) (by omega); rw [hn] at this; exact this)
  clear h hn
  have K1 := Blk.new w 25 #[.int .i64 A, .int .i64 B, .int .i64 C, .int .i64 D, .int .i64 E, .int .i64 F]
  go_enter Try.func26, Try.ntmps26
  go_wp2_with fail
  refine (HA.out _).mono ?_
  rintro e_ w1 ⟨rfl, hb1⟩
  replace K1 := K1.below hb1 (by simp)
  have hbw : Below w.heap.size w w1 := btrans (by (repeat' (first | exact Below.refl _ _ | exact Below.refl _ _ | refine balloc ?_ _ | refine Below.drew ?_ | refine below_drewN ?_ _ | refine bset ?_ (by first | omega | (simp <;> omega)) _))) hb1
  clear hb1
  have l1 := K1.lt
  have p0_ := K1.cell 0
  have p1_ := K1.cell 1
  have p2_ := K1.cell 2
  have p3_ := K1.cell 3
  have p4_ := K1.cell 4
  have p5_ := K1.cell 5
  simp only [List.getElem?_toArray, List.getElem?_cons_succ, List.getElem?_cons_zero] at p0_ p1_ p2_ p3_ p4_ p5_
  go_wp2_with fail
  refine (HN.out _).mono ?_
  rintro e_ w2 ⟨rfl, rfl⟩
  go_wp2_with fail
  go_ret3
  exact ⟨rfl, hbw⟩

set_option maxHeartbeats 1600000 in
theorem Back_zero (A B C D E F x y : Int) (w : World) (h : mayB A B C D E F = true) (hn : nearB x y 8191 = true) (hd : A * D - B * C = 0) : Calls Try.prog 26 #[.agg #[.int .i64 A, .int .i64 B, .int .i64 C, .int .i64 D, .int .i64 E, .int .i64 F], .int .i64 x, .int .i64 y] w fun ed w' => ed = .returned (.tuple #[.int .i64 0, .int .i64 0, .int .i64 14]) ∧ Below w.heap.size w w' := by
  obtain ⟨dt, hdt⟩ : ∃ dt, A * D - B * C = dt := ⟨_, rfl⟩
  have HA := Lib.hid (fun W => show Calls Try.prog 66 #[.agg #[.int .i64 A, .int .i64 B, .int .i64 C, .int .i64 D, .int .i64 E, .int .i64 F]] W fun ed w' => ed = .returned (.bool true) ∧ Below W.heap.size W w' by have := may_any A B C D E F W; rw [h] at this; exact this)
  have HN := Lib.hid (fun W => show Calls Try.prog 67 #[.int .i64 x, .int .i64 y, .int .i64 8191] W fun ed w' => ed = .returned (.tuple #[.int .i64 x, .int .i64 y, .int .i64 0]) ∧ W = w' by have := near_any x y 8191 W (by omega) (by omega); rw [hn] at this; exact this)
  have HD := Lib.hid (fun W => show Calls Try.prog 68 #[.agg #[.int .i64 A, .int .i64 B, .int .i64 C, .int .i64 D, .int .i64 E, .int .i64 F]] W fun ed w' => ed = .returned (.int .i64 dt) ∧ Below W.heap.size W w' by rw [← hdt]; exact det_any A B C D E F W h)
  rw [hdt] at hd
  subst hd
  clear h hn hdt
  have K1 := Blk.new w 25 #[.int .i64 A, .int .i64 B, .int .i64 C, .int .i64 D, .int .i64 E, .int .i64 F]
  go_enter Try.func26, Try.ntmps26
  go_wp2_with fail
  refine (HA.out _).mono ?_
  rintro e_ w1 ⟨rfl, hb1⟩
  replace K1 := K1.below hb1 (by simp)
  have hbw : Below w.heap.size w w1 := btrans (by (repeat' (first | exact Below.refl _ _ | exact Below.refl _ _ | refine balloc ?_ _ | refine Below.drew ?_ | refine below_drewN ?_ _ | refine bset ?_ (by first | omega | (simp <;> omega)) _))) hb1
  clear hb1
  have l1 := K1.lt
  have p0_ := K1.cell 0
  have p1_ := K1.cell 1
  have p2_ := K1.cell 2
  have p3_ := K1.cell 3
  have p4_ := K1.cell 4
  have p5_ := K1.cell 5
  simp only [List.getElem?_toArray, List.getElem?_cons_succ, List.getElem?_cons_zero] at p0_ p1_ p2_ p3_ p4_ p5_
  go_wp2_with fail
  refine (HN.out _).mono ?_
  rintro e_ w2 ⟨rfl, rfl⟩
  go_wp2_with fail
  refine (HD.out _).mono ?_
  rintro e_ w3 ⟨rfl, hb1⟩
  replace K1 := K1.below hb1 l1
  replace hbw := btrans hbw hb1
  clear hb1 l1 p0_ p1_ p2_ p3_ p4_ p5_
  clear K1
  go_wp2_with fail
  go_ret3
  exact ⟨rfl, hbw⟩

theorem nearB_bd {x y m : Int} (h : nearB x y m = true) : (-m ≤ x ∧ x ≤ m) ∧ (-m ≤ y ∧ y ≤ m) := by unfold nearB at h; simp at h; omega
/-- a product of a fix and a number of 31 bits -/
theorem fix_mul2 {a b : Int} (ha : -1073741823 ≤ a ∧ a ≤ 1073741823) (hb : -2147483647 ≤ b ∧ b ≤ 2147483647) : -2305843007066210881 ≤ a * b ∧ a * b ≤ 2305843007066210881 := by
  have h1 := Int.mul_nonneg (show 0 ≤ 1073741823 - a by omega) (show 0 ≤ 2147483647 - b by omega)
  have h2 := Int.mul_nonneg (show 0 ≤ 1073741823 + a by omega) (show 0 ≤ 2147483647 + b by omega)
  have h3 := Int.mul_nonneg (show 0 ≤ 1073741823 - a by omega) (show 0 ≤ 2147483647 + b by omega)
  have h4 := Int.mul_nonneg (show 0 ≤ 1073741823 + a by omega) (show 0 ≤ 2147483647 - b by omega)
  simp only [Int.sub_mul, Int.mul_sub, Int.add_mul, Int.mul_add] at h1 h2 h3 h4
  omega

set_option maxHeartbeats 1600000 in
theorem Back_yes (A B C D E F x y r s : Int) (w : World) (h : mayB A B C D E F = true) (hn : nearB x y 8191 = true) (hd : ¬ (A * D - B * C) = 0) (h1 : mulDiv (D * (x * 65536 - E) - C * (y * 65536 - F)) 65536 (A * D - B * C) = some r) (h2 : mulDiv (A * (y * 65536 - F) - B * (x * 65536 - E)) 65536 (A * D - B * C) = some s) : Calls Try.prog 26 #[.agg #[.int .i64 A, .int .i64 B, .int .i64 C, .int .i64 D, .int .i64 E, .int .i64 F], .int .i64 x, .int .i64 y] w fun ed w' => ed = .returned (.tuple #[.int .i64 (okI (nearB r s 1073741823) r), .int .i64 (okI (nearB r s 1073741823) s), .int .i64 (okE (nearB r s 1073741823))]) ∧ Below w.heap.size w w' := by
  obtain ⟨bA, bB, bC, bD, bE, bF⟩ := mayB_bd h
  obtain ⟨bx, by_⟩ := nearB_bd hn
  have m1 := fix_mul bA bD
  have m2 := fix_mul bB bC
  have HA := Lib.hid (fun W => show Calls Try.prog 66 #[.agg #[.int .i64 A, .int .i64 B, .int .i64 C, .int .i64 D, .int .i64 E, .int .i64 F]] W fun ed w' => ed = .returned (.bool true) ∧ Below W.heap.size W w' by have := may_any A B C D E F W; rw [h] at this; exact this)
  have HN := Lib.hid (fun W => show Calls Try.prog 67 #[.int .i64 x, .int .i64 y, .int .i64 8191] W fun ed w' => ed = .returned (.tuple #[.int .i64 x, .int .i64 y, .int .i64 0]) ∧ W = w' by have := near_any x y 8191 W (by omega) (by omega); rw [hn] at this; exact this)
  have HD0 := fun W => det_any A B C D E F W h
  obtain ⟨p, hp⟩ : ∃ p, x * 65536 - E = p := ⟨_, rfl⟩
  obtain ⟨q, hq⟩ : ∃ q, y * 65536 - F = q := ⟨_, rfl⟩
  rw [hp, hq] at h1 h2
  have bp : -2147483647 ≤ p ∧ p ≤ 2147483647 := by omega
  have bq : -2147483647 ≤ q ∧ q ≤ 2147483647 := by omega
  have n1 := fix_mul2 bD bp
  have n2 := fix_mul2 bC bq
  have n3 := fix_mul2 bA bq
  have n4 := fix_mul2 bB bp
  have db : -9223372036854775808 ≤ (A * D - B * C) ∧ (A * D - B * C) ≤ 9223372036854775807 := by omega
  generalize hdt : (A * D - B * C) = dt at *
  have S1 := fun W => mulDiv_any (D * p - C * q) 65536 dt W (by omega) (by omega) db
  have S2 := fun W => mulDiv_any (A * q - B * p) 65536 dt W (by omega) (by omega) db
  rw [h1] at S1
  rw [h2] at S2
  simp only [Option.getD_some, Option.isSome_some, Option.getD_none, Option.isSome_none] at S1 S2
  have S3 := fun W => near_any r s 1073741823 W (by omega) (by omega)
  generalize hp1 : D * p = p1 at *
  generalize hp2 : C * q = p2 at *
  generalize hp3 : A * q = p3 at *
  generalize hp4 : B * p = p4 at *
  have hd1 : (dt == 0) = false := by simp; omega
  have HD := Lib.hid HD0
  have HS1 := Lib.hid S1
  have HS2 := Lib.hid S2
  have HS3 := Lib.hid S3
  generalize okI (nearB r s 1073741823) r = or_ at *
  generalize okI (nearB r s 1073741823) s = os_ at *
  generalize okE (nearB r s 1073741823) = oe_ at *
  obtain ⟨bx0, bx1⟩ := bx
  obtain ⟨by0, by1⟩ := by_
  obtain ⟨bE0, bE1⟩ := bE
  obtain ⟨bF0, bF1⟩ := bF
  obtain ⟨n10, n11⟩ := n1
  obtain ⟨n20, n21⟩ := n2
  obtain ⟨n30, n31⟩ := n3
  obtain ⟨n40, n41⟩ := n4
  clear HD0 S1 S2 S3 h hn h1 h2 m1 m2 bA bB bC bD bp bq hdt
  have K1 := Blk.new w 25 #[.int .i64 A, .int .i64 B, .int .i64 C, .int .i64 D, .int .i64 E, .int .i64 F]
  go_enter Try.func26, Try.ntmps26
  go_wp2_with fail
  refine (HA.out _).mono ?_
  rintro e_ w1 ⟨rfl, hb1⟩
  replace K1 := K1.below hb1 (by simp)
  have hbw : Below w.heap.size w w1 := btrans (by (repeat' (first | exact Below.refl _ _ | exact Below.refl _ _ | refine balloc ?_ _ | refine Below.drew ?_ | refine below_drewN ?_ _ | refine bset ?_ (by first | omega | (simp <;> omega)) _))) hb1
  clear hb1
  have l1 := K1.lt
  have p0_ := K1.cell 0
  have p1_ := K1.cell 1
  have p2_ := K1.cell 2
  have p3_ := K1.cell 3
  have p4_ := K1.cell 4
  have p5_ := K1.cell 5
  simp only [List.getElem?_toArray, List.getElem?_cons_succ, List.getElem?_cons_zero] at p0_ p1_ p2_ p3_ p4_ p5_
  go_wp2_with fail
  refine (HN.out _).mono ?_
  rintro e_ w2 ⟨rfl, rfl⟩
  go_wp2_with fail
  refine (HD.out _).mono ?_
  rintro e_ w3 ⟨rfl, hb1⟩
  replace K1 := K1.below hb1 l1
  replace hbw := btrans hbw hb1
  clear hb1 l1 p0_ p1_ p2_ p3_ p4_ p5_
  have l1 := K1.lt
  have p0_ := K1.cell 0
  have p1_ := K1.cell 1
  have p2_ := K1.cell 2
  have p3_ := K1.cell 3
  have p4_ := K1.cell 4
  have p5_ := K1.cell 5
  simp only [List.getElem?_toArray, List.getElem?_cons_succ, List.getElem?_cons_zero] at p0_ p1_ p2_ p3_ p4_ p5_
  have u0 : ∀ u : Up w3, u.val.cell? ⟨w.heap.size, 0, none⟩ = some (.int .i64 A) := fun u => (u.cell l1).trans p0_
  have u1 : ∀ u : Up w3, u.val.cell? ⟨w.heap.size, 1, none⟩ = some (.int .i64 B) := fun u => (u.cell l1).trans p1_
  have u2 : ∀ u : Up w3, u.val.cell? ⟨w.heap.size, 2, none⟩ = some (.int .i64 C) := fun u => (u.cell l1).trans p2_
  have u3 : ∀ u : Up w3, u.val.cell? ⟨w.heap.size, 3, none⟩ = some (.int .i64 D) := fun u => (u.cell l1).trans p3_
  have u4 : ∀ u : Up w3, u.val.cell? ⟨w.heap.size, 4, none⟩ = some (.int .i64 E) := fun u => (u.cell l1).trans p4_
  have u5 : ∀ u : Up w3, u.val.cell? ⟨w.heap.size, 5, none⟩ = some (.int .i64 F) := fun u => (u.cell l1).trans p5_
  go_wp2_with fail
  refine wp_region_up (by kernel_rfl) (by kernel_rfl) ?_
  repeat (go_big_quiet_step (fail))
  refine wpQuiet_nil ?_
  rintro _ ⟨uq, rfl⟩
  replace K1 := K1.below uq.ok l1
  replace hbw := btrans hbw uq.ok
  generalize hwx : uq.val = w4 at *
  clear hwx uq u0 u1 u2 u3 u4 u5 l1 p0_ p1_ p2_ p3_ p4_ p5_
  have l1 := K1.lt
  have p0_ := K1.cell 0
  have p1_ := K1.cell 1
  have p2_ := K1.cell 2
  have p3_ := K1.cell 3
  have p4_ := K1.cell 4
  have p5_ := K1.cell 5
  simp only [List.getElem?_toArray, List.getElem?_cons_succ, List.getElem?_cons_zero] at p0_ p1_ p2_ p3_ p4_ p5_
  go_wp2_with fail
  refine (HS1.out _).mono ?_
  rintro e_ w5 ⟨rfl, hb1⟩
  replace K1 := K1.below hb1 l1
  replace hbw := btrans hbw hb1
  clear hb1 l1 p0_ p1_ p2_ p3_ p4_ p5_
  have l1 := K1.lt
  have p0_ := K1.cell 0
  have p1_ := K1.cell 1
  have p2_ := K1.cell 2
  have p3_ := K1.cell 3
  have p4_ := K1.cell 4
  have p5_ := K1.cell 5
  simp only [List.getElem?_toArray, List.getElem?_cons_succ, List.getElem?_cons_zero] at p0_ p1_ p2_ p3_ p4_ p5_
  go_wp2_with fail
  refine (HS2.out _).mono ?_
  rintro e_ w6 ⟨rfl, hb1⟩
  replace hbw := btrans hbw hb1
  clear hb1 l1 p0_ p1_ p2_ p3_ p4_ p5_ K1
  go_wp2_with fail
  refine (HS3.out _).mono ?_
  rintro e_ w7 ⟨rfl, rfl⟩
  go_wp2_with fail
  go_ret3
  exact ⟨rfl, hbw⟩

set_option maxHeartbeats 1600000 in
theorem Back_none1 (A B C D E F x y : Int) (w : World) (h : mayB A B C D E F = true) (hn : nearB x y 8191 = true) (hd : ¬ (A * D - B * C) = 0) (h1 : mulDiv (D * (x * 65536 - E) - C * (y * 65536 - F)) 65536 (A * D - B * C) = none) : Calls Try.prog 26 #[.agg #[.int .i64 A, .int .i64 B, .int .i64 C, .int .i64 D, .int .i64 E, .int .i64 F], .int .i64 x, .int .i64 y] w fun ed w' => ed = .returned (.tuple #[.int .i64 0, .int .i64 0, .int .i64 2]) ∧ Below w.heap.size w w' := by
  obtain ⟨bA, bB, bC, bD, bE, bF⟩ := mayB_bd h
  obtain ⟨bx, by_⟩ := nearB_bd hn
  have m1 := fix_mul bA bD
  have m2 := fix_mul bB bC
  have HA := Lib.hid (fun W => show Calls Try.prog 66 #[.agg #[.int .i64 A, .int .i64 B, .int .i64 C, .int .i64 D, .int .i64 E, .int .i64 F]] W fun ed w' => ed = .returned (.bool true) ∧ Below W.heap.size W w' by have := may_any A B C D E F W; rw [h] at this; exact this)
  have HN := Lib.hid (fun W => show Calls Try.prog 67 #[.int .i64 x, .int .i64 y, .int .i64 8191] W fun ed w' => ed = .returned (.tuple #[.int .i64 x, .int .i64 y, .int .i64 0]) ∧ W = w' by have := near_any x y 8191 W (by omega) (by omega); rw [hn] at this; exact this)
  have HD0 := fun W => det_any A B C D E F W h
  obtain ⟨p, hp⟩ : ∃ p, x * 65536 - E = p := ⟨_, rfl⟩
  obtain ⟨q, hq⟩ : ∃ q, y * 65536 - F = q := ⟨_, rfl⟩
  rw [hp, hq] at h1 
  have bp : -2147483647 ≤ p ∧ p ≤ 2147483647 := by omega
  have bq : -2147483647 ≤ q ∧ q ≤ 2147483647 := by omega
  have n1 := fix_mul2 bD bp
  have n2 := fix_mul2 bC bq
  have n3 := fix_mul2 bA bq
  have n4 := fix_mul2 bB bp
  have db : -9223372036854775808 ≤ (A * D - B * C) ∧ (A * D - B * C) ≤ 9223372036854775807 := by omega
  generalize hdt : (A * D - B * C) = dt at *
  have S1 := fun W => mulDiv_any (D * p - C * q) 65536 dt W (by omega) (by omega) db
  have S2 := fun W => mulDiv_any (A * q - B * p) 65536 dt W (by omega) (by omega) db
  rw [h1] at S1
  generalize mulDiv (A * q - B * p) 65536 dt = o2 at *
  simp only [Option.getD_some, Option.isSome_some, Option.getD_none, Option.isSome_none] at S1
  have S3 := fun W => near_any 0 0 1073741823 W (by omega) (by omega)
  generalize hp1 : D * p = p1 at *
  generalize hp2 : C * q = p2 at *
  generalize hp3 : A * q = p3 at *
  generalize hp4 : B * p = p4 at *
  have hd1 : (dt == 0) = false := by simp; omega
  have HD := Lib.hid HD0
  have HS1 := Lib.hid S1
  have HS2 := Lib.hid S2
  have HS3 := Lib.hid S3
  skip
  skip
  skip
  obtain ⟨bx0, bx1⟩ := bx
  obtain ⟨by0, by1⟩ := by_
  obtain ⟨bE0, bE1⟩ := bE
  obtain ⟨bF0, bF1⟩ := bF
  obtain ⟨n10, n11⟩ := n1
  obtain ⟨n20, n21⟩ := n2
  obtain ⟨n30, n31⟩ := n3
  obtain ⟨n40, n41⟩ := n4
  clear HD0 S1 S2 S3 h hn h1  m1 m2 bA bB bC bD bp bq hdt
  have K1 := Blk.new w 25 #[.int .i64 A, .int .i64 B, .int .i64 C, .int .i64 D, .int .i64 E, .int .i64 F]
  go_enter Try.func26, Try.ntmps26
  go_wp2_with fail
  refine (HA.out _).mono ?_
  rintro e_ w1 ⟨rfl, hb1⟩
  replace K1 := K1.below hb1 (by simp)
  have hbw : Below w.heap.size w w1 := btrans (by (repeat' (first | exact Below.refl _ _ | exact Below.refl _ _ | refine balloc ?_ _ | refine Below.drew ?_ | refine below_drewN ?_ _ | refine bset ?_ (by first | omega | (simp <;> omega)) _))) hb1
  clear hb1
  have l1 := K1.lt
  have p0_ := K1.cell 0
  have p1_ := K1.cell 1
  have p2_ := K1.cell 2
  have p3_ := K1.cell 3
  have p4_ := K1.cell 4
  have p5_ := K1.cell 5
  simp only [List.getElem?_toArray, List.getElem?_cons_succ, List.getElem?_cons_zero] at p0_ p1_ p2_ p3_ p4_ p5_
  go_wp2_with fail
  refine (HN.out _).mono ?_
  rintro e_ w2 ⟨rfl, rfl⟩
  go_wp2_with fail
  refine (HD.out _).mono ?_
  rintro e_ w3 ⟨rfl, hb1⟩
  replace K1 := K1.below hb1 l1
  replace hbw := btrans hbw hb1
  clear hb1 l1 p0_ p1_ p2_ p3_ p4_ p5_
  have l1 := K1.lt
  have p0_ := K1.cell 0
  have p1_ := K1.cell 1
  have p2_ := K1.cell 2
  have p3_ := K1.cell 3
  have p4_ := K1.cell 4
  have p5_ := K1.cell 5
  simp only [List.getElem?_toArray, List.getElem?_cons_succ, List.getElem?_cons_zero] at p0_ p1_ p2_ p3_ p4_ p5_
  have u0 : ∀ u : Up w3, u.val.cell? ⟨w.heap.size, 0, none⟩ = some (.int .i64 A) := fun u => (u.cell l1).trans p0_
  have u1 : ∀ u : Up w3, u.val.cell? ⟨w.heap.size, 1, none⟩ = some (.int .i64 B) := fun u => (u.cell l1).trans p1_
  have u2 : ∀ u : Up w3, u.val.cell? ⟨w.heap.size, 2, none⟩ = some (.int .i64 C) := fun u => (u.cell l1).trans p2_
  have u3 : ∀ u : Up w3, u.val.cell? ⟨w.heap.size, 3, none⟩ = some (.int .i64 D) := fun u => (u.cell l1).trans p3_
  have u4 : ∀ u : Up w3, u.val.cell? ⟨w.heap.size, 4, none⟩ = some (.int .i64 E) := fun u => (u.cell l1).trans p4_
  have u5 : ∀ u : Up w3, u.val.cell? ⟨w.heap.size, 5, none⟩ = some (.int .i64 F) := fun u => (u.cell l1).trans p5_
  go_wp2_with fail
  refine wp_region_up (by kernel_rfl) (by kernel_rfl) ?_
  repeat (go_big_quiet_step (fail))
  refine wpQuiet_nil ?_
  rintro _ ⟨uq, rfl⟩
  replace K1 := K1.below uq.ok l1
  replace hbw := btrans hbw uq.ok
  generalize hwx : uq.val = w4 at *
  clear hwx uq u0 u1 u2 u3 u4 u5 l1 p0_ p1_ p2_ p3_ p4_ p5_
  have l1 := K1.lt
  have p0_ := K1.cell 0
  have p1_ := K1.cell 1
  have p2_ := K1.cell 2
  have p3_ := K1.cell 3
  have p4_ := K1.cell 4
  have p5_ := K1.cell 5
  simp only [List.getElem?_toArray, List.getElem?_cons_succ, List.getElem?_cons_zero] at p0_ p1_ p2_ p3_ p4_ p5_
  go_wp2_with fail
  refine (HS1.out _).mono ?_
  rintro e_ w5 ⟨rfl, hb1⟩
  replace K1 := K1.below hb1 l1
  replace hbw := btrans hbw hb1
  clear hb1 l1 p0_ p1_ p2_ p3_ p4_ p5_
  have l1 := K1.lt
  have p0_ := K1.cell 0
  have p1_ := K1.cell 1
  have p2_ := K1.cell 2
  have p3_ := K1.cell 3
  have p4_ := K1.cell 4
  have p5_ := K1.cell 5
  simp only [List.getElem?_toArray, List.getElem?_cons_succ, List.getElem?_cons_zero] at p0_ p1_ p2_ p3_ p4_ p5_
  go_wp2_with fail
  refine (HS2.out _).mono ?_
  rintro e_ w6 ⟨rfl, hb1⟩
  replace hbw := btrans hbw hb1
  clear hb1 l1 p0_ p1_ p2_ p3_ p4_ p5_ K1
  go_wp2_with fail
  go_ret3
  exact ⟨rfl, hbw⟩

set_option maxHeartbeats 1600000 in
theorem Back_none2 (A B C D E F x y r : Int) (w : World) (h : mayB A B C D E F = true) (hn : nearB x y 8191 = true) (hd : ¬ (A * D - B * C) = 0) (h1 : mulDiv (D * (x * 65536 - E) - C * (y * 65536 - F)) 65536 (A * D - B * C) = some r) (h2 : mulDiv (A * (y * 65536 - F) - B * (x * 65536 - E)) 65536 (A * D - B * C) = none) : Calls Try.prog 26 #[.agg #[.int .i64 A, .int .i64 B, .int .i64 C, .int .i64 D, .int .i64 E, .int .i64 F], .int .i64 x, .int .i64 y] w fun ed w' => ed = .returned (.tuple #[.int .i64 0, .int .i64 0, .int .i64 2]) ∧ Below w.heap.size w w' := by
  obtain ⟨bA, bB, bC, bD, bE, bF⟩ := mayB_bd h
  obtain ⟨bx, by_⟩ := nearB_bd hn
  have m1 := fix_mul bA bD
  have m2 := fix_mul bB bC
  have HA := Lib.hid (fun W => show Calls Try.prog 66 #[.agg #[.int .i64 A, .int .i64 B, .int .i64 C, .int .i64 D, .int .i64 E, .int .i64 F]] W fun ed w' => ed = .returned (.bool true) ∧ Below W.heap.size W w' by have := may_any A B C D E F W; rw [h] at this; exact this)
  have HN := Lib.hid (fun W => show Calls Try.prog 67 #[.int .i64 x, .int .i64 y, .int .i64 8191] W fun ed w' => ed = .returned (.tuple #[.int .i64 x, .int .i64 y, .int .i64 0]) ∧ W = w' by have := near_any x y 8191 W (by omega) (by omega); rw [hn] at this; exact this)
  have HD0 := fun W => det_any A B C D E F W h
  obtain ⟨p, hp⟩ : ∃ p, x * 65536 - E = p := ⟨_, rfl⟩
  obtain ⟨q, hq⟩ : ∃ q, y * 65536 - F = q := ⟨_, rfl⟩
  rw [hp, hq] at h1 h2
  have bp : -2147483647 ≤ p ∧ p ≤ 2147483647 := by omega
  have bq : -2147483647 ≤ q ∧ q ≤ 2147483647 := by omega
  have n1 := fix_mul2 bD bp
  have n2 := fix_mul2 bC bq
  have n3 := fix_mul2 bA bq
  have n4 := fix_mul2 bB bp
  have db : -9223372036854775808 ≤ (A * D - B * C) ∧ (A * D - B * C) ≤ 9223372036854775807 := by omega
  generalize hdt : (A * D - B * C) = dt at *
  have S1 := fun W => mulDiv_any (D * p - C * q) 65536 dt W (by omega) (by omega) db
  have S2 := fun W => mulDiv_any (A * q - B * p) 65536 dt W (by omega) (by omega) db
  rw [h1] at S1
  rw [h2] at S2
  simp only [Option.getD_some, Option.isSome_some, Option.getD_none, Option.isSome_none] at S1 S2
  have S3 := fun W => near_any 0 0 1073741823 W (by omega) (by omega)
  generalize hp1 : D * p = p1 at *
  generalize hp2 : C * q = p2 at *
  generalize hp3 : A * q = p3 at *
  generalize hp4 : B * p = p4 at *
  have hd1 : (dt == 0) = false := by simp; omega
  have HD := Lib.hid HD0
  have HS1 := Lib.hid S1
  have HS2 := Lib.hid S2
  have HS3 := Lib.hid S3
  skip
  skip
  skip
  obtain ⟨bx0, bx1⟩ := bx
  obtain ⟨by0, by1⟩ := by_
  obtain ⟨bE0, bE1⟩ := bE
  obtain ⟨bF0, bF1⟩ := bF
  obtain ⟨n10, n11⟩ := n1
  obtain ⟨n20, n21⟩ := n2
  obtain ⟨n30, n31⟩ := n3
  obtain ⟨n40, n41⟩ := n4
  clear HD0 S1 S2 S3 h hn h1 h2 m1 m2 bA bB bC bD bp bq hdt
  have K1 := Blk.new w 25 #[.int .i64 A, .int .i64 B, .int .i64 C, .int .i64 D, .int .i64 E, .int .i64 F]
  go_enter Try.func26, Try.ntmps26
  go_wp2_with fail
  refine (HA.out _).mono ?_
  rintro e_ w1 ⟨rfl, hb1⟩
  replace K1 := K1.below hb1 (by simp)
  have hbw : Below w.heap.size w w1 := btrans (by (repeat' (first | exact Below.refl _ _ | exact Below.refl _ _ | refine balloc ?_ _ | refine Below.drew ?_ | refine below_drewN ?_ _ | refine bset ?_ (by first | omega | (simp <;> omega)) _))) hb1
  clear hb1
  have l1 := K1.lt
  have p0_ := K1.cell 0
  have p1_ := K1.cell 1
  have p2_ := K1.cell 2
  have p3_ := K1.cell 3
  have p4_ := K1.cell 4
  have p5_ := K1.cell 5
  simp only [List.getElem?_toArray, List.getElem?_cons_succ, List.getElem?_cons_zero] at p0_ p1_ p2_ p3_ p4_ p5_
  go_wp2_with fail
  refine (HN.out _).mono ?_
  rintro e_ w2 ⟨rfl, rfl⟩
  go_wp2_with fail
  refine (HD.out _).mono ?_
  rintro e_ w3 ⟨rfl, hb1⟩
  replace K1 := K1.below hb1 l1
  replace hbw := btrans hbw hb1
  clear hb1 l1 p0_ p1_ p2_ p3_ p4_ p5_
  have l1 := K1.lt
  have p0_ := K1.cell 0
  have p1_ := K1.cell 1
  have p2_ := K1.cell 2
  have p3_ := K1.cell 3
  have p4_ := K1.cell 4
  have p5_ := K1.cell 5
  simp only [List.getElem?_toArray, List.getElem?_cons_succ, List.getElem?_cons_zero] at p0_ p1_ p2_ p3_ p4_ p5_
  have u0 : ∀ u : Up w3, u.val.cell? ⟨w.heap.size, 0, none⟩ = some (.int .i64 A) := fun u => (u.cell l1).trans p0_
  have u1 : ∀ u : Up w3, u.val.cell? ⟨w.heap.size, 1, none⟩ = some (.int .i64 B) := fun u => (u.cell l1).trans p1_
  have u2 : ∀ u : Up w3, u.val.cell? ⟨w.heap.size, 2, none⟩ = some (.int .i64 C) := fun u => (u.cell l1).trans p2_
  have u3 : ∀ u : Up w3, u.val.cell? ⟨w.heap.size, 3, none⟩ = some (.int .i64 D) := fun u => (u.cell l1).trans p3_
  have u4 : ∀ u : Up w3, u.val.cell? ⟨w.heap.size, 4, none⟩ = some (.int .i64 E) := fun u => (u.cell l1).trans p4_
  have u5 : ∀ u : Up w3, u.val.cell? ⟨w.heap.size, 5, none⟩ = some (.int .i64 F) := fun u => (u.cell l1).trans p5_
  go_wp2_with fail
  refine wp_region_up (by kernel_rfl) (by kernel_rfl) ?_
  repeat (go_big_quiet_step (fail))
  refine wpQuiet_nil ?_
  rintro _ ⟨uq, rfl⟩
  replace K1 := K1.below uq.ok l1
  replace hbw := btrans hbw uq.ok
  generalize hwx : uq.val = w4 at *
  clear hwx uq u0 u1 u2 u3 u4 u5 l1 p0_ p1_ p2_ p3_ p4_ p5_
  have l1 := K1.lt
  have p0_ := K1.cell 0
  have p1_ := K1.cell 1
  have p2_ := K1.cell 2
  have p3_ := K1.cell 3
  have p4_ := K1.cell 4
  have p5_ := K1.cell 5
  simp only [List.getElem?_toArray, List.getElem?_cons_succ, List.getElem?_cons_zero] at p0_ p1_ p2_ p3_ p4_ p5_
  go_wp2_with fail
  refine (HS1.out _).mono ?_
  rintro e_ w5 ⟨rfl, hb1⟩
  replace K1 := K1.below hb1 l1
  replace hbw := btrans hbw hb1
  clear hb1 l1 p0_ p1_ p2_ p3_ p4_ p5_
  have l1 := K1.lt
  have p0_ := K1.cell 0
  have p1_ := K1.cell 1
  have p2_ := K1.cell 2
  have p3_ := K1.cell 3
  have p4_ := K1.cell 4
  have p5_ := K1.cell 5
  simp only [List.getElem?_toArray, List.getElem?_cons_succ, List.getElem?_cons_zero] at p0_ p1_ p2_ p3_ p4_ p5_
  go_wp2_with fail
  refine (HS2.out _).mono ?_
  rintro e_ w6 ⟨rfl, hb1⟩
  replace hbw := btrans hbw hb1
  clear hb1 l1 p0_ p1_ p2_ p3_ p4_ p5_ K1
  go_wp2_with fail
  go_ret3
  exact ⟨rfl, hbw⟩

end Go.Proofs.Ytegpjjkbbdfggaa.mt
