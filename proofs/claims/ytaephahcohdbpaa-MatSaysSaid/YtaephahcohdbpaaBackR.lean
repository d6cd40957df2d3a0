/-
  The reference for layer 24: Back; and that Back gives the same.
-/
import Derived.Test.YtaephahcohdbpaaRefM
namespace Go.Proofs.Ytaephahcohdbpaa.mt
set_option linter.unusedVariables false
set_option linter.unusedSimpArgs false
open Go.RowKit bs

def coordB (v : Int) : Bool := decide (-8191 ≤ v) && decide (v ≤ 8191)

theorem coord_any (v : Int) (w : World) : Calls Try.prog 68 #[.int .i64 v] w fun ed w' => ed = .returned (.bool (coordB v)) ∧ w = w' := by
  by_cases a : -8191 ≤ v
  · have c1 : decide (-8191 ≤ v) = true := by simp; omega
    by_cases b : v ≤ 8191
    · have c2 : decide (v ≤ 8191) = true := by simp; omega
      rw [show coordB v = true by unfold coordB; rw [c1, c2]; rfl]
      go_enter Try.func68, Try.ntmps68
      go_wp2_with fail
      go_ret
      exact ⟨rfl, rfl⟩
    · have c2 : decide (v ≤ 8191) = false := by simp; omega
      rw [show coordB v = false by unfold coordB; rw [c1, c2]; rfl]
      go_enter Try.func68, Try.ntmps68
      go_wp2_with fail
      go_ret
      exact ⟨rfl, rfl⟩
  · have c1 : decide (-8191 ≤ v) = false := by simp; omega
    rw [show coordB v = false by unfold coordB; rw [c1]; rfl]
    go_enter Try.func68, Try.ntmps68
    go_wp2_with fail
    go_ret
    exact ⟨rfl, rfl⟩

theorem near_coord (x y : Int) : nearB x y 8191 = (coordB x && coordB y) := by
  unfold nearB coordB
  simp [Bool.and_assoc]

set_option maxHeartbeats 1600000 in
theorem rBack_no1 (A B C D E F x y : Int) (w : World) (h : mayB A B C D E F = false) : Calls Try.prog 47 #[.agg #[.int .i64 A, .int .i64 B, .int .i64 C, .int .i64 D, .int .i64 E, .int .i64 F], .int .i64 x, .int .i64 y] w fun ed w' => ed = .returned (.tuple #[.int .i64 0, .int .i64 0, .int .i64 1]) ∧ Below w.heap.size w w' := by
  have HA := Lib.hid (fun W => show Calls Try.prog 38 #[.agg #[.int .i64 A, .int .i64 B, .int .i64 C, .int .i64 D, .int .i64 E, .int .i64 F]] W fun ed w' => ed = .returned (.bool false) ∧ Below W.heap.size W w' by have := rmay_any A B C D E F W; rw [h] at this; exact this)
  have K1 := Blk.new w 23 #[.int .i64 A, .int .i64 B, .int .i64 C, .int .i64 D, .int .i64 E, .int .i64 F]
  go_enter Try.func47, Try.ntmps47
  go_wp2_with fail
  refine (HA.out _).mono ?_
  rintro e_ w1 ⟨rfl, hb1⟩
  replace K1 := K1.below hb1 (by simp)
  have hbw : Below w.heap.size w w1 := btrans (by (repeat' (first | exact Below.refl _ _ | exact Below.refl _ _ | refine balloc ?_ _ | refine Below.drew ?_ | refine below_drewN ?_ _ | refine bset ?_ (by first | omega | (simp <;> omega)) _))) hb1
  clear hb1
  clear K1
  go_wp2_with fail
  go_ret3
  exact ⟨rfl, hbw⟩

set_option maxHeartbeats 1600000 in
theorem rBack_no2 (A B C D E F x y : Int) (w : World) (h : mayB A B C D E F = true) (hx : coordB x = false) : Calls Try.prog 47 #[.agg #[.int .i64 A, .int .i64 B, .int .i64 C, .int .i64 D, .int .i64 E, .int .i64 F], .int .i64 x, .int .i64 y] w fun ed w' => ed = .returned (.tuple #[.int .i64 0, .int .i64 0, .int .i64 1]) ∧ Below w.heap.size w w' := by
  have HA := Lib.hid (fun W => show Calls Try.prog 38 #[.agg #[.int .i64 A, .int .i64 B, .int .i64 C, .int .i64 D, .int .i64 E, .int .i64 F]] W fun ed w' => ed = .returned (.bool true) ∧ Below W.heap.size W w' by have := rmay_any A B C D E F W; rw [h] at this; exact this)
  have HX := Lib.hid (fun W => show Calls Try.prog 68 #[.int .i64 x] W fun ed w' => ed = .returned (.bool false) ∧ W = w' by have := coord_any x W; rw [hx] at this; exact this)
  clear h hx
  have K1 := Blk.new w 23 #[.int .i64 A, .int .i64 B, .int .i64 C, .int .i64 D, .int .i64 E, .int .i64 F]
  go_enter Try.func47, Try.ntmps47
  go_wp2_with fail
  refine (HA.out _).mono ?_
  rintro e_ w1 ⟨rfl, hb1⟩
  replace K1 := K1.below hb1 (by simp)
  have hbw : Below w.heap.size w w1 := btrans (by (repeat' (first | exact Below.refl _ _ | exact Below.refl _ _ | refine balloc ?_ _ | refine Below.drew ?_ | refine below_drewN ?_ _ | refine bset ?_ (by first | omega | (simp <;> omega)) _))) hb1
  clear hb1
  have l1 := K1.lt
  have p0_ := K1.cell 0
  have p1_ := K1.cell 1
  have p2_ := K1.cell 2
  have p3_ := K1.cell 3
  have p4_ := K1.cell 4
  have p5_ := K1.cell 5
  simp only [List.getElem?_toArray, List.getElem?_cons_succ, List.getElem?_cons_zero] at p0_ p1_ p2_ p3_ p4_ p5_
  go_wp2_with fail
  refine (HX.out _).mono ?_
  rintro e_ w_ ⟨rfl, rfl⟩
  go_wp2_with fail
  go_ret3
  exact ⟨rfl, hbw⟩

set_option maxHeartbeats 1600000 in
theorem rBack_no3 (A B C D E F x y : Int) (w : World) (h : mayB A B C D E F = true) (hx : coordB x = true) (hy : coordB y = false) : Calls Try.prog 47 #[.agg #[.int .i64 A, .int .i64 B, .int .i64 C, .int .i64 D, .int .i64 E, .int .i64 F], .int .i64 x, .int .i64 y] w fun ed w' => ed = .returned (.tuple #[.int .i64 0, .int .i64 0, .int .i64 1]) ∧ Below w.heap.size w w' := by
  have HA := Lib.hid (fun W => show Calls Try.prog 38 #[.agg #[.int .i64 A, .int .i64 B, .int .i64 C, .int .i64 D, .int .i64 E, .int .i64 F]] W fun ed w' => ed = .returned (.bool true) ∧ Below W.heap.size W w' by have := rmay_any A B C D E F W; rw [h] at this; exact this)
  have HX := Lib.hid (fun W => show Calls Try.prog 68 #[.int .i64 x] W fun ed w' => ed = .returned (.bool true) ∧ W = w' by have := coord_any x W; rw [hx] at this; exact this)
  have HY := Lib.hid (fun W => show Calls Try.prog 68 #[.int .i64 y] W fun ed w' => ed = .returned (.bool false) ∧ W = w' by have := coord_any y W; rw [hy] at this; exact this)
  clear h hx hy
  have K1 := Blk.new w 23 #[.int .i64 A, .int .i64 B, .int .i64 C, .int .i64 D, .int .i64 E, .int .i64 F]
  go_enter Try.func47, Try.ntmps47
  go_wp2_with fail
  refine (HA.out _).mono ?_
  rintro e_ w1 ⟨rfl, hb1⟩
  replace K1 := K1.below hb1 (by simp)
  have hbw : Below w.heap.size w w1 := btrans (by (repeat' (first | exact Below.refl _ _ | exact Below.refl _ _ | refine balloc ?_ _ | refine Below.drew ?_ | refine below_drewN ?_ _ | refine bset ?_ (by first | omega | (simp <;> omega)) _))) hb1
  clear hb1
  have l1 := K1.lt
  have p0_ := K1.cell 0
  have p1_ := K1.cell 1
  have p2_ := K1.cell 2
  have p3_ := K1.cell 3
  have p4_ := K1.cell 4
  have p5_ := K1.cell 5
  simp only [List.getElem?_toArray, List.getElem?_cons_succ, List.getElem?_cons_zero] at p0_ p1_ p2_ p3_ p4_ p5_
  go_wp2_with fail
  refine (HX.out _).mono ?_
  rintro e_ w_ ⟨rfl, rfl⟩
  go_wp2_with fail
  refine (HY.out _).mono ?_
  rintro e_ w_ ⟨rfl, rfl⟩
  go_wp2_with fail
  go_ret3
  exact ⟨rfl, hbw⟩

set_option maxHeartbeats 1600000 in
theorem rBack_zero (A B C D E F x y : Int) (w : World) (h : mayB A B C D E F = true) (hx : coordB x = true) (hy : coordB y = true) (hd : A * D - B * C = 0) : Calls Try.prog 47 #[.agg #[.int .i64 A, .int .i64 B, .int .i64 C, .int .i64 D, .int .i64 E, .int .i64 F], .int .i64 x, .int .i64 y] w fun ed w' => ed = .returned (.tuple #[.int .i64 0, .int .i64 0, .int .i64 14]) ∧ Below w.heap.size w w' := by
  obtain ⟨dt, hdt⟩ : ∃ dt, A * D - B * C = dt := ⟨_, rfl⟩
  have HA := Lib.hid (fun W => show Calls Try.prog 38 #[.agg #[.int .i64 A, .int .i64 B, .int .i64 C, .int .i64 D, .int .i64 E, .int .i64 F]] W fun ed w' => ed = .returned (.bool true) ∧ Below W.heap.size W w' by have := rmay_any A B C D E F W; rw [h] at this; exact this)
  have HX := Lib.hid (fun W => show Calls Try.prog 68 #[.int .i64 x] W fun ed w' => ed = .returned (.bool true) ∧ W = w' by have := coord_any x W; rw [hx] at this; exact this)
  have HY := Lib.hid (fun W => show Calls Try.prog 68 #[.int .i64 y] W fun ed w' => ed = .returned (.bool true) ∧ W = w' by have := coord_any y W; rw [hy] at this; exact this)
  have HD := Lib.hid (fun W => show Calls Try.prog 56 #[.agg #[.int .i64 A, .int .i64 B, .int .i64 C, .int .i64 D, .int .i64 E, .int .i64 F]] W fun ed w' => ed = .returned (.int .i64 dt) ∧ Below W.heap.size W w' by rw [← hdt]; exact rdet_any A B C D E F W h)
  rw [hdt] at hd
  subst hd
  clear h hx hy hdt
  have K1 := Blk.new w 23 #[.int .i64 A, .int .i64 B, .int .i64 C, .int .i64 D, .int .i64 E, .int .i64 F]
  go_enter Try.func47, Try.ntmps47
  go_wp2_with fail
  refine (HA.out _).mono ?_
  rintro e_ w1 ⟨rfl, hb1⟩
  replace K1 := K1.below hb1 (by simp)
  have hbw : Below w.heap.size w w1 := btrans (by (repeat' (first | exact Below.refl _ _ | exact Below.refl _ _ | refine balloc ?_ _ | refine Below.drew ?_ | refine below_drewN ?_ _ | refine bset ?_ (by first | omega | (simp <;> omega)) _))) hb1
  clear hb1
  have l1 := K1.lt
  have p0_ := K1.cell 0
  have p1_ := K1.cell 1
  have p2_ := K1.cell 2
  have p3_ := K1.cell 3
  have p4_ := K1.cell 4
  have p5_ := K1.cell 5
  simp only [List.getElem?_toArray, List.getElem?_cons_succ, List.getElem?_cons_zero] at p0_ p1_ p2_ p3_ p4_ p5_
  go_wp2_with fail
  refine (HX.out _).mono ?_
  rintro e_ w_ ⟨rfl, rfl⟩
  go_wp2_with fail
  refine (HY.out _).mono ?_
  rintro e_ w_ ⟨rfl, rfl⟩
  go_wp2_with fail
  refine (HD.out _).mono ?_
  rintro e_ w3 ⟨rfl, hb1⟩
  replace K1 := K1.below hb1 l1
  replace hbw := btrans hbw hb1
  clear hb1 l1 p0_ p1_ p2_ p3_ p4_ p5_
  clear K1
  go_wp2_with fail
  go_ret3
  exact ⟨rfl, hbw⟩

set_option maxHeartbeats 1600000 in
theorem rBack_yes (A B C D E F x y r s : Int) (w : World) (h : mayB A B C D E F = true) (hx : coordB x = true) (hy : coordB y = true) (hd : ¬ (A * D - B * C) = 0) (h1 : ratioV (D * (x * 65536 - E) - C * (y * 65536 - F)) 65536 (A * D - B * C) = r) (h2 : ratioV (A * (y * 65536 - F) - B * (x * 65536 - E)) 65536 (A * D - B * C) = s) : Calls Try.prog 47 #[.agg #[.int .i64 A, .int .i64 B, .int .i64 C, .int .i64 D, .int .i64 E, .int .i64 F], .int .i64 x, .int .i64 y] w fun ed w' => ed = .returned (.tuple #[.int .i64 (okI (nearB r s 1073741823) r), .int .i64 (okI (nearB r s 1073741823) s), .int .i64 (okE (nearB r s 1073741823))]) ∧ Below w.heap.size w w' := by
  obtain ⟨bA, bB, bC, bD, bE, bF⟩ := mayB_bd h
  have bx : -8191 ≤ x ∧ x ≤ 8191 := by unfold coordB at hx; simpa using hx
  have by_ : -8191 ≤ y ∧ y ≤ 8191 := by unfold coordB at hy; simpa using hy
  have m1 := fix_mul bA bD
  have m2 := fix_mul bB bC
  have HA := Lib.hid (fun W => show Calls Try.prog 38 #[.agg #[.int .i64 A, .int .i64 B, .int .i64 C, .int .i64 D, .int .i64 E, .int .i64 F]] W fun ed w' => ed = .returned (.bool true) ∧ Below W.heap.size W w' by have := rmay_any A B C D E F W; rw [h] at this; exact this)
  have HX := Lib.hid (fun W => show Calls Try.prog 68 #[.int .i64 x] W fun ed w' => ed = .returned (.bool true) ∧ W = w' by have := coord_any x W; rw [hx] at this; exact this)
  have HY := Lib.hid (fun W => show Calls Try.prog 68 #[.int .i64 y] W fun ed w' => ed = .returned (.bool true) ∧ W = w' by have := coord_any y W; rw [hy] at this; exact this)
  have HD0 := fun W => rdet_any A B C D E F W h
  obtain ⟨p, hp⟩ : ∃ p, x * 65536 - E = p := ⟨_, rfl⟩
  obtain ⟨q, hq⟩ : ∃ q, y * 65536 - F = q := ⟨_, rfl⟩
  rw [hp, hq] at h1 h2
  have bp : -2147483647 ≤ p ∧ p ≤ 2147483647 := by omega
  have bq : -2147483647 ≤ q ∧ q ≤ 2147483647 := by omega
  have n1 := fix_mul2 bD bp
  have n2 := fix_mul2 bC bq
  have n3 := fix_mul2 bA bq
  have n4 := fix_mul2 bB bp
  have db : -9223372036854775808 ≤ (A * D - B * C) ∧ (A * D - B * C) ≤ 9223372036854775807 := by omega
  generalize hdt : (A * D - B * C) = dt at *
  have S1 := fun W => ratio_any (D * p - C * q) 65536 dt W (by omega) (by omega) db hd
  have S2 := fun W => ratio_any (A * q - B * p) 65536 dt W (by omega) (by omega) db hd
  rw [h1] at S1
  rw [h2] at S2
  have S3 := fun W => two_any r s 1073741823 W (by omega) (by omega)
  generalize hp1 : D * p = p1 at *
  generalize hp2 : C * q = p2 at *
  generalize hp3 : A * q = p3 at *
  generalize hp4 : B * p = p4 at *
  have hd1 : (dt == 0) = false := by simp; omega
  have HD := Lib.hid HD0
  have HS1 := Lib.hid S1
  have HS2 := Lib.hid S2
  have HS3 := Lib.hid S3
  generalize okI (nearB r s 1073741823) r = or_ at *
  generalize okI (nearB r s 1073741823) s = os_ at *
  generalize okE (nearB r s 1073741823) = oe_ at *
  obtain ⟨bx0, bx1⟩ := bx
  obtain ⟨by0, by1⟩ := by_
  obtain ⟨bE0, bE1⟩ := bE
  obtain ⟨bF0, bF1⟩ := bF
  obtain ⟨n10, n11⟩ := n1
  obtain ⟨n20, n21⟩ := n2
  obtain ⟨n30, n31⟩ := n3
  obtain ⟨n40, n41⟩ := n4
  clear HD0 S1 S2 S3 h hx hy h1 h2 m1 m2 bA bB bC bD bp bq hdt hd db
  have K1 := Blk.new w 23 #[.int .i64 A, .int .i64 B, .int .i64 C, .int .i64 D, .int .i64 E, .int .i64 F]
  go_enter Try.func47, Try.ntmps47
  go_wp2_with fail
  refine (HA.out _).mono ?_
  rintro e_ w1 ⟨rfl, hb1⟩
  replace K1 := K1.below hb1 (by simp)
  have hbw : Below w.heap.size w w1 := btrans (by (repeat' (first | exact Below.refl _ _ | exact Below.refl _ _ | refine balloc ?_ _ | refine Below.drew ?_ | refine below_drewN ?_ _ | refine bset ?_ (by first | omega | (simp <;> omega)) _))) hb1
  clear hb1
  have l1 := K1.lt
  have p0_ := K1.cell 0
  have p1_ := K1.cell 1
  have p2_ := K1.cell 2
  have p3_ := K1.cell 3
  have p4_ := K1.cell 4
  have p5_ := K1.cell 5
  simp only [List.getElem?_toArray, List.getElem?_cons_succ, List.getElem?_cons_zero] at p0_ p1_ p2_ p3_ p4_ p5_
  go_wp2_with fail
  refine (HX.out _).mono ?_
  rintro e_ w_ ⟨rfl, rfl⟩
  go_wp2_with fail
  refine (HY.out _).mono ?_
  rintro e_ w_ ⟨rfl, rfl⟩
  go_wp2_with fail
  refine (HD.out _).mono ?_
  rintro e_ w3 ⟨rfl, hb1⟩
  replace K1 := K1.below hb1 l1
  replace hbw := btrans hbw hb1
  clear hb1 l1 p0_ p1_ p2_ p3_ p4_ p5_
  have l1 := K1.lt
  have p0_ := K1.cell 0
  have p1_ := K1.cell 1
  have p2_ := K1.cell 2
  have p3_ := K1.cell 3
  have p4_ := K1.cell 4
  have p5_ := K1.cell 5
  simp only [List.getElem?_toArray, List.getElem?_cons_succ, List.getElem?_cons_zero] at p0_ p1_ p2_ p3_ p4_ p5_
  have u0 : ∀ u : Up w3, u.val.cell? ⟨w.heap.size, 0, none⟩ = some (.int .i64 A) := fun u => (u.cell l1).trans p0_
  have u1 : ∀ u : Up w3, u.val.cell? ⟨w.heap.size, 1, none⟩ = some (.int .i64 B) := fun u => (u.cell l1).trans p1_
  have u2 : ∀ u : Up w3, u.val.cell? ⟨w.heap.size, 2, none⟩ = some (.int .i64 C) := fun u => (u.cell l1).trans p2_
  have u3 : ∀ u : Up w3, u.val.cell? ⟨w.heap.size, 3, none⟩ = some (.int .i64 D) := fun u => (u.cell l1).trans p3_
  have u4 : ∀ u : Up w3, u.val.cell? ⟨w.heap.size, 4, none⟩ = some (.int .i64 E) := fun u => (u.cell l1).trans p4_
  have u5 : ∀ u : Up w3, u.val.cell? ⟨w.heap.size, 5, none⟩ = some (.int .i64 F) := fun u => (u.cell l1).trans p5_
  go_wp2_with fail
  refine wp_region_up (by kernel_rfl) (by kernel_rfl) ?_
  repeat (go_big_quiet_step (fail))
  refine wpQuiet_nil ?_
  rintro _ ⟨uq, rfl⟩
  replace K1 := K1.below uq.ok l1
  replace hbw := btrans hbw uq.ok
  generalize hwx : uq.val = w4 at *
  clear hwx uq u0 u1 u2 u3 u4 u5 l1 p0_ p1_ p2_ p3_ p4_ p5_
  have l1 := K1.lt
  have p0_ := K1.cell 0
  have p1_ := K1.cell 1
  have p2_ := K1.cell 2
  have p3_ := K1.cell 3
  have p4_ := K1.cell 4
  have p5_ := K1.cell 5
  simp only [List.getElem?_toArray, List.getElem?_cons_succ, List.getElem?_cons_zero] at p0_ p1_ p2_ p3_ p4_ p5_
  have u0 : ∀ u : Up w4, u.val.cell? ⟨w.heap.size, 0, none⟩ = some (.int .i64 A) := fun u => (u.cell l1).trans p0_
  have u1 : ∀ u : Up w4, u.val.cell? ⟨w.heap.size, 1, none⟩ = some (.int .i64 B) := fun u => (u.cell l1).trans p1_
  have u2 : ∀ u : Up w4, u.val.cell? ⟨w.heap.size, 2, none⟩ = some (.int .i64 C) := fun u => (u.cell l1).trans p2_
  have u3 : ∀ u : Up w4, u.val.cell? ⟨w.heap.size, 3, none⟩ = some (.int .i64 D) := fun u => (u.cell l1).trans p3_
  have u4 : ∀ u : Up w4, u.val.cell? ⟨w.heap.size, 4, none⟩ = some (.int .i64 E) := fun u => (u.cell l1).trans p4_
  have u5 : ∀ u : Up w4, u.val.cell? ⟨w.heap.size, 5, none⟩ = some (.int .i64 F) := fun u => (u.cell l1).trans p5_
  have HU1 := Lib.hid (fun u : Up w4 => up_of (u := u) (HS1.out u.val))
  have HU2 := Lib.hid (fun u : Up w4 => up_of (u := u) (HS2.out u.val))
  have HU3 := Lib.hid (fun u : Up w4 => up_same (u := u) (HS3.out u.val))
  clear HS1 HS2 HS3
  go_wp2_with fail
  refine wp_region_up (by kernel_rfl) (by kernel_rfl) ?_
  repeat (go_big_quiet_step (fail))
  go_big_quiet_step (exact HU1.out _)
  repeat (go_big_quiet_step (fail))
  go_big_quiet_step (exact HU2.out _)
  repeat (go_big_quiet_step (fail))
  go_big_quiet_step (exact HU3.out _)
  repeat (go_big_quiet_step (fail))
  refine wpQuiet_nil ?_
  rintro _ ⟨uq, rfl⟩
  replace hbw := btrans hbw uq.ok
  go_wp2_with fail
  go_ret3
  exact ⟨rfl, hbw⟩

theorem near_no (r s : Int) (h : fixB r = false ∨ fixB s = false) : nearB r s 1073741823 = false := by
  unfold fixB at h
  unfold nearB
  rcases h with h | h <;> (simp at h ⊢; omega)
theorem back_both (A B C D E F x y : Int) : ∃ u v e : Int, (∀ W, Calls Try.prog 35 #[.agg #[.int .i64 A, .int .i64 B, .int .i64 C, .int .i64 D, .int .i64 E, .int .i64 F], .int .i64 x, .int .i64 y] W fun ed w' => ed = .returned (.tuple #[.int .i64 u, .int .i64 v, .int .i64 e]) ∧ Below W.heap.size W w') ∧ (∀ W, Calls Try.prog 47 #[.agg #[.int .i64 A, .int .i64 B, .int .i64 C, .int .i64 D, .int .i64 E, .int .i64 F], .int .i64 x, .int .i64 y] W fun ed w' => ed = .returned (.tuple #[.int .i64 u, .int .i64 v, .int .i64 e]) ∧ Below W.heap.size W w') := by
  cases h : mayB A B C D E F with
  | false => exact ⟨0, 0, 1, fun W => Back_no1 A B C D E F x y W h, fun W => rBack_no1 A B C D E F x y W h⟩
  | true =>
    have hn := near_coord x y
    cases hx : coordB x with
    | false =>
      rw [hx] at hn
      exact ⟨0, 0, 1, fun W => Back_no2 A B C D E F x y W h hn, fun W => rBack_no2 A B C D E F x y W h hx⟩
    | true =>
      cases hy : coordB y with
      | false =>
        rw [hx, hy] at hn
        exact ⟨0, 0, 1, fun W => Back_no2 A B C D E F x y W h hn, fun W => rBack_no3 A B C D E F x y W h hx hy⟩
      | true =>
        rw [hx, hy] at hn
        by_cases hd : (A * D - B * C) = 0
        · exact ⟨0, 0, 14, fun W => Back_zero A B C D E F x y W h hn hd, fun W => rBack_zero A B C D E F x y W h hx hy hd⟩
        · have R := fun W => rBack_yes A B C D E F x y _ _ W h hx hy hd rfl rfl
          have bad : fixB 1073741824 = false := by decide
          have zr : ∀ s, okI (nearB 1073741824 s 1073741823) 1073741824 = 0 ∧ okI (nearB 1073741824 s 1073741823) s = 0 ∧ okE (nearB 1073741824 s 1073741823) = 2 := fun s => by rw [near_no _ _ (.inl bad)]; exact ⟨rfl, rfl, rfl⟩
          have zs : ∀ r, okI (nearB r 1073741824 1073741823) r = 0 ∧ okI (nearB r 1073741824 1073741823) 1073741824 = 0 ∧ okE (nearB r 1073741824 1073741823) = 2 := fun r => by rw [near_no _ _ (.inr bad)]; exact ⟨rfl, rfl, rfl⟩
          cases h1 : mulDiv (D * (x * 65536 - E) - C * (y * 65536 - F)) 65536 (A * D - B * C) with
          | none =>
            have e1 : ratioV (D * (x * 65536 - E) - C * (y * 65536 - F)) 65536 (A * D - B * C) = 1073741824 := by unfold ratioV; rw [h1]
            rw [e1] at R
            obtain ⟨z1, z2, z3⟩ := zr (ratioV (A * (y * 65536 - F) - B * (x * 65536 - E)) 65536 (A * D - B * C))
            rw [z1, z2, z3] at R
            exact ⟨0, 0, 2, fun W => Back_none1 A B C D E F x y W h hn hd h1, R⟩
          | some r =>
            cases h2 : mulDiv (A * (y * 65536 - F) - B * (x * 65536 - E)) 65536 (A * D - B * C) with
            | none =>
              have e2 : ratioV (A * (y * 65536 - F) - B * (x * 65536 - E)) 65536 (A * D - B * C) = 1073741824 := by unfold ratioV; rw [h2]
              rw [e2] at R
              obtain ⟨z1, z2, z3⟩ := zs (ratioV (D * (x * 65536 - E) - C * (y * 65536 - F)) 65536 (A * D - B * C))
              rw [z1, z2, z3] at R
              exact ⟨0, 0, 2, fun W => Back_none2 A B C D E F x y r W h hn hd h1 h2, R⟩
            | some s =>
              have Y1 := fun W => Back_yes A B C D E F x y r s W h hn hd h1 h2
              cases g1 : fixB r with
              | false =>
                have e1 : ratioV (D * (x * 65536 - E) - C * (y * 65536 - F)) 65536 (A * D - B * C) = 1073741824 := by unfold ratioV; rw [h1]; simp [g1]
                rw [e1] at R
                obtain ⟨z1, z2, z3⟩ := zr (ratioV (A * (y * 65536 - F) - B * (x * 65536 - E)) 65536 (A * D - B * C))
                rw [z1, z2, z3] at R
                rw [near_no r s (.inl g1)] at Y1
                exact ⟨0, 0, 2, Y1, R⟩
              | true =>
                have e1 : ratioV (D * (x * 65536 - E) - C * (y * 65536 - F)) 65536 (A * D - B * C) = r := by unfold ratioV; rw [h1]; simp [g1]
                cases g2 : fixB s with
                | false =>
                  have e2 : ratioV (A * (y * 65536 - F) - B * (x * 65536 - E)) 65536 (A * D - B * C) = 1073741824 := by unfold ratioV; rw [h2]; simp [g2]
                  rw [e2] at R
                  obtain ⟨z1, z2, z3⟩ := zs (ratioV (D * (x * 65536 - E) - C * (y * 65536 - F)) 65536 (A * D - B * C))
                  rw [z1, z2, z3] at R
                  rw [near_no r s (.inr g2)] at Y1
                  exact ⟨0, 0, 2, Y1, R⟩
                | true =>
                  have e2 : ratioV (A * (y * 65536 - F) - B * (x * 65536 - E)) 65536 (A * D - B * C) = s := by unfold ratioV; rw [h2]; simp [g2]
                  rw [e1, e2] at R
                  exact ⟨_, _, _, Y1, R⟩

end Go.Proofs.Ytaephahcohdbpaa.mt
