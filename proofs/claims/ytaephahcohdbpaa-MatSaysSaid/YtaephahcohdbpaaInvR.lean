/-
  The reference for layer 24: Invert.
-/
import Derived.Test.YtaephahcohdbpaaRefM
import Derived.Test.YtaephahcohdbpaaUpTail
namespace Go.Proofs.Ytaephahcohdbpaa.mt
set_option linter.unusedVariables false
set_option linter.unusedSimpArgs false
open Go.RowKit bs

set_option maxRecDepth 100000 in
set_option maxHeartbeats 3200000 in
theorem rInvert_no (A B C D E F  : Int) (w : World) (h : mayB A B C D E F = false) : Calls Try.prog 42 #[.agg #[.int .i64 A, .int .i64 B, .int .i64 C, .int .i64 D, .int .i64 E, .int .i64 F]] w fun ed w' => ed = .returned (.tuple #[.agg #[.int .i64 0, .int .i64 0, .int .i64 0, .int .i64 0, .int .i64 0, .int .i64 0], .int .i64 1]) ∧ Below w.heap.size w w' := by
  have HA := Lib.hid (fun W => show Calls Try.prog 38 #[.agg #[.int .i64 A, .int .i64 B, .int .i64 C, .int .i64 D, .int .i64 E, .int .i64 F]] W fun ed w' => ed = .returned (.bool false) ∧ Below W.heap.size W w' by have := rmay_any A B C D E F W; rw [h] at this; exact this)
  clear h
  have K1 := (Blk.new w 23 #[.int .i64 A, .int .i64 B, .int .i64 C, .int .i64 D, .int .i64 E, .int .i64 F]).alloc (.cells #[.int .i64 0, .int .i64 0, .int .i64 0, .int .i64 0, .int .i64 0, .int .i64 0] 23)
  have K2 := Blk.new (w.alloc (.cells #[.int .i64 A, .int .i64 B, .int .i64 C, .int .i64 D, .int .i64 E, .int .i64 F] 23)) 23 #[.int .i64 0, .int .i64 0, .int .i64 0, .int .i64 0, .int .i64 0, .int .i64 0]
  have s1 : (w.alloc (.cells #[.int .i64 A, .int .i64 B, .int .i64 C, .int .i64 D, .int .i64 E, .int .i64 F] 23)).heap.size = w.heap.size + 1 := by simp
  rw [s1] at K2
  clear s1
  go_enter Try.func42, Try.ntmps42
  go_wp2_with fail
  refine (HA.out _).mono ?_
  rintro e_ w1 ⟨rfl, hb1⟩
  replace K1 := K1.below hb1 (by simp; omega)
  replace K2 := K2.below hb1 (by simp)
  have hbw : Below w.heap.size w w1 := btrans (by (repeat' (first | exact Below.refl _ _ | exact Below.refl _ _ | refine balloc ?_ _ | refine Below.drew ?_ | refine below_drewN ?_ _ | refine bset ?_ (by first | omega | (simp <;> omega)) _))) hb1
  clear hb1
  clear K1
  have r0 := K2.cell 0
  have r1 := K2.cell 1
  have r2 := K2.cell 2
  have r3 := K2.cell 3
  have r4 := K2.cell 4
  have r5 := K2.cell 5
  have zr0 := K2.frozen 0
  have zr1 := K2.frozen 1
  have zr2 := K2.frozen 2
  have zr3 := K2.frozen 3
  have zr4 := K2.frozen 4
  have zr5 := K2.frozen 5
  simp only [List.getElem?_toArray, List.getElem?_cons_succ, List.getElem?_cons_zero] at r0 r1 r2 r3 r4 r5
  have HK := Lib.hid K2
  have HBW := Lib.hid hbw
  clear K2 hbw
  go_wp2_with fail
  have K := (((((HK.out.set_ 0 (.int .i64 0)).set_ 1 (.int .i64 0)).set_ 2 (.int .i64 0)).set_ 3 (.int .i64 0)).set_ 4 (.int .i64 0)).set_ 5 (.int .i64 0)
  refine ret_struct2 (g := w.heap.size + 1) (t := 23) (cs := #[.int .i64 0, .int .i64 0, .int .i64 0, .int .i64 0, .int .i64 0, .int .i64 0]) rfl rfl ?_ Try.underlying23 rfl rfl rfl ?_
  · exact K
  · exact ⟨rfl, by (repeat' (first | refine bset ?_ (by first | omega | (simp <;> omega)) _ | refine balloc ?_ _ | refine Below.drew ?_ | refine below_drewN ?_ _ | exact HBW.out | exact Below.refl _ _))⟩

set_option maxRecDepth 100000 in
set_option maxHeartbeats 3200000 in
theorem rInvert_zero (A B C D E F  : Int) (w : World) (h : mayB A B C D E F = true) (hdt : A * D - B * C = 0) : Calls Try.prog 42 #[.agg #[.int .i64 A, .int .i64 B, .int .i64 C, .int .i64 D, .int .i64 E, .int .i64 F]] w fun ed w' => ed = .returned (.tuple #[.agg #[.int .i64 0, .int .i64 0, .int .i64 0, .int .i64 0, .int .i64 0, .int .i64 0], .int .i64 14]) ∧ Below w.heap.size w w' := by
  have HA := Lib.hid (fun W => show Calls Try.prog 38 #[.agg #[.int .i64 A, .int .i64 B, .int .i64 C, .int .i64 D, .int .i64 E, .int .i64 F]] W fun ed w' => ed = .returned (.bool true) ∧ Below W.heap.size W w' by have := rmay_any A B C D E F W; rw [h] at this; exact this)
  have HD := Lib.hid (fun W => show Calls Try.prog 56 #[.agg #[.int .i64 A, .int .i64 B, .int .i64 C, .int .i64 D, .int .i64 E, .int .i64 F]] W fun ed w' => ed = .returned (.int .i64 0) ∧ Below W.heap.size W w' by rw [← hdt]; exact rdet_any A B C D E F W h)
  clear h hdt
  have K1 := (Blk.new w 23 #[.int .i64 A, .int .i64 B, .int .i64 C, .int .i64 D, .int .i64 E, .int .i64 F]).alloc (.cells #[.int .i64 0, .int .i64 0, .int .i64 0, .int .i64 0, .int .i64 0, .int .i64 0] 23)
  have K2 := Blk.new (w.alloc (.cells #[.int .i64 A, .int .i64 B, .int .i64 C, .int .i64 D, .int .i64 E, .int .i64 F] 23)) 23 #[.int .i64 0, .int .i64 0, .int .i64 0, .int .i64 0, .int .i64 0, .int .i64 0]
  have s1 : (w.alloc (.cells #[.int .i64 A, .int .i64 B, .int .i64 C, .int .i64 D, .int .i64 E, .int .i64 F] 23)).heap.size = w.heap.size + 1 := by simp
  rw [s1] at K2
  clear s1
  go_enter Try.func42, Try.ntmps42
  go_wp2_with fail
  refine (HA.out _).mono ?_
  rintro e_ w1 ⟨rfl, hb1⟩
  replace K1 := K1.below hb1 (by simp; omega)
  replace K2 := K2.below hb1 (by simp)
  have hbw : Below w.heap.size w w1 := btrans (by (repeat' (first | exact Below.refl _ _ | exact Below.refl _ _ | refine balloc ?_ _ | refine Below.drew ?_ | refine below_drewN ?_ _ | refine bset ?_ (by first | omega | (simp <;> omega)) _))) hb1
  clear hb1
  have p0 := K1.cell 0
  have p1 := K1.cell 1
  have p2 := K1.cell 2
  have p3 := K1.cell 3
  have p4 := K1.cell 4
  have p5 := K1.cell 5
  simp only [List.getElem?_toArray, List.getElem?_cons_succ, List.getElem?_cons_zero] at p0 p1 p2 p3 p4 p5
  have l1 := K1.lt
  have l2 := K2.lt
  go_wp2_with fail
  refine (HD.out _).mono ?_
  rintro e_ w2 ⟨rfl, hb1⟩
  replace K1 := K1.below hb1 l1
  replace K2 := K2.below hb1 l2
  replace hbw := btrans hbw hb1
  clear hb1 l1 l2 p0 p1 p2 p3 p4 p5
  clear K1
  have r0 := K2.cell 0
  have r1 := K2.cell 1
  have r2 := K2.cell 2
  have r3 := K2.cell 3
  have r4 := K2.cell 4
  have r5 := K2.cell 5
  have zr0 := K2.frozen 0
  have zr1 := K2.frozen 1
  have zr2 := K2.frozen 2
  have zr3 := K2.frozen 3
  have zr4 := K2.frozen 4
  have zr5 := K2.frozen 5
  simp only [List.getElem?_toArray, List.getElem?_cons_succ, List.getElem?_cons_zero] at r0 r1 r2 r3 r4 r5
  have HK := Lib.hid K2
  have HBW := Lib.hid hbw
  clear K2 hbw
  go_wp2_with fail
  have K := (((((HK.out.set_ 0 (.int .i64 0)).set_ 1 (.int .i64 0)).set_ 2 (.int .i64 0)).set_ 3 (.int .i64 0)).set_ 4 (.int .i64 0)).set_ 5 (.int .i64 0)
  refine ret_struct2 (g := w.heap.size + 1) (t := 23) (cs := #[.int .i64 0, .int .i64 0, .int .i64 0, .int .i64 0, .int .i64 0, .int .i64 0]) rfl rfl ?_ Try.underlying23 rfl rfl rfl ?_
  · exact K
  · exact ⟨rfl, by (repeat' (first | refine bset ?_ (by first | omega | (simp <;> omega)) _ | refine balloc ?_ _ | refine Below.drew ?_ | refine below_drewN ?_ _ | exact HBW.out | exact Below.refl _ _))⟩

set_option maxRecDepth 100000 in
set_option maxHeartbeats 3200000 in
theorem rInvert_yes (A B C D E F q0 q1 q2 q3 q4 q5 : Int) (w : World) (h : mayB A B C D E F = true) (hd : ¬ A * D - B * C = 0) (h0 : ratioV D 4294967296 (A * D - B * C) = q0) (h1 : ratioV (-B) 4294967296 (A * D - B * C) = q1) (h2 : ratioV (-C) 4294967296 (A * D - B * C) = q2) (h3 : ratioV A 4294967296 (A * D - B * C) = q3) (h4 : ratioV (C * F - D * E) 65536 (A * D - B * C) = q4) (h5 : ratioV (B * E - A * F) 65536 (A * D - B * C) = q5) : Calls Try.prog 42 #[.agg #[.int .i64 A, .int .i64 B, .int .i64 C, .int .i64 D, .int .i64 E, .int .i64 F]] w fun ed w' => ed = .returned (.tuple #[.agg #[.int .i64 (okI (mayB q0 q1 q2 q3 q4 q5) q0), .int .i64 (okI (mayB q0 q1 q2 q3 q4 q5) q1), .int .i64 (okI (mayB q0 q1 q2 q3 q4 q5) q2), .int .i64 (okI (mayB q0 q1 q2 q3 q4 q5) q3), .int .i64 (okI (mayB q0 q1 q2 q3 q4 q5) q4), .int .i64 (okI (mayB q0 q1 q2 q3 q4 q5) q5)], .int .i64 (okE (mayB q0 q1 q2 q3 q4 q5))]) ∧ Below w.heap.size w w' := by
  obtain ⟨bA, bB, bC, bD, bE, bF⟩ := mayB_bd h
  have m1 := fix_mul bA bD
  have m2 := fix_mul bB bC
  have m3 := fix_mul bC bF
  have m4 := fix_mul bD bE
  have m5 := fix_mul bB bE
  have m6 := fix_mul bA bF
  have HA := Lib.hid (fun W => show Calls Try.prog 38 #[.agg #[.int .i64 A, .int .i64 B, .int .i64 C, .int .i64 D, .int .i64 E, .int .i64 F]] W fun ed w' => ed = .returned (.bool true) ∧ Below W.heap.size W w' by have := rmay_any A B C D E F W; rw [h] at this; exact this)
  have HD0 := fun W => rdet_any A B C D E F W h
  have db : -9223372036854775808 ≤ A * D - B * C ∧ A * D - B * C ≤ 9223372036854775807 := by omega
  generalize A * D - B * C = dt at *
  have c0 : (dt == 0) = false := by simp; omega
  have HD := Lib.hid HD0
  have M0 := fun W => show Calls Try.prog 65 #[.int .i64 D, .int .i64 4294967296, .int .i64 dt] W fun ed w' => ed = .returned (.int .i64 q0) ∧ Below W.heap.size W w' by have := ratio_any D 4294967296 dt W (by omega) (by omega) db hd; rw [h0] at this; exact this
  have M1 := fun W => show Calls Try.prog 65 #[.int .i64 (-B), .int .i64 4294967296, .int .i64 dt] W fun ed w' => ed = .returned (.int .i64 q1) ∧ Below W.heap.size W w' by have := ratio_any (-B) 4294967296 dt W (by omega) (by omega) db hd; rw [h1] at this; exact this
  have M2 := fun W => show Calls Try.prog 65 #[.int .i64 (-C), .int .i64 4294967296, .int .i64 dt] W fun ed w' => ed = .returned (.int .i64 q2) ∧ Below W.heap.size W w' by have := ratio_any (-C) 4294967296 dt W (by omega) (by omega) db hd; rw [h2] at this; exact this
  have M3 := fun W => show Calls Try.prog 65 #[.int .i64 A, .int .i64 4294967296, .int .i64 dt] W fun ed w' => ed = .returned (.int .i64 q3) ∧ Below W.heap.size W w' by have := ratio_any A 4294967296 dt W (by omega) (by omega) db hd; rw [h3] at this; exact this
  have M4 := fun W => show Calls Try.prog 65 #[.int .i64 (C * F - D * E), .int .i64 65536, .int .i64 dt] W fun ed w' => ed = .returned (.int .i64 q4) ∧ Below W.heap.size W w' by have := ratio_any (C * F - D * E) 65536 dt W (by omega) (by omega) db hd; rw [h4] at this; exact this
  have M5 := fun W => show Calls Try.prog 65 #[.int .i64 (B * E - A * F), .int .i64 65536, .int .i64 dt] W fun ed w' => ed = .returned (.int .i64 q5) ∧ Below W.heap.size W w' by have := ratio_any (B * E - A * F) 65536 dt W (by omega) (by omega) db hd; rw [h5] at this; exact this
  generalize hx3 : C * F = x3 at *
  generalize hx4 : D * E = x4 at *
  generalize hx5 : B * E = x5 at *
  generalize hx6 : A * F = x6 at *
  have MI := fun W => in_any q0 q1 q2 q3 q4 q5 W
  generalize mayB q0 q1 q2 q3 q4 q5 = ok at *
  have HM0 := Lib.hid M0
  have HM1 := Lib.hid M1
  have HM2 := Lib.hid M2
  have HM3 := Lib.hid M3
  have HM4 := Lib.hid M4
  have HM5 := Lib.hid M5
  have HMI := Lib.hid MI
  clear HD0 hd h db M0 h0 M1 h1 M2 h2 M3 h3 M4 h4 M5 h5 m1 m2 MI
  obtain ⟨bA0, bA1⟩ := bA
  obtain ⟨bB0, bB1⟩ := bB
  obtain ⟨bC0, bC1⟩ := bC
  obtain ⟨bD0, bD1⟩ := bD
  obtain ⟨m30, m31⟩ := m3
  obtain ⟨m40, m41⟩ := m4
  obtain ⟨m50, m51⟩ := m5
  obtain ⟨m60, m61⟩ := m6
  clear bE bF
  have K1 := (Blk.new w 23 #[.int .i64 A, .int .i64 B, .int .i64 C, .int .i64 D, .int .i64 E, .int .i64 F]).alloc (.cells #[.int .i64 0, .int .i64 0, .int .i64 0, .int .i64 0, .int .i64 0, .int .i64 0] 23)
  have K2 := Blk.new (w.alloc (.cells #[.int .i64 A, .int .i64 B, .int .i64 C, .int .i64 D, .int .i64 E, .int .i64 F] 23)) 23 #[.int .i64 0, .int .i64 0, .int .i64 0, .int .i64 0, .int .i64 0, .int .i64 0]
  have s1 : (w.alloc (.cells #[.int .i64 A, .int .i64 B, .int .i64 C, .int .i64 D, .int .i64 E, .int .i64 F] 23)).heap.size = w.heap.size + 1 := by simp
  rw [s1] at K2
  clear s1
  go_enter Try.func42, Try.ntmps42
  go_wp2_with fail
  refine (HA.out _).mono ?_
  rintro e_ w1 ⟨rfl, hb1⟩
  replace K1 := K1.below hb1 (by simp; omega)
  replace K2 := K2.below hb1 (by simp)
  have hbw : Below w.heap.size w w1 := btrans (by (repeat' (first | exact Below.refl _ _ | exact Below.refl _ _ | refine balloc ?_ _ | refine Below.drew ?_ | refine below_drewN ?_ _ | refine bset ?_ (by first | omega | (simp <;> omega)) _))) hb1
  clear hb1
  have p0 := K1.cell 0
  have p1 := K1.cell 1
  have p2 := K1.cell 2
  have p3 := K1.cell 3
  have p4 := K1.cell 4
  have p5 := K1.cell 5
  simp only [List.getElem?_toArray, List.getElem?_cons_succ, List.getElem?_cons_zero] at p0 p1 p2 p3 p4 p5
  have l1 := K1.lt
  have l2 := K2.lt
  go_wp2_with fail
  refine (HD.out _).mono ?_
  rintro e_ w2 ⟨rfl, hb1⟩
  replace K1 := K1.below hb1 l1
  replace K2 := K2.below hb1 l2
  replace hbw := btrans hbw hb1
  clear hb1 l1 l2 p0 p1 p2 p3 p4 p5
  have p0 := K1.cell 0
  have p1 := K1.cell 1
  have p2 := K1.cell 2
  have p3 := K1.cell 3
  have p4 := K1.cell 4
  have p5 := K1.cell 5
  simp only [List.getElem?_toArray, List.getElem?_cons_succ, List.getElem?_cons_zero] at p0 p1 p2 p3 p4 p5
  have r0 := K2.cell 0
  have r1 := K2.cell 1
  have r2 := K2.cell 2
  have r3 := K2.cell 3
  have r4 := K2.cell 4
  have r5 := K2.cell 5
  have zr0 := K2.frozen 0
  have zr1 := K2.frozen 1
  have zr2 := K2.frozen 2
  have zr3 := K2.frozen 3
  have zr4 := K2.frozen 4
  have zr5 := K2.frozen 5
  simp only [List.getElem?_toArray, List.getElem?_cons_succ, List.getElem?_cons_zero] at r0 r1 r2 r3 r4 r5
  have l1 := K1.lt
  have l2 := K2.lt
  have u0 : ∀ u : Up w2, u.val.cell? ⟨w.heap.size, 0, none⟩ = some (.int .i64 A) := fun u => (u.cell l1).trans p0
  have u1 : ∀ u : Up w2, u.val.cell? ⟨w.heap.size, 1, none⟩ = some (.int .i64 B) := fun u => (u.cell l1).trans p1
  have u2 : ∀ u : Up w2, u.val.cell? ⟨w.heap.size, 2, none⟩ = some (.int .i64 C) := fun u => (u.cell l1).trans p2
  have u3 : ∀ u : Up w2, u.val.cell? ⟨w.heap.size, 3, none⟩ = some (.int .i64 D) := fun u => (u.cell l1).trans p3
  have u4 : ∀ u : Up w2, u.val.cell? ⟨w.heap.size, 4, none⟩ = some (.int .i64 E) := fun u => (u.cell l1).trans p4
  have u5 : ∀ u : Up w2, u.val.cell? ⟨w.heap.size, 5, none⟩ = some (.int .i64 F) := fun u => (u.cell l1).trans p5
  have HU0 := Lib.hid (fun u : Up w2 => up_of (u := u) (HM0.out u.val))
  have HU1 := Lib.hid (fun u : Up w2 => up_of (u := u) (HM1.out u.val))
  have HU2 := Lib.hid (fun u : Up w2 => up_of (u := u) (HM2.out u.val))
  have HU3 := Lib.hid (fun u : Up w2 => up_of (u := u) (HM3.out u.val))
  have HU4 := Lib.hid (fun u : Up w2 => up_of (u := u) (HM4.out u.val))
  have HU5 := Lib.hid (fun u : Up w2 => up_of (u := u) (HM5.out u.val))
  have HUI := Lib.hid (fun u : Up w2 => up_of (u := u) (HMI.out u.val))
  clear HMI HM0 HM1 HM2 HM3 HM4 HM5 p0 r0 zr0 p1 r1 zr1 p2 r2 zr2 p3 r3 zr3 p4 r4 zr4 p5 r5 zr5
  go_wp2_with fail
  refine wp_region_up_tail 48 (by kernel_rfl) (by kernel_rfl) ?_
  simp only [List.take_succ_cons, List.take_zero, List.drop_succ_cons, List.drop_zero]
  repeat (go_big_quiet_step (fail))
  go_big_quiet_step (exact HU0.out _)
  repeat (go_big_quiet_step (fail))
  go_big_quiet_step (exact HU1.out _)
  repeat (go_big_quiet_step (fail))
  go_big_quiet_step (exact HU2.out _)
  repeat (go_big_quiet_step (fail))
  go_big_quiet_step (exact HU3.out _)
  repeat (go_big_quiet_step (fail))
  go_big_quiet_step (exact HU4.out _)
  repeat (go_big_quiet_step (fail))
  go_big_quiet_step (exact HU5.out _)
  repeat (go_big_quiet_step (fail))
  go_big_quiet_step (exact HUI.out _)
  repeat (go_big_quiet_step (fail))
  refine wpQuiet_nil ?_
  rintro _ ⟨uq, rfl⟩
  replace K2 := K2.below uq.ok l2
  replace hbw := btrans hbw uq.ok
  generalize hwx : uq.val = wx at *
  clear hwx uq K1 l1 l2 HUI HU0 u0 HU1 u1 HU2 u2 HU3 u3 HU4 u4 HU5 u5
  have r0 := K2.cell 0
  have r1 := K2.cell 1
  have r2 := K2.cell 2
  have r3 := K2.cell 3
  have r4 := K2.cell 4
  have r5 := K2.cell 5
  have zr0 := K2.frozen 0
  have zr1 := K2.frozen 1
  have zr2 := K2.frozen 2
  have zr3 := K2.frozen 3
  have zr4 := K2.frozen 4
  have zr5 := K2.frozen 5
  simp only [List.getElem?_toArray, List.getElem?_cons_succ, List.getElem?_cons_zero] at r0 r1 r2 r3 r4 r5
  have HK := Lib.hid K2
  have HBW := Lib.hid hbw
  clear K2 hbw
  go_wp2_with fail
  have K := (((((HK.out.set_ 0 (.int .i64 (okI ok q0))).set_ 1 (.int .i64 (okI ok q1))).set_ 2 (.int .i64 (okI ok q2))).set_ 3 (.int .i64 (okI ok q3))).set_ 4 (.int .i64 (okI ok q4))).set_ 5 (.int .i64 (okI ok q5))
  refine ret_struct2 (g := w.heap.size + 1) (t := 23) (cs := #[.int .i64 (okI ok q0), .int .i64 (okI ok q1), .int .i64 (okI ok q2), .int .i64 (okI ok q3), .int .i64 (okI ok q4), .int .i64 (okI ok q5)]) rfl rfl ?_ Try.underlying23 rfl rfl rfl ?_
  · exact K
  · exact ⟨rfl, by (repeat' (first | refine bset ?_ (by first | omega | (simp <;> omega)) _ | refine balloc ?_ _ | refine Below.drew ?_ | refine below_drewN ?_ _ | exact HBW.out | exact Below.refl _ _))⟩

end Go.Proofs.Ytaephahcohdbpaa.mt
