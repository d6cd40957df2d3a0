/-
  Layer 24 in the seat of the images: Mul (the text of mat/XMulY).
-/
import Derived.Test.YtegpjjkbbdfggaaMul
namespace Go.Proofs.Ytegpjjkbbdfggaa.mt
set_option linter.unusedVariables false
set_option linter.unusedSimpArgs false
open Go.RowKit bs

set_option maxRecDepth 100000 in
set_option maxHeartbeats 3200000 in
theorem mul_yes (A B C D E F a b c d e f : Int) (w : World) (h1 : mayB A B C D E F = true) (h2 : mayB a b c d e f = true) (n1 : eqB A B C D E F 65536 0 0 65536 0 0 = false) (n2 : eqB a b c d e f 65536 0 0 65536 0 0 = false) : Calls Try.prog 44 #[.agg #[.int .i64 A, .int .i64 B, .int .i64 C, .int .i64 D, .int .i64 E, .int .i64 F], .agg #[.int .i64 a, .int .i64 b, .int .i64 c, .int .i64 d, .int .i64 e, .int .i64 f]] w fun ed w' => ed = .returned (.tuple #[.agg #[.int .i64 (okI (mulB A B C D E F a b c d e f) (sum16 A a B c)), .int .i64 (okI (mulB A B C D E F a b c d e f) (sum16 A b B d)), .int .i64 (okI (mulB A B C D E F a b c d e f) (sum16 C a D c)), .int .i64 (okI (mulB A B C D E F a b c d e f) (sum16 C b D d)), .int .i64 (okI (mulB A B C D E F a b c d e f) ((sum16 E a F c) + e)), .int .i64 (okI (mulB A B C D E F a b c d e f) ((sum16 E b F d) + f))], .int .i64 (okE (mulB A B C D E F a b c d e f))]) ∧ Below w.heap.size w w' := by
  obtain ⟨bA, bB, bC, bD, bE, bF⟩ := mayB_bd h1
  obtain ⟨ba, bb, bc, bd, be, bf⟩ := mayB_bd h2
  have HA := Lib.hid (fun W => show Calls Try.prog 66 #[.agg #[.int .i64 A, .int .i64 B, .int .i64 C, .int .i64 D, .int .i64 E, .int .i64 F]] W fun ed w' => ed = .returned (.bool true) ∧ Below W.heap.size W w' by have := may_any A B C D E F W; rw [h1] at this; exact this)
  have HB := Lib.hid (fun W => show Calls Try.prog 66 #[.agg #[.int .i64 a, .int .i64 b, .int .i64 c, .int .i64 d, .int .i64 e, .int .i64 f]] W fun ed w' => ed = .returned (.bool true) ∧ Below W.heap.size W w' by have := may_any a b c d e f W; rw [h2] at this; exact this)
  have S0 := fun W => sum_any A a B c W bA ba bB bc
  have B0 := sum16_bd bA ba bB bc
  have S1 := fun W => sum_any A b B d W bA bb bB bd
  have B1 := sum16_bd bA bb bB bd
  have S2 := fun W => sum_any C a D c W bC ba bD bc
  have B2 := sum16_bd bC ba bD bc
  have S3 := fun W => sum_any C b D d W bC bb bD bd
  have B3 := sum16_bd bC bb bD bd
  have S4 := fun W => sum_any E a F c W bE ba bF bc
  have B4 := sum16_bd bE ba bF bc
  have S5 := fun W => sum_any E b F d W bE bb bF bd
  have B5 := sum16_bd bE bb bF bd
  have hok : mulB A B C D E F a b c d e f = mayB (sum16 A a B c) (sum16 A b B d) (sum16 C a D c) (sum16 C b D d) ((sum16 E a F c) + e) ((sum16 E b F d) + f) := rfl
  generalize mulB A B C D E F a b c d e f = ok at *
  generalize sum16 A a B c = v0 at *
  generalize sum16 A b B d = v1 at *
  generalize sum16 C a D c = v2 at *
  generalize sum16 C b D d = v3 at *
  generalize sum16 E a F c = v4 at *
  generalize sum16 E b F d = v5 at *
  have HH := Lib.hid (fun W => show Calls Try.prog 87 #[.agg #[.int .i64 v0, .int .i64 v1, .int .i64 v2, .int .i64 v3, .int .i64 (v4 + e), .int .i64 (v5 + f)]] W fun ed w' => ed = .returned (.tuple #[.agg #[.int .i64 (okI ok v0), .int .i64 (okI ok v1), .int .i64 (okI ok v2), .int .i64 (okI ok v3), .int .i64 (okI ok (v4 + e)), .int .i64 (okI ok (v5 + f))], .int .i64 (okE ok)]) ∧ Below W.heap.size W w' by have := held_any v0 v1 v2 v3 (v4 + e) (v5 + f) W; rw [← hok] at this; exact this)
  have HS0 := Lib.hid S0
  have HS1 := Lib.hid S1
  have HS2 := Lib.hid S2
  have HS3 := Lib.hid S3
  have HS4 := Lib.hid S4
  have HS5 := Lib.hid S5
  clear h1 h2 hok S0 S1 S2 S3 S4 S5
  obtain ⟨bE0, bE1⟩ := be
  obtain ⟨bF0, bF1⟩ := bf
  obtain ⟨B00, B01⟩ := B0
  obtain ⟨B10, B11⟩ := B1
  obtain ⟨B20, B21⟩ := B2
  obtain ⟨B30, B31⟩ := B3
  obtain ⟨B40, B41⟩ := B4
  obtain ⟨B50, B51⟩ := B5
  clear bA bB bC bD bE bF ba bb bc bd
  have K1 := ((Blk.new w 25 #[.int .i64 A, .int .i64 B, .int .i64 C, .int .i64 D, .int .i64 E, .int .i64 F]).alloc (.cells #[.int .i64 a, .int .i64 b, .int .i64 c, .int .i64 d, .int .i64 e, .int .i64 f] 25)).alloc (.cells #[.int .i64 0, .int .i64 0, .int .i64 0, .int .i64 0, .int .i64 0, .int .i64 0] 25)
  have K2 := (Blk.new (w.alloc (.cells #[.int .i64 A, .int .i64 B, .int .i64 C, .int .i64 D, .int .i64 E, .int .i64 F] 25)) 25 #[.int .i64 a, .int .i64 b, .int .i64 c, .int .i64 d, .int .i64 e, .int .i64 f]).alloc (.cells #[.int .i64 0, .int .i64 0, .int .i64 0, .int .i64 0, .int .i64 0, .int .i64 0] 25)
  have K3 := Blk.new ((w.alloc (.cells #[.int .i64 A, .int .i64 B, .int .i64 C, .int .i64 D, .int .i64 E, .int .i64 F] 25)).alloc (.cells #[.int .i64 a, .int .i64 b, .int .i64 c, .int .i64 d, .int .i64 e, .int .i64 f] 25)) 25 #[.int .i64 0, .int .i64 0, .int .i64 0, .int .i64 0, .int .i64 0, .int .i64 0]
  have s1 : ∀ (u : World) (o : Obj), (u.alloc o).heap.size = u.heap.size + 1 := fun u o => by simp
  simp only [s1] at K2 K3
  clear s1
  go_enter Try.func44, Try.ntmps44
  go_wp2_with fail
  refine (HA.out _).mono ?_
  rintro e_ w1 ⟨rfl, hb1⟩
  replace K1 := K1.below hb1 (by simp; omega)
  replace K2 := K2.below hb1 (by first | (simp; done) | (simp; omega))
  replace K3 := K3.below hb1 (by first | (simp; done) | (simp; omega))
  have hbw : Below w.heap.size w w1 := btrans (by (repeat' (first | exact Below.refl _ _ | exact Below.refl _ _ | refine balloc ?_ _ | refine Below.drew ?_ | refine below_drewN ?_ _ | refine bset ?_ (by first | omega | (simp <;> omega)) _))) hb1
  have p0 := K1.cell 0
  have p1 := K1.cell 1
  have p2 := K1.cell 2
  have p3 := K1.cell 3
  have p4 := K1.cell 4
  have p5 := K1.cell 5
  have q0 := K2.cell 0
  have q1 := K2.cell 1
  have q2 := K2.cell 2
  have q3 := K2.cell 3
  have q4 := K2.cell 4
  have q5 := K2.cell 5
  have r0 := K3.cell 0
  have r1 := K3.cell 1
  have r2 := K3.cell 2
  have r3 := K3.cell 3
  have r4 := K3.cell 4
  have r5 := K3.cell 5
  have zr0 := K3.frozen 0
  have zr1 := K3.frozen 1
  have zr2 := K3.frozen 2
  have zr3 := K3.frozen 3
  have zr4 := K3.frozen 4
  have zr5 := K3.frozen 5
  simp only [List.getElem?_toArray, List.getElem?_cons_succ, List.getElem?_cons_zero] at p0 p1 p2 p3 p4 p5 q0 q1 q2 q3 q4 q5 r0 r1 r2 r3 r4 r5
  have l1 := K1.lt
  have l2 := K2.lt
  have l3 := K3.lt
  clear hb1
  go_wp2_with fail
  refine (HB.out _).mono ?_
  rintro e_ w2 ⟨rfl, hb1⟩
  replace K1 := K1.below hb1 l1
  replace K2 := K2.below hb1 l2
  replace K3 := K3.below hb1 l3
  replace hbw := btrans hbw hb1
  clear p0 p1 p2 p3 p4 p5 q0 q1 q2 q3 q4 q5 r0 r1 r2 r3 r4 r5 zr0 zr1 zr2 zr3 zr4 zr5 l1 l2 l3
  have p0 := K1.cell 0
  have p1 := K1.cell 1
  have p2 := K1.cell 2
  have p3 := K1.cell 3
  have p4 := K1.cell 4
  have p5 := K1.cell 5
  have q0 := K2.cell 0
  have q1 := K2.cell 1
  have q2 := K2.cell 2
  have q3 := K2.cell 3
  have q4 := K2.cell 4
  have q5 := K2.cell 5
  have r0 := K3.cell 0
  have r1 := K3.cell 1
  have r2 := K3.cell 2
  have r3 := K3.cell 3
  have r4 := K3.cell 4
  have r5 := K3.cell 5
  have zr0 := K3.frozen 0
  have zr1 := K3.frozen 1
  have zr2 := K3.frozen 2
  have zr3 := K3.frozen 3
  have zr4 := K3.frozen 4
  have zr5 := K3.frozen 5
  simp only [List.getElem?_toArray, List.getElem?_cons_succ, List.getElem?_cons_zero] at p0 p1 p2 p3 p4 p5 q0 q1 q2 q3 q4 q5 r0 r1 r2 r3 r4 r5
  have l1 := K1.lt
  have l2 := K2.lt
  have l3 := K3.lt
  have u0 : ∀ u : Up w2, u.val.cell? ⟨w.heap.size, 0, none⟩ = some (.int .i64 A) := fun u => (u.cell l1).trans p0
  have u1 : ∀ u : Up w2, u.val.cell? ⟨w.heap.size, 1, none⟩ = some (.int .i64 B) := fun u => (u.cell l1).trans p1
  have u2 : ∀ u : Up w2, u.val.cell? ⟨w.heap.size, 2, none⟩ = some (.int .i64 C) := fun u => (u.cell l1).trans p2
  have u3 : ∀ u : Up w2, u.val.cell? ⟨w.heap.size, 3, none⟩ = some (.int .i64 D) := fun u => (u.cell l1).trans p3
  have u4 : ∀ u : Up w2, u.val.cell? ⟨w.heap.size, 4, none⟩ = some (.int .i64 E) := fun u => (u.cell l1).trans p4
  have u5 : ∀ u : Up w2, u.val.cell? ⟨w.heap.size, 5, none⟩ = some (.int .i64 F) := fun u => (u.cell l1).trans p5
  clear hb1
  have JG := guard_mat
  have JE : ∀ w, (binOp .eql 25 (.agg #[.int .i64 A, .int .i64 B, .int .i64 C, .int .i64 D, .int .i64 E, .int .i64 F]) (.agg #[.int .i64 65536, .int .i64 0, .int .i64 0, .int .i64 65536, .int .i64 0, .int .i64 0])).run Try.prog w = .ok (.bool false) w := fun w => by
    have := eq_mat A B C D E F 65536 0 0 65536 0 0 w
    rw [n1] at this
    exact this
  have HU := Lib.hid (fun u : Up w2 => up_of (u := u) (one_any u.val))
  go_wp2_with fail
  (refine wp_region_up (by kernel_rfl) (by kernel_rfl) ?_; (repeat (go_big_quiet_step (exact HU.out _))); refine wpQuiet_nil ?_; rintro _ ⟨uq, rfl⟩)
  replace K1 := K1.below uq.ok l1
  replace K2 := K2.below uq.ok l2
  replace K3 := K3.below uq.ok l3
  replace hbw := btrans hbw uq.ok
  generalize hwx : uq.val = w3 at *
  clear hwx uq HU JG JE p0 p1 p2 p3 p4 p5 q0 q1 q2 q3 q4 q5 r0 r1 r2 r3 r4 r5 zr0 zr1 zr2 zr3 zr4 zr5 u0 u1 u2 u3 u4 u5 l1 l2 l3
  have p0 := K1.cell 0
  have p1 := K1.cell 1
  have p2 := K1.cell 2
  have p3 := K1.cell 3
  have p4 := K1.cell 4
  have p5 := K1.cell 5
  have q0 := K2.cell 0
  have q1 := K2.cell 1
  have q2 := K2.cell 2
  have q3 := K2.cell 3
  have q4 := K2.cell 4
  have q5 := K2.cell 5
  have r0 := K3.cell 0
  have r1 := K3.cell 1
  have r2 := K3.cell 2
  have r3 := K3.cell 3
  have r4 := K3.cell 4
  have r5 := K3.cell 5
  have zr0 := K3.frozen 0
  have zr1 := K3.frozen 1
  have zr2 := K3.frozen 2
  have zr3 := K3.frozen 3
  have zr4 := K3.frozen 4
  have zr5 := K3.frozen 5
  simp only [List.getElem?_toArray, List.getElem?_cons_succ, List.getElem?_cons_zero] at p0 p1 p2 p3 p4 p5 q0 q1 q2 q3 q4 q5 r0 r1 r2 r3 r4 r5
  have l1 := K1.lt
  have l2 := K2.lt
  have l3 := K3.lt
  have u0 : ∀ u : Up w3, u.val.cell? ⟨w.heap.size + 1, 0, none⟩ = some (.int .i64 a) := fun u => (u.cell l2).trans q0
  have u1 : ∀ u : Up w3, u.val.cell? ⟨w.heap.size + 1, 1, none⟩ = some (.int .i64 b) := fun u => (u.cell l2).trans q1
  have u2 : ∀ u : Up w3, u.val.cell? ⟨w.heap.size + 1, 2, none⟩ = some (.int .i64 c) := fun u => (u.cell l2).trans q2
  have u3 : ∀ u : Up w3, u.val.cell? ⟨w.heap.size + 1, 3, none⟩ = some (.int .i64 d) := fun u => (u.cell l2).trans q3
  have u4 : ∀ u : Up w3, u.val.cell? ⟨w.heap.size + 1, 4, none⟩ = some (.int .i64 e) := fun u => (u.cell l2).trans q4
  have u5 : ∀ u : Up w3, u.val.cell? ⟨w.heap.size + 1, 5, none⟩ = some (.int .i64 f) := fun u => (u.cell l2).trans q5
  have JG := guard_mat
  have JE : ∀ w, (binOp .eql 25 (.agg #[.int .i64 a, .int .i64 b, .int .i64 c, .int .i64 d, .int .i64 e, .int .i64 f]) (.agg #[.int .i64 65536, .int .i64 0, .int .i64 0, .int .i64 65536, .int .i64 0, .int .i64 0])).run Try.prog w = .ok (.bool false) w := fun w => by
    have := eq_mat a b c d e f 65536 0 0 65536 0 0 w
    rw [n2] at this
    exact this
  have HU := Lib.hid (fun u : Up w3 => up_of (u := u) (one_any u.val))
  go_wp2_with fail
  (refine wp_region_up (by kernel_rfl) (by kernel_rfl) ?_; (repeat (go_big_quiet_step (exact HU.out _))); refine wpQuiet_nil ?_; rintro _ ⟨uq, rfl⟩)
  replace K1 := K1.below uq.ok l1
  replace K2 := K2.below uq.ok l2
  replace K3 := K3.below uq.ok l3
  replace hbw := btrans hbw uq.ok
  generalize hwx : uq.val = w4 at *
  clear hwx uq HU JG JE p0 p1 p2 p3 p4 p5 q0 q1 q2 q3 q4 q5 r0 r1 r2 r3 r4 r5 zr0 zr1 zr2 zr3 zr4 zr5 u0 u1 u2 u3 u4 u5 l1 l2 l3
  have p0 := K1.cell 0
  have p1 := K1.cell 1
  have p2 := K1.cell 2
  have p3 := K1.cell 3
  have p4 := K1.cell 4
  have p5 := K1.cell 5
  have q0 := K2.cell 0
  have q1 := K2.cell 1
  have q2 := K2.cell 2
  have q3 := K2.cell 3
  have q4 := K2.cell 4
  have q5 := K2.cell 5
  have r0 := K3.cell 0
  have r1 := K3.cell 1
  have r2 := K3.cell 2
  have r3 := K3.cell 3
  have r4 := K3.cell 4
  have r5 := K3.cell 5
  have zr0 := K3.frozen 0
  have zr1 := K3.frozen 1
  have zr2 := K3.frozen 2
  have zr3 := K3.frozen 3
  have zr4 := K3.frozen 4
  have zr5 := K3.frozen 5
  simp only [List.getElem?_toArray, List.getElem?_cons_succ, List.getElem?_cons_zero] at p0 p1 p2 p3 p4 p5 q0 q1 q2 q3 q4 q5 r0 r1 r2 r3 r4 r5
  have l1 := K1.lt
  have l2 := K2.lt
  have l3 := K3.lt
  go_wp2_with fail
  have xp0 : ∀ u : Up w4, u.val.cell? ⟨w.heap.size, 0, none⟩ = some (.int .i64 A) := fun u => (u.cell l1).trans p0
  have xp1 : ∀ u : Up w4, u.val.cell? ⟨w.heap.size, 1, none⟩ = some (.int .i64 B) := fun u => (u.cell l1).trans p1
  have xp2 : ∀ u : Up w4, u.val.cell? ⟨w.heap.size, 2, none⟩ = some (.int .i64 C) := fun u => (u.cell l1).trans p2
  have xp3 : ∀ u : Up w4, u.val.cell? ⟨w.heap.size, 3, none⟩ = some (.int .i64 D) := fun u => (u.cell l1).trans p3
  have xp4 : ∀ u : Up w4, u.val.cell? ⟨w.heap.size, 4, none⟩ = some (.int .i64 E) := fun u => (u.cell l1).trans p4
  have xp5 : ∀ u : Up w4, u.val.cell? ⟨w.heap.size, 5, none⟩ = some (.int .i64 F) := fun u => (u.cell l1).trans p5
  have xq0 : ∀ u : Up w4, u.val.cell? ⟨w.heap.size + 1, 0, none⟩ = some (.int .i64 a) := fun u => (u.cell l2).trans q0
  have xq1 : ∀ u : Up w4, u.val.cell? ⟨w.heap.size + 1, 1, none⟩ = some (.int .i64 b) := fun u => (u.cell l2).trans q1
  have xq2 : ∀ u : Up w4, u.val.cell? ⟨w.heap.size + 1, 2, none⟩ = some (.int .i64 c) := fun u => (u.cell l2).trans q2
  have xq3 : ∀ u : Up w4, u.val.cell? ⟨w.heap.size + 1, 3, none⟩ = some (.int .i64 d) := fun u => (u.cell l2).trans q3
  have xq4 : ∀ u : Up w4, u.val.cell? ⟨w.heap.size + 1, 4, none⟩ = some (.int .i64 e) := fun u => (u.cell l2).trans q4
  have xq5 : ∀ u : Up w4, u.val.cell? ⟨w.heap.size + 1, 5, none⟩ = some (.int .i64 f) := fun u => (u.cell l2).trans q5
  have HU0 := Lib.hid (fun u : Up w4 => up_same (u := u) (HS0.out u.val))
  have HU1 := Lib.hid (fun u : Up w4 => up_same (u := u) (HS1.out u.val))
  have HU2 := Lib.hid (fun u : Up w4 => up_same (u := u) (HS2.out u.val))
  have HU3 := Lib.hid (fun u : Up w4 => up_same (u := u) (HS3.out u.val))
  have HU4 := Lib.hid (fun u : Up w4 => up_same (u := u) (HS4.out u.val))
  have HU5 := Lib.hid (fun u : Up w4 => up_same (u := u) (HS5.out u.val))
  have HUH := Lib.hid (fun u : Up w4 => up_of (u := u) (HH.out u.val))
  clear HH HS0 HS1 HS2 HS3 HS4 HS5 p0 p1 p2 p3 p4 p5 q0 q1 q2 q3 q4 q5 r0 r1 r2 r3 r4 r5 zr0 zr1 zr2 zr3 zr4 zr5
  simp only [List.append]
  refine wp_region_up_tail 70 (by kernel_rfl) (by kernel_rfl) ?_
  simp only [List.take_succ_cons, List.take_zero, List.drop_succ_cons, List.drop_zero]
  repeat (go_big_quiet_step (fail))
  go_big_quiet_step (exact HU0.out _)
  repeat (go_big_quiet_step (fail))
  go_big_quiet_step (exact HU1.out _)
  repeat (go_big_quiet_step (fail))
  go_big_quiet_step (exact HU2.out _)
  repeat (go_big_quiet_step (fail))
  go_big_quiet_step (exact HU3.out _)
  repeat (go_big_quiet_step (fail))
  go_big_quiet_step (exact HU4.out _)
  repeat (go_big_quiet_step (fail))
  go_big_quiet_step (exact HU5.out _)
  repeat (go_big_quiet_step (fail))
  go_big_quiet_step (exact HUH.out _)
  repeat (go_big_quiet_step (fail))
  refine wpQuiet_nil ?_
  rintro _ ⟨uq, rfl⟩
  replace K3 := K3.below uq.ok l3
  replace hbw := btrans hbw uq.ok
  generalize hwx : uq.val = wx at *
  clear hwx uq K1 K2 l1 l2 l3 HUH HU0 HU1 HU2 HU3 HU4 HU5 xp0 xp1 xp2 xp3 xp4 xp5 xq0 xq1 xq2 xq3 xq4 xq5
  have r0 := K3.cell 0
  have r1 := K3.cell 1
  have r2 := K3.cell 2
  have r3 := K3.cell 3
  have r4 := K3.cell 4
  have r5 := K3.cell 5
  have zr0 := K3.frozen 0
  have zr1 := K3.frozen 1
  have zr2 := K3.frozen 2
  have zr3 := K3.frozen 3
  have zr4 := K3.frozen 4
  have zr5 := K3.frozen 5
  simp only [List.getElem?_toArray, List.getElem?_cons_succ, List.getElem?_cons_zero] at r0 r1 r2 r3 r4 r5
  have HK := Lib.hid K3
  have HBW := Lib.hid hbw
  clear K3 hbw
  go_wp2_with fail
  have K := (((((HK.out.set_ 0 (.int .i64 (okI ok v0))).set_ 1 (.int .i64 (okI ok v1))).set_ 2 (.int .i64 (okI ok v2))).set_ 3 (.int .i64 (okI ok v3))).set_ 4 (.int .i64 (okI ok (v4 + e)))).set_ 5 (.int .i64 (okI ok (v5 + f)))
  refine ret_struct2 (g := w.heap.size + 2) (t := 25) (cs := #[.int .i64 (okI ok v0), .int .i64 (okI ok v1), .int .i64 (okI ok v2), .int .i64 (okI ok v3), .int .i64 (okI ok (v4 + e)), .int .i64 (okI ok (v5 + f))]) rfl rfl ?_ Try.underlying25 rfl rfl rfl ?_
  · exact K
  · exact ⟨rfl, by (repeat' (first | refine bset ?_ (by first | omega | (simp <;> omega)) _ | refine balloc ?_ _ | refine Below.drew ?_ | refine below_drewN ?_ _ | exact HBW.out | exact Below.refl _ _))⟩

end Go.Proofs.Ytegpjjkbbdfggaa.mt
