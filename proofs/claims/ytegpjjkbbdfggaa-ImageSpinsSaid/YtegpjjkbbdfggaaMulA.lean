/-
  Layer 24 in the seat of the images: Mul (the text of mat/XMulA).
-/
import Derived.Test.YtegpjjkbbdfggaaMulY
namespace Go.Proofs.Ytegpjjkbbdfggaa.mt
set_option linter.unusedVariables false
set_option linter.unusedSimpArgs false
open Go.RowKit bs
set_option maxRecDepth 100000 in
set_option maxHeartbeats 3200000 in
theorem mul_ol (A B C D E F a b c d e f : Int) (w : World) (h1 : mayB A B C D E F = true) (h2 : mayB a b c d e f = true) (n1 : eqB A B C D E F 65536 0 0 65536 0 0 = true) : Calls Try.prog 44 #[.agg #[.int .i64 A, .int .i64 B, .int .i64 C, .int .i64 D, .int .i64 E, .int .i64 F], .agg #[.int .i64 a, .int .i64 b, .int .i64 c, .int .i64 d, .int .i64 e, .int .i64 f]] w fun ed w' => ed = .returned (.tuple #[.agg #[.int .i64 a, .int .i64 b, .int .i64 c, .int .i64 d, .int .i64 e, .int .i64 f], .int .i64 0]) ∧ Below w.heap.size w w' := by
  have HA := Lib.hid (fun W => show Calls Try.prog 66 #[.agg #[.int .i64 A, .int .i64 B, .int .i64 C, .int .i64 D, .int .i64 E, .int .i64 F]] W fun ed w' => ed = .returned (.bool true) ∧ Below W.heap.size W w' by have := may_any A B C D E F W; rw [h1] at this; exact this)
  have HB := Lib.hid (fun W => show Calls Try.prog 66 #[.agg #[.int .i64 a, .int .i64 b, .int .i64 c, .int .i64 d, .int .i64 e, .int .i64 f]] W fun ed w' => ed = .returned (.bool true) ∧ Below W.heap.size W w' by have := may_any a b c d e f W; rw [h2] at this; exact this)
  clear h1 h2
  have K1 := ((Blk.new w 25 #[.int .i64 A, .int .i64 B, .int .i64 C, .int .i64 D, .int .i64 E, .int .i64 F]).alloc (.cells #[.int .i64 a, .int .i64 b, .int .i64 c, .int .i64 d, .int .i64 e, .int .i64 f] 25)).alloc (.cells #[.int .i64 0, .int .i64 0, .int .i64 0, .int .i64 0, .int .i64 0, .int .i64 0] 25)
  have K2 := (Blk.new (w.alloc (.cells #[.int .i64 A, .int .i64 B, .int .i64 C, .int .i64 D, .int .i64 E, .int .i64 F] 25)) 25 #[.int .i64 a, .int .i64 b, .int .i64 c, .int .i64 d, .int .i64 e, .int .i64 f]).alloc (.cells #[.int .i64 0, .int .i64 0, .int .i64 0, .int .i64 0, .int .i64 0, .int .i64 0] 25)
  have K3 := Blk.new ((w.alloc (.cells #[.int .i64 A, .int .i64 B, .int .i64 C, .int .i64 D, .int .i64 E, .int .i64 F] 25)).alloc (.cells #[.int .i64 a, .int .i64 b, .int .i64 c, .int .i64 d, .int .i64 e, .int .i64 f] 25)) 25 #[.int .i64 0, .int .i64 0, .int .i64 0, .int .i64 0, .int .i64 0, .int .i64 0]
  have s1 : ∀ (u : World) (o : Obj), (u.alloc o).heap.size = u.heap.size + 1 := fun u o => by simp
  simp only [s1] at K2 K3
  clear s1
  go_enter Try.func44, Try.ntmps44
  go_wp2_with fail
  refine (HA.out _).mono ?_
  rintro e_ w1 ⟨rfl, hb1⟩
  replace K1 := K1.below hb1 (by simp; omega)
  replace K2 := K2.below hb1 (by first | (simp; done) | (simp; omega))
  replace K3 := K3.below hb1 (by first | (simp; done) | (simp; omega))
  have hbw : Below w.heap.size w w1 := btrans (by (repeat' (first | exact Below.refl _ _ | exact Below.refl _ _ | refine balloc ?_ _ | refine Below.drew ?_ | refine below_drewN ?_ _ | refine bset ?_ (by first | omega | (simp <;> omega)) _))) hb1
  have p0 := K1.cell 0
  have p1 := K1.cell 1
  have p2 := K1.cell 2
  have p3 := K1.cell 3
  have p4 := K1.cell 4
  have p5 := K1.cell 5
  have q0 := K2.cell 0
  have q1 := K2.cell 1
  have q2 := K2.cell 2
  have q3 := K2.cell 3
  have q4 := K2.cell 4
  have q5 := K2.cell 5
  have r0 := K3.cell 0
  have r1 := K3.cell 1
  have r2 := K3.cell 2
  have r3 := K3.cell 3
  have r4 := K3.cell 4
  have r5 := K3.cell 5
  have zr0 := K3.frozen 0
  have zr1 := K3.frozen 1
  have zr2 := K3.frozen 2
  have zr3 := K3.frozen 3
  have zr4 := K3.frozen 4
  have zr5 := K3.frozen 5
  simp only [List.getElem?_toArray, List.getElem?_cons_succ, List.getElem?_cons_zero] at p0 p1 p2 p3 p4 p5 q0 q1 q2 q3 q4 q5 r0 r1 r2 r3 r4 r5
  have l1 := K1.lt
  have l2 := K2.lt
  have l3 := K3.lt
  clear hb1
  go_wp2_with fail
  refine (HB.out _).mono ?_
  rintro e_ w2 ⟨rfl, hb1⟩
  replace K1 := K1.below hb1 l1
  replace K2 := K2.below hb1 l2
  replace K3 := K3.below hb1 l3
  replace hbw := btrans hbw hb1
  clear p0 p1 p2 p3 p4 p5 q0 q1 q2 q3 q4 q5 r0 r1 r2 r3 r4 r5 zr0 zr1 zr2 zr3 zr4 zr5 l1 l2 l3
  have p0 := K1.cell 0
  have p1 := K1.cell 1
  have p2 := K1.cell 2
  have p3 := K1.cell 3
  have p4 := K1.cell 4
  have p5 := K1.cell 5
  have q0 := K2.cell 0
  have q1 := K2.cell 1
  have q2 := K2.cell 2
  have q3 := K2.cell 3
  have q4 := K2.cell 4
  have q5 := K2.cell 5
  have r0 := K3.cell 0
  have r1 := K3.cell 1
  have r2 := K3.cell 2
  have r3 := K3.cell 3
  have r4 := K3.cell 4
  have r5 := K3.cell 5
  have zr0 := K3.frozen 0
  have zr1 := K3.frozen 1
  have zr2 := K3.frozen 2
  have zr3 := K3.frozen 3
  have zr4 := K3.frozen 4
  have zr5 := K3.frozen 5
  simp only [List.getElem?_toArray, List.getElem?_cons_succ, List.getElem?_cons_zero] at p0 p1 p2 p3 p4 p5 q0 q1 q2 q3 q4 q5 r0 r1 r2 r3 r4 r5
  have l1 := K1.lt
  have l2 := K2.lt
  have l3 := K3.lt
  have u0 : ∀ u : Up w2, u.val.cell? ⟨w.heap.size, 0, none⟩ = some (.int .i64 A) := fun u => (u.cell l1).trans p0
  have u1 : ∀ u : Up w2, u.val.cell? ⟨w.heap.size, 1, none⟩ = some (.int .i64 B) := fun u => (u.cell l1).trans p1
  have u2 : ∀ u : Up w2, u.val.cell? ⟨w.heap.size, 2, none⟩ = some (.int .i64 C) := fun u => (u.cell l1).trans p2
  have u3 : ∀ u : Up w2, u.val.cell? ⟨w.heap.size, 3, none⟩ = some (.int .i64 D) := fun u => (u.cell l1).trans p3
  have u4 : ∀ u : Up w2, u.val.cell? ⟨w.heap.size, 4, none⟩ = some (.int .i64 E) := fun u => (u.cell l1).trans p4
  have u5 : ∀ u : Up w2, u.val.cell? ⟨w.heap.size, 5, none⟩ = some (.int .i64 F) := fun u => (u.cell l1).trans p5
  clear hb1
  have JG := guard_mat
  have JE : ∀ w, (binOp .eql 25 (.agg #[.int .i64 A, .int .i64 B, .int .i64 C, .int .i64 D, .int .i64 E, .int .i64 F]) (.agg #[.int .i64 65536, .int .i64 0, .int .i64 0, .int .i64 65536, .int .i64 0, .int .i64 0])).run Try.prog w = .ok (.bool true) w := fun w => by
    have := eq_mat A B C D E F 65536 0 0 65536 0 0 w
    rw [n1] at this
    exact this
  have HU := Lib.hid (fun u : Up w2 => up_of (u := u) (one_any u.val))
  go_wp2_with fail
  (refine wp_region_up (by kernel_rfl) (by kernel_rfl) ?_; (repeat (go_big_quiet_step (exact HU.out _))); refine wpQuiet_nil ?_; rintro _ ⟨uq, rfl⟩)
  replace K1 := K1.below uq.ok l1
  replace K2 := K2.below uq.ok l2
  replace K3 := K3.below uq.ok l3
  replace hbw := btrans hbw uq.ok
  generalize hwx : uq.val = w3 at *
  clear hwx uq HU JG JE p0 p1 p2 p3 p4 p5 q0 q1 q2 q3 q4 q5 r0 r1 r2 r3 r4 r5 zr0 zr1 zr2 zr3 zr4 zr5 u0 u1 u2 u3 u4 u5 l1 l2 l3
  have p0 := K1.cell 0
  have p1 := K1.cell 1
  have p2 := K1.cell 2
  have p3 := K1.cell 3
  have p4 := K1.cell 4
  have p5 := K1.cell 5
  have q0 := K2.cell 0
  have q1 := K2.cell 1
  have q2 := K2.cell 2
  have q3 := K2.cell 3
  have q4 := K2.cell 4
  have q5 := K2.cell 5
  have r0 := K3.cell 0
  have r1 := K3.cell 1
  have r2 := K3.cell 2
  have r3 := K3.cell 3
  have r4 := K3.cell 4
  have r5 := K3.cell 5
  have zr0 := K3.frozen 0
  have zr1 := K3.frozen 1
  have zr2 := K3.frozen 2
  have zr3 := K3.frozen 3
  have zr4 := K3.frozen 4
  have zr5 := K3.frozen 5
  simp only [List.getElem?_toArray, List.getElem?_cons_succ, List.getElem?_cons_zero] at p0 p1 p2 p3 p4 p5 q0 q1 q2 q3 q4 q5 r0 r1 r2 r3 r4 r5
  have HK := Lib.hid K3
  have HBW := Lib.hid hbw
  clear K1 K2 K3 hbw
  go_wp2_with fail
  have K := (((((HK.out.set_ 0 (.int .i64 a)).set_ 1 (.int .i64 b)).set_ 2 (.int .i64 c)).set_ 3 (.int .i64 d)).set_ 4 (.int .i64 e)).set_ 5 (.int .i64 f)
  refine ret_struct2 (g := w.heap.size + 2) (t := 25) (cs := #[.int .i64 a, .int .i64 b, .int .i64 c, .int .i64 d, .int .i64 e, .int .i64 f]) rfl rfl ?_ Try.underlying25 rfl rfl rfl ?_
  · exact K
  · exact ⟨rfl, by (repeat' (first | refine bset ?_ (by first | omega | (simp <;> omega)) _ | refine balloc ?_ _ | refine Below.drew ?_ | refine below_drewN ?_ _ | exact HBW.out | exact Below.refl _ _))⟩
set_option maxRecDepth 100000 in
set_option maxHeartbeats 3200000 in
theorem mul_or (A B C D E F a b c d e f : Int) (w : World) (h1 : mayB A B C D E F = true) (h2 : mayB a b c d e f = true) (n1 : eqB A B C D E F 65536 0 0 65536 0 0 = false) (n2 : eqB a b c d e f 65536 0 0 65536 0 0 = true) : Calls Try.prog 44 #[.agg #[.int .i64 A, .int .i64 B, .int .i64 C, .int .i64 D, .int .i64 E, .int .i64 F], .agg #[.int .i64 a, .int .i64 b, .int .i64 c, .int .i64 d, .int .i64 e, .int .i64 f]] w fun ed w' => ed = .returned (.tuple #[.agg #[.int .i64 A, .int .i64 B, .int .i64 C, .int .i64 D, .int .i64 E, .int .i64 F], .int .i64 0]) ∧ Below w.heap.size w w' := by
  have HA := Lib.hid (fun W => show Calls Try.prog 66 #[.agg #[.int .i64 A, .int .i64 B, .int .i64 C, .int .i64 D, .int .i64 E, .int .i64 F]] W fun ed w' => ed = .returned (.bool true) ∧ Below W.heap.size W w' by have := may_any A B C D E F W; rw [h1] at this; exact this)
  have HB := Lib.hid (fun W => show Calls Try.prog 66 #[.agg #[.int .i64 a, .int .i64 b, .int .i64 c, .int .i64 d, .int .i64 e, .int .i64 f]] W fun ed w' => ed = .returned (.bool true) ∧ Below W.heap.size W w' by have := may_any a b c d e f W; rw [h2] at this; exact this)
  clear h1 h2
  have K1 := ((Blk.new w 25 #[.int .i64 A, .int .i64 B, .int .i64 C, .int .i64 D, .int .i64 E, .int .i64 F]).alloc (.cells #[.int .i64 a, .int .i64 b, .int .i64 c, .int .i64 d, .int .i64 e, .int .i64 f] 25)).alloc (.cells #[.int .i64 0, .int .i64 0, .int .i64 0, .int .i64 0, .int .i64 0, .int .i64 0] 25)
  have K2 := (Blk.new (w.alloc (.cells #[.int .i64 A, .int .i64 B, .int .i64 C, .int .i64 D, .int .i64 E, .int .i64 F] 25)) 25 #[.int .i64 a, .int .i64 b, .int .i64 c, .int .i64 d, .int .i64 e, .int .i64 f]).alloc (.cells #[.int .i64 0, .int .i64 0, .int .i64 0, .int .i64 0, .int .i64 0, .int .i64 0] 25)
  have K3 := Blk.new ((w.alloc (.cells #[.int .i64 A, .int .i64 B, .int .i64 C, .int .i64 D, .int .i64 E, .int .i64 F] 25)).alloc (.cells #[.int .i64 a, .int .i64 b, .int .i64 c, .int .i64 d, .int .i64 e, .int .i64 f] 25)) 25 #[.int .i64 0, .int .i64 0, .int .i64 0, .int .i64 0, .int .i64 0, .int .i64 0]
  have s1 : ∀ (u : World) (o : Obj), (u.alloc o).heap.size = u.heap.size + 1 := fun u o => by simp
  simp only [s1] at K2 K3
  clear s1
  go_enter Try.func44, Try.ntmps44
  go_wp2_with fail
  refine (HA.out _).mono ?_
  rintro e_ w1 ⟨rfl, hb1⟩
  replace K1 := K1.below hb1 (by simp; omega)
  replace K2 := K2.below hb1 (by first | (simp; done) | (simp; omega))
  replace K3 := K3.below hb1 (by first | (simp; done) | (simp; omega))
  have hbw : Below w.heap.size w w1 := btrans (by (repeat' (first | exact Below.refl _ _ | exact Below.refl _ _ | refine balloc ?_ _ | refine Below.drew ?_ | refine below_drewN ?_ _ | refine bset ?_ (by first | omega | (simp <;> omega)) _))) hb1
  have p0 := K1.cell 0
  have p1 := K1.cell 1
  have p2 := K1.cell 2
  have p3 := K1.cell 3
  have p4 := K1.cell 4
  have p5 := K1.cell 5
  have q0 := K2.cell 0
  have q1 := K2.cell 1
  have q2 := K2.cell 2
  have q3 := K2.cell 3
  have q4 := K2.cell 4
  have q5 := K2.cell 5
  have r0 := K3.cell 0
  have r1 := K3.cell 1
  have r2 := K3.cell 2
  have r3 := K3.cell 3
  have r4 := K3.cell 4
  have r5 := K3.cell 5
  have zr0 := K3.frozen 0
  have zr1 := K3.frozen 1
  have zr2 := K3.frozen 2
  have zr3 := K3.frozen 3
  have zr4 := K3.frozen 4
  have zr5 := K3.frozen 5
  simp only [List.getElem?_toArray, List.getElem?_cons_succ, List.getElem?_cons_zero] at p0 p1 p2 p3 p4 p5 q0 q1 q2 q3 q4 q5 r0 r1 r2 r3 r4 r5
  have l1 := K1.lt
  have l2 := K2.lt
  have l3 := K3.lt
  clear hb1
  go_wp2_with fail
  refine (HB.out _).mono ?_
  rintro e_ w2 ⟨rfl, hb1⟩
  replace K1 := K1.below hb1 l1
  replace K2 := K2.below hb1 l2
  replace K3 := K3.below hb1 l3
  replace hbw := btrans hbw hb1
  clear p0 p1 p2 p3 p4 p5 q0 q1 q2 q3 q4 q5 r0 r1 r2 r3 r4 r5 zr0 zr1 zr2 zr3 zr4 zr5 l1 l2 l3
  have p0 := K1.cell 0
  have p1 := K1.cell 1
  have p2 := K1.cell 2
  have p3 := K1.cell 3
  have p4 := K1.cell 4
  have p5 := K1.cell 5
  have q0 := K2.cell 0
  have q1 := K2.cell 1
  have q2 := K2.cell 2
  have q3 := K2.cell 3
  have q4 := K2.cell 4
  have q5 := K2.cell 5
  have r0 := K3.cell 0
  have r1 := K3.cell 1
  have r2 := K3.cell 2
  have r3 := K3.cell 3
  have r4 := K3.cell 4
  have r5 := K3.cell 5
  have zr0 := K3.frozen 0
  have zr1 := K3.frozen 1
  have zr2 := K3.frozen 2
  have zr3 := K3.frozen 3
  have zr4 := K3.frozen 4
  have zr5 := K3.frozen 5
  simp only [List.getElem?_toArray, List.getElem?_cons_succ, List.getElem?_cons_zero] at p0 p1 p2 p3 p4 p5 q0 q1 q2 q3 q4 q5 r0 r1 r2 r3 r4 r5
  have l1 := K1.lt
  have l2 := K2.lt
  have l3 := K3.lt
  have u0 : ∀ u : Up w2, u.val.cell? ⟨w.heap.size, 0, none⟩ = some (.int .i64 A) := fun u => (u.cell l1).trans p0
  have u1 : ∀ u : Up w2, u.val.cell? ⟨w.heap.size, 1, none⟩ = some (.int .i64 B) := fun u => (u.cell l1).trans p1
  have u2 : ∀ u : Up w2, u.val.cell? ⟨w.heap.size, 2, none⟩ = some (.int .i64 C) := fun u => (u.cell l1).trans p2
  have u3 : ∀ u : Up w2, u.val.cell? ⟨w.heap.size, 3, none⟩ = some (.int .i64 D) := fun u => (u.cell l1).trans p3
  have u4 : ∀ u : Up w2, u.val.cell? ⟨w.heap.size, 4, none⟩ = some (.int .i64 E) := fun u => (u.cell l1).trans p4
  have u5 : ∀ u : Up w2, u.val.cell? ⟨w.heap.size, 5, none⟩ = some (.int .i64 F) := fun u => (u.cell l1).trans p5
  clear hb1
  have JG := guard_mat
  have JE : ∀ w, (binOp .eql 25 (.agg #[.int .i64 A, .int .i64 B, .int .i64 C, .int .i64 D, .int .i64 E, .int .i64 F]) (.agg #[.int .i64 65536, .int .i64 0, .int .i64 0, .int .i64 65536, .int .i64 0, .int .i64 0])).run Try.prog w = .ok (.bool false) w := fun w => by
    have := eq_mat A B C D E F 65536 0 0 65536 0 0 w
    rw [n1] at this
    exact this
  have HU := Lib.hid (fun u : Up w2 => up_of (u := u) (one_any u.val))
  go_wp2_with fail
  (refine wp_region_up (by kernel_rfl) (by kernel_rfl) ?_; (repeat (go_big_quiet_step (exact HU.out _))); refine wpQuiet_nil ?_; rintro _ ⟨uq, rfl⟩)
  replace K1 := K1.below uq.ok l1
  replace K2 := K2.below uq.ok l2
  replace K3 := K3.below uq.ok l3
  replace hbw := btrans hbw uq.ok
  generalize hwx : uq.val = w3 at *
  clear hwx uq HU JG JE p0 p1 p2 p3 p4 p5 q0 q1 q2 q3 q4 q5 r0 r1 r2 r3 r4 r5 zr0 zr1 zr2 zr3 zr4 zr5 u0 u1 u2 u3 u4 u5 l1 l2 l3
  have p0 := K1.cell 0
  have p1 := K1.cell 1
  have p2 := K1.cell 2
  have p3 := K1.cell 3
  have p4 := K1.cell 4
  have p5 := K1.cell 5
  have q0 := K2.cell 0
  have q1 := K2.cell 1
  have q2 := K2.cell 2
  have q3 := K2.cell 3
  have q4 := K2.cell 4
  have q5 := K2.cell 5
  have r0 := K3.cell 0
  have r1 := K3.cell 1
  have r2 := K3.cell 2
  have r3 := K3.cell 3
  have r4 := K3.cell 4
  have r5 := K3.cell 5
  have zr0 := K3.frozen 0
  have zr1 := K3.frozen 1
  have zr2 := K3.frozen 2
  have zr3 := K3.frozen 3
  have zr4 := K3.frozen 4
  have zr5 := K3.frozen 5
  simp only [List.getElem?_toArray, List.getElem?_cons_succ, List.getElem?_cons_zero] at p0 p1 p2 p3 p4 p5 q0 q1 q2 q3 q4 q5 r0 r1 r2 r3 r4 r5
  have l1 := K1.lt
  have l2 := K2.lt
  have l3 := K3.lt
  have u0 : ∀ u : Up w3, u.val.cell? ⟨w.heap.size + 1, 0, none⟩ = some (.int .i64 a) := fun u => (u.cell l2).trans q0
  have u1 : ∀ u : Up w3, u.val.cell? ⟨w.heap.size + 1, 1, none⟩ = some (.int .i64 b) := fun u => (u.cell l2).trans q1
  have u2 : ∀ u : Up w3, u.val.cell? ⟨w.heap.size + 1, 2, none⟩ = some (.int .i64 c) := fun u => (u.cell l2).trans q2
  have u3 : ∀ u : Up w3, u.val.cell? ⟨w.heap.size + 1, 3, none⟩ = some (.int .i64 d) := fun u => (u.cell l2).trans q3
  have u4 : ∀ u : Up w3, u.val.cell? ⟨w.heap.size + 1, 4, none⟩ = some (.int .i64 e) := fun u => (u.cell l2).trans q4
  have u5 : ∀ u : Up w3, u.val.cell? ⟨w.heap.size + 1, 5, none⟩ = some (.int .i64 f) := fun u => (u.cell l2).trans q5
  have JG := guard_mat
  have JE : ∀ w, (binOp .eql 25 (.agg #[.int .i64 a, .int .i64 b, .int .i64 c, .int .i64 d, .int .i64 e, .int .i64 f]) (.agg #[.int .i64 65536, .int .i64 0, .int .i64 0, .int .i64 65536, .int .i64 0, .int .i64 0])).run Try.prog w = .ok (.bool true) w := fun w => by
    have := eq_mat a b c d e f 65536 0 0 65536 0 0 w
    rw [n2] at this
    exact this
  have HU := Lib.hid (fun u : Up w3 => up_of (u := u) (one_any u.val))
  go_wp2_with fail
  (refine wp_region_up (by kernel_rfl) (by kernel_rfl) ?_; (repeat (go_big_quiet_step (exact HU.out _))); refine wpQuiet_nil ?_; rintro _ ⟨uq, rfl⟩)
  replace K1 := K1.below uq.ok l1
  replace K2 := K2.below uq.ok l2
  replace K3 := K3.below uq.ok l3
  replace hbw := btrans hbw uq.ok
  generalize hwx : uq.val = w4 at *
  clear hwx uq HU JG JE p0 p1 p2 p3 p4 p5 q0 q1 q2 q3 q4 q5 r0 r1 r2 r3 r4 r5 zr0 zr1 zr2 zr3 zr4 zr5 u0 u1 u2 u3 u4 u5 l1 l2 l3
  have p0 := K1.cell 0
  have p1 := K1.cell 1
  have p2 := K1.cell 2
  have p3 := K1.cell 3
  have p4 := K1.cell 4
  have p5 := K1.cell 5
  have q0 := K2.cell 0
  have q1 := K2.cell 1
  have q2 := K2.cell 2
  have q3 := K2.cell 3
  have q4 := K2.cell 4
  have q5 := K2.cell 5
  have r0 := K3.cell 0
  have r1 := K3.cell 1
  have r2 := K3.cell 2
  have r3 := K3.cell 3
  have r4 := K3.cell 4
  have r5 := K3.cell 5
  have zr0 := K3.frozen 0
  have zr1 := K3.frozen 1
  have zr2 := K3.frozen 2
  have zr3 := K3.frozen 3
  have zr4 := K3.frozen 4
  have zr5 := K3.frozen 5
  simp only [List.getElem?_toArray, List.getElem?_cons_succ, List.getElem?_cons_zero] at p0 p1 p2 p3 p4 p5 q0 q1 q2 q3 q4 q5 r0 r1 r2 r3 r4 r5
  have HK := Lib.hid K3
  have HBW := Lib.hid hbw
  clear K1 K2 K3 hbw
  go_wp2_with fail
  have K := (((((HK.out.set_ 0 (.int .i64 A)).set_ 1 (.int .i64 B)).set_ 2 (.int .i64 C)).set_ 3 (.int .i64 D)).set_ 4 (.int .i64 E)).set_ 5 (.int .i64 F)
  refine ret_struct2 (g := w.heap.size + 2) (t := 25) (cs := #[.int .i64 A, .int .i64 B, .int .i64 C, .int .i64 D, .int .i64 E, .int .i64 F]) rfl rfl ?_ Try.underlying25 rfl rfl rfl ?_
  · exact K
  · exact ⟨rfl, by (repeat' (first | refine bset ?_ (by first | omega | (simp <;> omega)) _ | refine balloc ?_ _ | refine Below.drew ?_ | refine below_drewN ?_ _ | exact HBW.out | exact Below.refl _ _))⟩
set_option maxRecDepth 100000 in
theorem even_one (a : Int) : even (65536 * a) 65536 32768 = a := by unfold even; rw [if_neg (by omega)]; omega
set_option maxRecDepth 100000 in
theorem okI_true (x : Int) : okI true x = x := rfl
set_option maxRecDepth 100000 in
theorem okE_true : okE true = 0 := rfl
set_option maxRecDepth 100000 in
theorem eqB_true {A B C D E F a b c d e f : Int} (h : eqB A B C D E F a b c d e f = true) : A = a ∧ B = b ∧ C = c ∧ D = d ∧ E = e ∧ F = f := by
  unfold eqB at h
  simpa using h
set_option maxRecDepth 100000 in
theorem sum16_l (a c : Int) : sum16 65536 a 0 c = a := by unfold sum16; rw [Int.zero_mul, Int.add_zero]; exact even_one a
set_option maxRecDepth 100000 in
theorem sum16_r (b d : Int) : sum16 0 b 65536 d = d := by unfold sum16; rw [Int.zero_mul, Int.zero_add]; exact even_one d
set_option maxRecDepth 100000 in
theorem sum16_z (b d : Int) : sum16 0 b 0 d = 0 := by unfold sum16; rw [Int.zero_mul, Int.zero_mul]; rfl
set_option maxRecDepth 100000 in
theorem sum16_l' (a c : Int) : sum16 a 65536 c 0 = a := by unfold sum16; rw [Int.mul_zero, Int.add_zero, Int.mul_comm]; exact even_one a
set_option maxRecDepth 100000 in
theorem sum16_r' (b d : Int) : sum16 b 0 d 65536 = d := by unfold sum16; rw [Int.mul_zero, Int.zero_add, Int.mul_comm]; exact even_one d
set_option maxRecDepth 100000 in
theorem sum16_z' (b d : Int) : sum16 b 0 d 0 = 0 := by unfold sum16; rw [Int.mul_zero, Int.mul_zero]; rfl
set_option maxRecDepth 100000 in
/-- the product of two matrices that may be, whatever they are -/
theorem mul_may (A B C D E F a b c d e f : Int) (w : World) (h1 : mayB A B C D E F = true) (h2 : mayB a b c d e f = true) : Calls Try.prog 44 #[.agg #[.int .i64 A, .int .i64 B, .int .i64 C, .int .i64 D, .int .i64 E, .int .i64 F], .agg #[.int .i64 a, .int .i64 b, .int .i64 c, .int .i64 d, .int .i64 e, .int .i64 f]] w fun ed w' => ed = .returned (.tuple #[.agg #[.int .i64 (okI (mulB A B C D E F a b c d e f) (sum16 A a B c)), .int .i64 (okI (mulB A B C D E F a b c d e f) (sum16 A b B d)), .int .i64 (okI (mulB A B C D E F a b c d e f) (sum16 C a D c)), .int .i64 (okI (mulB A B C D E F a b c d e f) (sum16 C b D d)), .int .i64 (okI (mulB A B C D E F a b c d e f) ((sum16 E a F c) + e)), .int .i64 (okI (mulB A B C D E F a b c d e f) ((sum16 E b F d) + f))], .int .i64 (okE (mulB A B C D E F a b c d e f))]) ∧ Below w.heap.size w w' := by
  cases n1 : eqB A B C D E F 65536 0 0 65536 0 0 with
  | true =>
    have hc := mul_ol A B C D E F a b c d e f w h1 h2 n1
    obtain ⟨rfl, rfl, rfl, rfl, rfl, rfl⟩ := eqB_true n1
    have hm : mulB 65536 0 0 65536 0 0 a b c d e f = true := by unfold mulB; simp only [sum16_l, sum16_r, sum16_z, Int.zero_add]; exact h2
    rw [hm]
    simp only [sum16_l, sum16_r, sum16_z, Int.zero_add, okI_true, okE_true]
    exact hc
  | false =>
    cases n2 : eqB a b c d e f 65536 0 0 65536 0 0 with
    | true =>
      have hc := mul_or A B C D E F a b c d e f w h1 h2 n1 n2
      obtain ⟨rfl, rfl, rfl, rfl, rfl, rfl⟩ := eqB_true n2
      have hm : mulB A B C D E F 65536 0 0 65536 0 0 = true := by unfold mulB; simp only [sum16_l', sum16_r', Int.add_zero]; exact h1
      rw [hm]
      simp only [sum16_l', sum16_r', Int.add_zero, okI_true, okE_true]
      exact hc
    | false => exact mul_yes A B C D E F a b c d e f w h1 h2 n1 n2
end Go.Proofs.Ytegpjjkbbdfggaa.mt
