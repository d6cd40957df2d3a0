/-
  Layer 24 in the seat of the images: Point (the text of mat/XPts).
-/
import Derived.Test.YtegpjjkbbdfggaaMay
namespace Go.Proofs.Ytegpjjkbbdfggaa.mt
set_option linter.unusedVariables false
set_option linter.unusedSimpArgs false
open Go.RowKit bs
set_option maxRecDepth 100000 in
theorem okI_and (b : Bool) (x : Int) : okI (true && b) x = okI b x := by rw [Bool.true_and]
/-- what Point reckons -/
def xPoint (A B C D E F x y : Int) : Int := even (A * x + C * y + E * 65536) 4294967296 2147483648
def yPoint (A B C D E F x y : Int) : Int := even (B * x + D * y + F * 65536) 4294967296 2147483648
def bPoint (A B C D E F x y : Int) : Bool := nearB (xPoint A B C D E F x y) (yPoint A B C D E F x y) 8191
set_option maxRecDepth 100000 in
theorem Point_no (A B C D E F x y : Int) (w : World) (h : goodB A B C D E F x y = false) : Calls Try.prog 45 #[.agg #[.int .i64 A, .int .i64 B, .int .i64 C, .int .i64 D, .int .i64 E, .int .i64 F], .int .i64 x, .int .i64 y] w fun ed w' => ed = .returned (.tuple #[.int .i64 0, .int .i64 0, .int .i64 1]) ∧ Below w.heap.size w w' := by
  have HA := Lib.hid (fun W => show Calls Try.prog 88 #[.agg #[.int .i64 A, .int .i64 B, .int .i64 C, .int .i64 D, .int .i64 E, .int .i64 F], .int .i64 x, .int .i64 y] W fun ed w' => ed = .returned (.bool false) ∧ Below W.heap.size W w' by have := good_any A B C D E F x y W; rw [h] at this; exact this)
  go_enter Try.func45, Try.ntmps45
  go_wp2_with fail
  refine (HA.out _).mono ?_
  rintro e_ w1 ⟨rfl, hb1⟩
  go_wp2_with fail
  go_ret3
  exact ⟨rfl, btrans (by (repeat' (first | exact Below.refl _ _ | exact Below.refl _ _ | refine balloc ?_ _ | refine Below.drew ?_ | refine below_drewN ?_ _ | refine bset ?_ (by first | omega | (simp <;> omega)) _))) hb1⟩
set_option maxRecDepth 100000 in
set_option maxHeartbeats 1600000 in
theorem Point_yes (A B C D E F x y : Int) (w : World) (h : goodB A B C D E F x y = true) : Calls Try.prog 45 #[.agg #[.int .i64 A, .int .i64 B, .int .i64 C, .int .i64 D, .int .i64 E, .int .i64 F], .int .i64 x, .int .i64 y] w fun ed w' => ed = .returned (.tuple #[.int .i64 (okI (bPoint A B C D E F x y) (xPoint A B C D E F x y)), .int .i64 (okI (bPoint A B C D E F x y) (yPoint A B C D E F x y)), .int .i64 (okE (bPoint A B C D E F x y))]) ∧ Below w.heap.size w w' := by
  have hg := h
  unfold goodB at hg
  simp only [Bool.and_eq_true] at hg
  obtain ⟨bA, bB, bC, bD, bE, bF⟩ := mayB_bd hg.1.1
  have bx := fixB_bd hg.1.2
  have by_ := fixB_bd hg.2
  have HA := Lib.hid (fun W => show Calls Try.prog 88 #[.agg #[.int .i64 A, .int .i64 B, .int .i64 C, .int .i64 D, .int .i64 E, .int .i64 F], .int .i64 x, .int .i64 y] W fun ed w' => ed = .returned (.bool true) ∧ Below W.heap.size W w' by have := good_any A B C D E F x y W; rw [h] at this; exact this)
  have m1 := fix_mul bA bx
  have m2 := fix_mul bC by_
  have m3 := fix_mul bB bx
  have m4 := fix_mul bD by_
  have e1 := even_bd (A * x + C * y + E * 65536) 4294967296 2147483648 (by omega)
  have e2 := even_bd (B * x + D * y + F * 65536) 4294967296 2147483648 (by omega)
  have S1 := fun W => show Calls Try.prog 86 #[.int .i64 (A * x + C * y + E * 65536), .int .u64 32] W fun ed w' => ed = .returned (.int .i64 (even (A * x + C * y + E * 65536) 4294967296 2147483648)) ∧ W = w' from round32 _ W (by omega) (by omega)
  have S2 := fun W => show Calls Try.prog 86 #[.int .i64 (B * x + D * y + F * 65536), .int .u64 32] W fun ed w' => ed = .returned (.int .i64 (even (B * x + D * y + F * 65536) 4294967296 2147483648)) ∧ W = w' from round32 _ W (by omega) (by omega)
  have hx : xPoint A B C D E F x y = even (A * x + C * y + E * 65536) 4294967296 2147483648 := rfl
  have hy : yPoint A B C D E F x y = even (B * x + D * y + F * 65536) 4294967296 2147483648 := rfl
  have hb : bPoint A B C D E F x y = nearB (xPoint A B C D E F x y) (yPoint A B C D E F x y) 8191 := rfl
  generalize bPoint A B C D E F x y = nb at *
  generalize xPoint A B C D E F x y = rx at *
  generalize yPoint A B C D E F x y = ry at *
  generalize even (A * x + C * y + E * 65536) 4294967296 2147483648 = v1 at *
  generalize even (B * x + D * y + F * 65536) 4294967296 2147483648 = v2 at *
  generalize hp1 : A * x = p1 at *
  generalize hp2 : C * y = p2 at *
  generalize hp3 : B * x = p3 at *
  generalize hp4 : D * y = p4 at *
  have S3 := fun W => show Calls Try.prog 67 #[.int .i64 (v1), .int .i64 (v2), .int .i64 8191] W fun ed w' => ed = .returned (.tuple #[.int .i64 (okI nb rx), .int .i64 (okI nb ry), .int .i64 (okE nb)]) ∧ W = w' by have := near_any rx ry 8191 W (by omega) (by omega); rw [← hb] at this; rw [← hx, ← hy]; exact this
  have HS1 := Lib.hid S1
  have HS2 := Lib.hid S2
  have HS3 := Lib.hid S3
  have HX := Lib.hid hx
  have HY := Lib.hid hy
  obtain ⟨m10, m11⟩ := m1
  obtain ⟨m20, m21⟩ := m2
  obtain ⟨m30, m31⟩ := m3
  obtain ⟨m40, m41⟩ := m4
  obtain ⟨e10, e11⟩ := e1
  obtain ⟨e20, e21⟩ := e2
  obtain ⟨bE0, bE1⟩ := bE
  obtain ⟨bF0, bF1⟩ := bF
  have z1 : -4611686018427387904 ≤ v1 ∧ v1 ≤ 4611686018427387904 := by omega
  have z2 : -4611686018427387904 ≤ v2 ∧ v2 ≤ 4611686018427387904 := by omega
  obtain ⟨z10, z11⟩ := z1
  obtain ⟨z20, z21⟩ := z2
  clear S1 S2 S3 hx hy hb h hg bA bB bC bD bx by_ e10 e11 e20 e21
  have K1 := Blk.new w 25 #[.int .i64 A, .int .i64 B, .int .i64 C, .int .i64 D, .int .i64 E, .int .i64 F]
  go_enter Try.func45, Try.ntmps45
  go_wp2_with fail
  refine (HA.out _).mono ?_
  rintro e_ w1 ⟨rfl, hb1⟩
  replace K1 := K1.below hb1 (by simp)
  have hbw : Below w.heap.size w w1 := btrans (by (repeat' (first | exact Below.refl _ _ | exact Below.refl _ _ | refine balloc ?_ _ | refine Below.drew ?_ | refine below_drewN ?_ _ | refine bset ?_ (by first | omega | (simp <;> omega)) _))) hb1
  have l1 := K1.lt
  have p0_ := K1.cell 0
  have p1_ := K1.cell 1
  have p2_ := K1.cell 2
  have p3_ := K1.cell 3
  have p4_ := K1.cell 4
  have p5_ := K1.cell 5
  simp only [List.getElem?_toArray, List.getElem?_cons_succ, List.getElem?_cons_zero] at p0_ p1_ p2_ p3_ p4_ p5_
  have u0 : ∀ u : Up w1, u.val.cell? ⟨w.heap.size, 0, none⟩ = some (.int .i64 A) := fun u => (u.cell l1).trans p0_
  have u1 : ∀ u : Up w1, u.val.cell? ⟨w.heap.size, 1, none⟩ = some (.int .i64 B) := fun u => (u.cell l1).trans p1_
  have u2 : ∀ u : Up w1, u.val.cell? ⟨w.heap.size, 2, none⟩ = some (.int .i64 C) := fun u => (u.cell l1).trans p2_
  have u3 : ∀ u : Up w1, u.val.cell? ⟨w.heap.size, 3, none⟩ = some (.int .i64 D) := fun u => (u.cell l1).trans p3_
  have u4 : ∀ u : Up w1, u.val.cell? ⟨w.heap.size, 4, none⟩ = some (.int .i64 E) := fun u => (u.cell l1).trans p4_
  have u5 : ∀ u : Up w1, u.val.cell? ⟨w.heap.size, 5, none⟩ = some (.int .i64 F) := fun u => (u.cell l1).trans p5_
  have HU1 := Lib.hid (fun u : Up w1 => up_same (u := u) (HS1.out u.val))
  have HU2 := Lib.hid (fun u : Up w1 => up_same (u := u) (HS2.out u.val))
  have HU3 := Lib.hid (fun u : Up w1 => up_same (u := u) (HS3.out u.val))
  have HBW := Lib.hid hbw
  clear HA HS1 HS2 HS3 hb1 hbw K1 p0_ p1_ p2_ p3_ p4_ p5_
  go_wp2_with fail
  refine wp_region_up (by kernel_rfl) (by kernel_rfl) ?_
  repeat (go_big_quiet_step (fail))
  go_big_quiet_step (exact HU1.out _)
  repeat (go_big_quiet_step (fail))
  go_big_quiet_step (exact HU2.out _)
  repeat (go_big_quiet_step (fail))
  go_big_quiet_step (exact HU3.out _)
  repeat (go_big_quiet_step (fail))
  refine wpQuiet_nil ?_
  rintro _ ⟨uq, rfl⟩
  go_wp2_with fail
  go_ret3
  exact ⟨rfl, btrans HBW.out uq.ok⟩
end Go.Proofs.Ytegpjjkbbdfggaa.mt
