/-
  Layer 24: Point, Vector, Map, Aim, and the reference's.
-/
import Derived.Test.YtaephahcohdbpaaMul
namespace Go.Proofs.Ytaephahcohdbpaa.mt
set_option linter.unusedVariables false
set_option linter.unusedSimpArgs false
open Go.RowKit bs

theorem okI_and (b : Bool) (x : Int) : okI (true && b) x = okI b x := by rw [Bool.true_and]

/-- what Point reckons -/
def xPoint (A B C D E F x y : Int) : Int := even (A * x + C * y + E * 65536) 4294967296 2147483648
def yPoint (A B C D E F x y : Int) : Int := even (B * x + D * y + F * 65536) 4294967296 2147483648
def bPoint (A B C D E F x y : Int) : Bool := nearB (xPoint A B C D E F x y) (yPoint A B C D E F x y) 8191

theorem Point_no (A B C D E F x y : Int) (w : World) (h : goodB A B C D E F x y = false) : Calls Try.prog 34 #[.agg #[.int .i64 A, .int .i64 B, .int .i64 C, .int .i64 D, .int .i64 E, .int .i64 F], .int .i64 x, .int .i64 y] w fun ed w' => ed = .returned (.tuple #[.int .i64 0, .int .i64 0, .int .i64 1]) ∧ Below w.heap.size w w' := by
  have HA := Lib.hid (fun W => show Calls Try.prog 60 #[.agg #[.int .i64 A, .int .i64 B, .int .i64 C, .int .i64 D, .int .i64 E, .int .i64 F], .int .i64 x, .int .i64 y] W fun ed w' => ed = .returned (.bool false) ∧ Below W.heap.size W w' by have := good_any A B C D E F x y W; rw [h] at this; exact this)
  go_enter Try.func34, Try.ntmps34
  go_wp2_with fail
  refine (HA.out _).mono ?_
  rintro e_ w1 ⟨rfl, hb1⟩
  go_wp2_with fail
  go_ret3
  exact ⟨rfl, btrans (by (repeat' (first | exact Below.refl _ _ | exact Below.refl _ _ | refine balloc ?_ _ | refine Below.drew ?_ | refine below_drewN ?_ _ | refine bset ?_ (by first | omega | (simp <;> omega)) _))) hb1⟩
set_option maxHeartbeats 1600000 in
theorem Point_yes (A B C D E F x y : Int) (w : World) (h : goodB A B C D E F x y = true) : Calls Try.prog 34 #[.agg #[.int .i64 A, .int .i64 B, .int .i64 C, .int .i64 D, .int .i64 E, .int .i64 F], .int .i64 x, .int .i64 y] w fun ed w' => ed = .returned (.tuple #[.int .i64 (okI (bPoint A B C D E F x y) (xPoint A B C D E F x y)), .int .i64 (okI (bPoint A B C D E F x y) (yPoint A B C D E F x y)), .int .i64 (okE (bPoint A B C D E F x y))]) ∧ Below w.heap.size w w' := by
  have hg := h
  unfold goodB at hg
  simp only [Bool.and_eq_true] at hg
  obtain ⟨bA, bB, bC, bD, bE, bF⟩ := mayB_bd hg.1.1
  have bx := fixB_bd hg.1.2
  have by_ := fixB_bd hg.2
  have HA := Lib.hid (fun W => show Calls Try.prog 60 #[.agg #[.int .i64 A, .int .i64 B, .int .i64 C, .int .i64 D, .int .i64 E, .int .i64 F], .int .i64 x, .int .i64 y] W fun ed w' => ed = .returned (.bool true) ∧ Below W.heap.size W w' by have := good_any A B C D E F x y W; rw [h] at this; exact this)
  have m1 := fix_mul bA bx
  have m2 := fix_mul bC by_
  have m3 := fix_mul bB bx
  have m4 := fix_mul bD by_
  have e1 := even_bd (A * x + C * y + E * 65536) 4294967296 2147483648 (by omega)
  have e2 := even_bd (B * x + D * y + F * 65536) 4294967296 2147483648 (by omega)
  have S1 := fun W => show Calls Try.prog 58 #[.int .i64 (A * x + C * y + E * 65536), .int .u64 32] W fun ed w' => ed = .returned (.int .i64 (even (A * x + C * y + E * 65536) 4294967296 2147483648)) ∧ W = w' from round32 _ W (by omega) (by omega)
  have S2 := fun W => show Calls Try.prog 58 #[.int .i64 (B * x + D * y + F * 65536), .int .u64 32] W fun ed w' => ed = .returned (.int .i64 (even (B * x + D * y + F * 65536) 4294967296 2147483648)) ∧ W = w' from round32 _ W (by omega) (by omega)
  have hx : xPoint A B C D E F x y = even (A * x + C * y + E * 65536) 4294967296 2147483648 := rfl
  have hy : yPoint A B C D E F x y = even (B * x + D * y + F * 65536) 4294967296 2147483648 := rfl
  have hb : bPoint A B C D E F x y = nearB (xPoint A B C D E F x y) (yPoint A B C D E F x y) 8191 := rfl
  generalize bPoint A B C D E F x y = nb at *
  generalize xPoint A B C D E F x y = rx at *
  generalize yPoint A B C D E F x y = ry at *
  generalize even (A * x + C * y + E * 65536) 4294967296 2147483648 = v1 at *
  generalize even (B * x + D * y + F * 65536) 4294967296 2147483648 = v2 at *
  generalize hp1 : A * x = p1 at *
  generalize hp2 : C * y = p2 at *
  generalize hp3 : B * x = p3 at *
  generalize hp4 : D * y = p4 at *
  have S3 := fun W => show Calls Try.prog 61 #[.int .i64 (v1), .int .i64 (v2), .int .i64 8191] W fun ed w' => ed = .returned (.tuple #[.int .i64 (okI nb rx), .int .i64 (okI nb ry), .int .i64 (okE nb)]) ∧ W = w' by have := near_any rx ry 8191 W (by omega) (by omega); rw [← hb] at this; rw [← hx, ← hy]; exact this
  have HS1 := Lib.hid S1
  have HS2 := Lib.hid S2
  have HS3 := Lib.hid S3
  have HX := Lib.hid hx
  have HY := Lib.hid hy
  obtain ⟨m10, m11⟩ := m1
  obtain ⟨m20, m21⟩ := m2
  obtain ⟨m30, m31⟩ := m3
  obtain ⟨m40, m41⟩ := m4
  obtain ⟨e10, e11⟩ := e1
  obtain ⟨e20, e21⟩ := e2
  obtain ⟨bE0, bE1⟩ := bE
  obtain ⟨bF0, bF1⟩ := bF
  have z1 : -4611686018427387904 ≤ v1 ∧ v1 ≤ 4611686018427387904 := by omega
  have z2 : -4611686018427387904 ≤ v2 ∧ v2 ≤ 4611686018427387904 := by omega
  obtain ⟨z10, z11⟩ := z1
  obtain ⟨z20, z21⟩ := z2
  clear S1 S2 S3 hx hy hb h hg bA bB bC bD bx by_ e10 e11 e20 e21
  have K1 := Blk.new w 23 #[.int .i64 A, .int .i64 B, .int .i64 C, .int .i64 D, .int .i64 E, .int .i64 F]
  go_enter Try.func34, Try.ntmps34
  go_wp2_with fail
  refine (HA.out _).mono ?_
  rintro e_ w1 ⟨rfl, hb1⟩
  replace K1 := K1.below hb1 (by simp)
  have hbw : Below w.heap.size w w1 := btrans (by (repeat' (first | exact Below.refl _ _ | exact Below.refl _ _ | refine balloc ?_ _ | refine Below.drew ?_ | refine below_drewN ?_ _ | refine bset ?_ (by first | omega | (simp <;> omega)) _))) hb1
  have l1 := K1.lt
  have p0_ := K1.cell 0
  have p1_ := K1.cell 1
  have p2_ := K1.cell 2
  have p3_ := K1.cell 3
  have p4_ := K1.cell 4
  have p5_ := K1.cell 5
  simp only [List.getElem?_toArray, List.getElem?_cons_succ, List.getElem?_cons_zero] at p0_ p1_ p2_ p3_ p4_ p5_
  have u0 : ∀ u : Up w1, u.val.cell? ⟨w.heap.size, 0, none⟩ = some (.int .i64 A) := fun u => (u.cell l1).trans p0_
  have u1 : ∀ u : Up w1, u.val.cell? ⟨w.heap.size, 1, none⟩ = some (.int .i64 B) := fun u => (u.cell l1).trans p1_
  have u2 : ∀ u : Up w1, u.val.cell? ⟨w.heap.size, 2, none⟩ = some (.int .i64 C) := fun u => (u.cell l1).trans p2_
  have u3 : ∀ u : Up w1, u.val.cell? ⟨w.heap.size, 3, none⟩ = some (.int .i64 D) := fun u => (u.cell l1).trans p3_
  have u4 : ∀ u : Up w1, u.val.cell? ⟨w.heap.size, 4, none⟩ = some (.int .i64 E) := fun u => (u.cell l1).trans p4_
  have u5 : ∀ u : Up w1, u.val.cell? ⟨w.heap.size, 5, none⟩ = some (.int .i64 F) := fun u => (u.cell l1).trans p5_
  have HU1 := Lib.hid (fun u : Up w1 => up_same (u := u) (HS1.out u.val))
  have HU2 := Lib.hid (fun u : Up w1 => up_same (u := u) (HS2.out u.val))
  have HU3 := Lib.hid (fun u : Up w1 => up_same (u := u) (HS3.out u.val))
  have HBW := Lib.hid hbw
  clear HA HS1 HS2 HS3 hb1 hbw K1 p0_ p1_ p2_ p3_ p4_ p5_
  go_wp2_with fail
  refine wp_region_up (by kernel_rfl) (by kernel_rfl) ?_
  repeat (go_big_quiet_step (fail))
  go_big_quiet_step (exact HU1.out _)
  repeat (go_big_quiet_step (fail))
  go_big_quiet_step (exact HU2.out _)
  repeat (go_big_quiet_step (fail))
  go_big_quiet_step (exact HU3.out _)
  repeat (go_big_quiet_step (fail))
  refine wpQuiet_nil ?_
  rintro _ ⟨uq, rfl⟩
  go_wp2_with fail
  go_ret3
  exact ⟨rfl, btrans HBW.out uq.ok⟩

theorem Point_any (A B C D E F x y : Int) (w : World) : Calls Try.prog 34 #[.agg #[.int .i64 A, .int .i64 B, .int .i64 C, .int .i64 D, .int .i64 E, .int .i64 F], .int .i64 x, .int .i64 y] w fun ed w' => ed = .returned (.tuple #[.int .i64 (okI (goodB A B C D E F x y && bPoint A B C D E F x y) (xPoint A B C D E F x y)), .int .i64 (okI (goodB A B C D E F x y && bPoint A B C D E F x y) (yPoint A B C D E F x y)), .int .i64 (erE (goodB A B C D E F x y) (bPoint A B C D E F x y))]) ∧ Below w.heap.size w w' := by
  cases h : goodB A B C D E F x y with
  | false => exact Point_no A B C D E F x y w h
  | true => exact Point_yes A B C D E F x y w h

theorem rPoint_no (A B C D E F x y : Int) (w : World) (h : goodB A B C D E F x y = false) : Calls Try.prog 43 #[.agg #[.int .i64 A, .int .i64 B, .int .i64 C, .int .i64 D, .int .i64 E, .int .i64 F], .int .i64 x, .int .i64 y] w fun ed w' => ed = .returned (.tuple #[.int .i64 0, .int .i64 0, .int .i64 1]) ∧ Below w.heap.size w w' := by
  have HA := Lib.hid (fun W => show Calls Try.prog 66 #[.agg #[.int .i64 A, .int .i64 B, .int .i64 C, .int .i64 D, .int .i64 E, .int .i64 F], .int .i64 x, .int .i64 y] W fun ed w' => ed = .returned (.bool false) ∧ Below W.heap.size W w' by have := fair_any A B C D E F x y W; rw [h] at this; exact this)
  go_enter Try.func43, Try.ntmps43
  go_wp2_with fail
  refine (HA.out _).mono ?_
  rintro e_ w1 ⟨rfl, hb1⟩
  go_wp2_with fail
  go_ret3
  exact ⟨rfl, btrans (by (repeat' (first | exact Below.refl _ _ | exact Below.refl _ _ | refine balloc ?_ _ | refine Below.drew ?_ | refine below_drewN ?_ _ | refine bset ?_ (by first | omega | (simp <;> omega)) _))) hb1⟩
set_option maxHeartbeats 1600000 in
theorem rPoint_yes (A B C D E F x y : Int) (w : World) (h : goodB A B C D E F x y = true) : Calls Try.prog 43 #[.agg #[.int .i64 A, .int .i64 B, .int .i64 C, .int .i64 D, .int .i64 E, .int .i64 F], .int .i64 x, .int .i64 y] w fun ed w' => ed = .returned (.tuple #[.int .i64 (okI (bPoint A B C D E F x y) (xPoint A B C D E F x y)), .int .i64 (okI (bPoint A B C D E F x y) (yPoint A B C D E F x y)), .int .i64 (okE (bPoint A B C D E F x y))]) ∧ Below w.heap.size w w' := by
  have hg := h
  unfold goodB at hg
  simp only [Bool.and_eq_true] at hg
  obtain ⟨bA, bB, bC, bD, bE, bF⟩ := mayB_bd hg.1.1
  have bx := fixB_bd hg.1.2
  have by_ := fixB_bd hg.2
  have HA := Lib.hid (fun W => show Calls Try.prog 66 #[.agg #[.int .i64 A, .int .i64 B, .int .i64 C, .int .i64 D, .int .i64 E, .int .i64 F], .int .i64 x, .int .i64 y] W fun ed w' => ed = .returned (.bool true) ∧ Below W.heap.size W w' by have := fair_any A B C D E F x y W; rw [h] at this; exact this)
  have m1 := fix_mul bA bx
  have m2 := fix_mul bC by_
  have m3 := fix_mul bB bx
  have m4 := fix_mul bD by_
  have e1 := even_bd (A * x + C * y + E * 65536) 4294967296 2147483648 (by omega)
  have e2 := even_bd (B * x + D * y + F * 65536) 4294967296 2147483648 (by omega)
  have S1 := fun W => show Calls Try.prog 64 #[.int .i64 (A * x + C * y + E * 65536), .int .i64 32] W fun ed w' => ed = .returned (.int .i64 (even (A * x + C * y + E * 65536) 4294967296 2147483648)) ∧ W = w' from reven32 _ W (by omega) (by omega)
  have S2 := fun W => show Calls Try.prog 64 #[.int .i64 (B * x + D * y + F * 65536), .int .i64 32] W fun ed w' => ed = .returned (.int .i64 (even (B * x + D * y + F * 65536) 4294967296 2147483648)) ∧ W = w' from reven32 _ W (by omega) (by omega)
  have hx : xPoint A B C D E F x y = even (A * x + C * y + E * 65536) 4294967296 2147483648 := rfl
  have hy : yPoint A B C D E F x y = even (B * x + D * y + F * 65536) 4294967296 2147483648 := rfl
  have hb : bPoint A B C D E F x y = nearB (xPoint A B C D E F x y) (yPoint A B C D E F x y) 8191 := rfl
  generalize bPoint A B C D E F x y = nb at *
  generalize xPoint A B C D E F x y = rx at *
  generalize yPoint A B C D E F x y = ry at *
  generalize even (A * x + C * y + E * 65536) 4294967296 2147483648 = v1 at *
  generalize even (B * x + D * y + F * 65536) 4294967296 2147483648 = v2 at *
  generalize hp1 : A * x = p1 at *
  generalize hp2 : C * y = p2 at *
  generalize hp3 : B * x = p3 at *
  generalize hp4 : D * y = p4 at *
  have S3 := fun W => show Calls Try.prog 67 #[.int .i64 (v1), .int .i64 (v2), .int .i64 8191] W fun ed w' => ed = .returned (.tuple #[.int .i64 (okI nb rx), .int .i64 (okI nb ry), .int .i64 (okE nb)]) ∧ W = w' by have := two_any rx ry 8191 W (by omega) (by omega); rw [← hb] at this; rw [← hx, ← hy]; exact this
  have HS1 := Lib.hid S1
  have HS2 := Lib.hid S2
  have HS3 := Lib.hid S3
  have HX := Lib.hid hx
  have HY := Lib.hid hy
  obtain ⟨m10, m11⟩ := m1
  obtain ⟨m20, m21⟩ := m2
  obtain ⟨m30, m31⟩ := m3
  obtain ⟨m40, m41⟩ := m4
  obtain ⟨e10, e11⟩ := e1
  obtain ⟨e20, e21⟩ := e2
  obtain ⟨bE0, bE1⟩ := bE
  obtain ⟨bF0, bF1⟩ := bF
  have z1 : -4611686018427387904 ≤ v1 ∧ v1 ≤ 4611686018427387904 := by omega
  have z2 : -4611686018427387904 ≤ v2 ∧ v2 ≤ 4611686018427387904 := by omega
  obtain ⟨z10, z11⟩ := z1
  obtain ⟨z20, z21⟩ := z2
  clear S1 S2 S3 hx hy hb h hg bA bB bC bD bx by_ e10 e11 e20 e21
  have K1 := Blk.new w 23 #[.int .i64 A, .int .i64 B, .int .i64 C, .int .i64 D, .int .i64 E, .int .i64 F]
  go_enter Try.func43, Try.ntmps43
  go_wp2_with fail
  refine (HA.out _).mono ?_
  rintro e_ w1 ⟨rfl, hb1⟩
  replace K1 := K1.below hb1 (by simp)
  have hbw : Below w.heap.size w w1 := btrans (by (repeat' (first | exact Below.refl _ _ | exact Below.refl _ _ | refine balloc ?_ _ | refine Below.drew ?_ | refine below_drewN ?_ _ | refine bset ?_ (by first | omega | (simp <;> omega)) _))) hb1
  have l1 := K1.lt
  have p0_ := K1.cell 0
  have p1_ := K1.cell 1
  have p2_ := K1.cell 2
  have p3_ := K1.cell 3
  have p4_ := K1.cell 4
  have p5_ := K1.cell 5
  simp only [List.getElem?_toArray, List.getElem?_cons_succ, List.getElem?_cons_zero] at p0_ p1_ p2_ p3_ p4_ p5_
  have u0 : ∀ u : Up w1, u.val.cell? ⟨w.heap.size, 0, none⟩ = some (.int .i64 A) := fun u => (u.cell l1).trans p0_
  have u1 : ∀ u : Up w1, u.val.cell? ⟨w.heap.size, 1, none⟩ = some (.int .i64 B) := fun u => (u.cell l1).trans p1_
  have u2 : ∀ u : Up w1, u.val.cell? ⟨w.heap.size, 2, none⟩ = some (.int .i64 C) := fun u => (u.cell l1).trans p2_
  have u3 : ∀ u : Up w1, u.val.cell? ⟨w.heap.size, 3, none⟩ = some (.int .i64 D) := fun u => (u.cell l1).trans p3_
  have u4 : ∀ u : Up w1, u.val.cell? ⟨w.heap.size, 4, none⟩ = some (.int .i64 E) := fun u => (u.cell l1).trans p4_
  have u5 : ∀ u : Up w1, u.val.cell? ⟨w.heap.size, 5, none⟩ = some (.int .i64 F) := fun u => (u.cell l1).trans p5_
  have HU1 := Lib.hid (fun u : Up w1 => up_same (u := u) (HS1.out u.val))
  have HU2 := Lib.hid (fun u : Up w1 => up_same (u := u) (HS2.out u.val))
  have HU3 := Lib.hid (fun u : Up w1 => up_same (u := u) (HS3.out u.val))
  have HBW := Lib.hid hbw
  clear HA HS1 HS2 HS3 hb1 hbw K1 p0_ p1_ p2_ p3_ p4_ p5_
  go_wp2_with fail
  refine wp_region_up (by kernel_rfl) (by kernel_rfl) ?_
  repeat (go_big_quiet_step (fail))
  go_big_quiet_step (exact HU1.out _)
  repeat (go_big_quiet_step (fail))
  go_big_quiet_step (exact HU2.out _)
  repeat (go_big_quiet_step (fail))
  go_big_quiet_step (exact HU3.out _)
  repeat (go_big_quiet_step (fail))
  refine wpQuiet_nil ?_
  rintro _ ⟨uq, rfl⟩
  go_wp2_with fail
  go_ret3
  exact ⟨rfl, btrans HBW.out uq.ok⟩

theorem rPoint_any (A B C D E F x y : Int) (w : World) : Calls Try.prog 43 #[.agg #[.int .i64 A, .int .i64 B, .int .i64 C, .int .i64 D, .int .i64 E, .int .i64 F], .int .i64 x, .int .i64 y] w fun ed w' => ed = .returned (.tuple #[.int .i64 (okI (goodB A B C D E F x y && bPoint A B C D E F x y) (xPoint A B C D E F x y)), .int .i64 (okI (goodB A B C D E F x y && bPoint A B C D E F x y) (yPoint A B C D E F x y)), .int .i64 (erE (goodB A B C D E F x y) (bPoint A B C D E F x y))]) ∧ Below w.heap.size w w' := by
  cases h : goodB A B C D E F x y with
  | false => exact rPoint_no A B C D E F x y w h
  | true => exact rPoint_yes A B C D E F x y w h

/-- what Vector reckons -/
def xVector (A B C D E F x y : Int) : Int := even (A * x + C * y) 4294967296 2147483648
def yVector (A B C D E F x y : Int) : Int := even (B * x + D * y) 4294967296 2147483648
def bVector (A B C D E F x y : Int) : Bool := nearB (xVector A B C D E F x y) (yVector A B C D E F x y) 16382

theorem Vector_no (A B C D E F x y : Int) (w : World) (h : goodB A B C D E F x y = false) : Calls Try.prog 36 #[.agg #[.int .i64 A, .int .i64 B, .int .i64 C, .int .i64 D, .int .i64 E, .int .i64 F], .int .i64 x, .int .i64 y] w fun ed w' => ed = .returned (.tuple #[.int .i64 0, .int .i64 0, .int .i64 1]) ∧ Below w.heap.size w w' := by
  have HA := Lib.hid (fun W => show Calls Try.prog 60 #[.agg #[.int .i64 A, .int .i64 B, .int .i64 C, .int .i64 D, .int .i64 E, .int .i64 F], .int .i64 x, .int .i64 y] W fun ed w' => ed = .returned (.bool false) ∧ Below W.heap.size W w' by have := good_any A B C D E F x y W; rw [h] at this; exact this)
  go_enter Try.func36, Try.ntmps36
  go_wp2_with fail
  refine (HA.out _).mono ?_
  rintro e_ w1 ⟨rfl, hb1⟩
  go_wp2_with fail
  go_ret3
  exact ⟨rfl, btrans (by (repeat' (first | exact Below.refl _ _ | exact Below.refl _ _ | refine balloc ?_ _ | refine Below.drew ?_ | refine below_drewN ?_ _ | refine bset ?_ (by first | omega | (simp <;> omega)) _))) hb1⟩
set_option maxHeartbeats 1600000 in
theorem Vector_yes (A B C D E F x y : Int) (w : World) (h : goodB A B C D E F x y = true) : Calls Try.prog 36 #[.agg #[.int .i64 A, .int .i64 B, .int .i64 C, .int .i64 D, .int .i64 E, .int .i64 F], .int .i64 x, .int .i64 y] w fun ed w' => ed = .returned (.tuple #[.int .i64 (okI (bVector A B C D E F x y) (xVector A B C D E F x y)), .int .i64 (okI (bVector A B C D E F x y) (yVector A B C D E F x y)), .int .i64 (okE (bVector A B C D E F x y))]) ∧ Below w.heap.size w w' := by
  have hg := h
  unfold goodB at hg
  simp only [Bool.and_eq_true] at hg
  obtain ⟨bA, bB, bC, bD, bE, bF⟩ := mayB_bd hg.1.1
  have bx := fixB_bd hg.1.2
  have by_ := fixB_bd hg.2
  have HA := Lib.hid (fun W => show Calls Try.prog 60 #[.agg #[.int .i64 A, .int .i64 B, .int .i64 C, .int .i64 D, .int .i64 E, .int .i64 F], .int .i64 x, .int .i64 y] W fun ed w' => ed = .returned (.bool true) ∧ Below W.heap.size W w' by have := good_any A B C D E F x y W; rw [h] at this; exact this)
  have m1 := fix_mul bA bx
  have m2 := fix_mul bC by_
  have m3 := fix_mul bB bx
  have m4 := fix_mul bD by_
  have e1 := even_bd (A * x + C * y) 4294967296 2147483648 (by omega)
  have e2 := even_bd (B * x + D * y) 4294967296 2147483648 (by omega)
  have S1 := fun W => show Calls Try.prog 58 #[.int .i64 (A * x + C * y), .int .u64 32] W fun ed w' => ed = .returned (.int .i64 (even (A * x + C * y) 4294967296 2147483648)) ∧ W = w' from round32 _ W (by omega) (by omega)
  have S2 := fun W => show Calls Try.prog 58 #[.int .i64 (B * x + D * y), .int .u64 32] W fun ed w' => ed = .returned (.int .i64 (even (B * x + D * y) 4294967296 2147483648)) ∧ W = w' from round32 _ W (by omega) (by omega)
  have hx : xVector A B C D E F x y = even (A * x + C * y) 4294967296 2147483648 := rfl
  have hy : yVector A B C D E F x y = even (B * x + D * y) 4294967296 2147483648 := rfl
  have hb : bVector A B C D E F x y = nearB (xVector A B C D E F x y) (yVector A B C D E F x y) 16382 := rfl
  generalize bVector A B C D E F x y = nb at *
  generalize xVector A B C D E F x y = rx at *
  generalize yVector A B C D E F x y = ry at *
  generalize even (A * x + C * y) 4294967296 2147483648 = v1 at *
  generalize even (B * x + D * y) 4294967296 2147483648 = v2 at *
  generalize hp1 : A * x = p1 at *
  generalize hp2 : C * y = p2 at *
  generalize hp3 : B * x = p3 at *
  generalize hp4 : D * y = p4 at *
  have S3 := fun W => show Calls Try.prog 61 #[.int .i64 (v1), .int .i64 (v2), .int .i64 16382] W fun ed w' => ed = .returned (.tuple #[.int .i64 (okI nb rx), .int .i64 (okI nb ry), .int .i64 (okE nb)]) ∧ W = w' by have := near_any rx ry 16382 W (by omega) (by omega); rw [← hb] at this; rw [← hx, ← hy]; exact this
  have HS1 := Lib.hid S1
  have HS2 := Lib.hid S2
  have HS3 := Lib.hid S3
  have HX := Lib.hid hx
  have HY := Lib.hid hy
  obtain ⟨m10, m11⟩ := m1
  obtain ⟨m20, m21⟩ := m2
  obtain ⟨m30, m31⟩ := m3
  obtain ⟨m40, m41⟩ := m4
  obtain ⟨e10, e11⟩ := e1
  obtain ⟨e20, e21⟩ := e2
  obtain ⟨bE0, bE1⟩ := bE
  obtain ⟨bF0, bF1⟩ := bF
  have z1 : -4611686018427387904 ≤ v1 ∧ v1 ≤ 4611686018427387904 := by omega
  have z2 : -4611686018427387904 ≤ v2 ∧ v2 ≤ 4611686018427387904 := by omega
  obtain ⟨z10, z11⟩ := z1
  obtain ⟨z20, z21⟩ := z2
  clear S1 S2 S3 hx hy hb h hg bA bB bC bD bx by_ e10 e11 e20 e21
  have K1 := Blk.new w 23 #[.int .i64 A, .int .i64 B, .int .i64 C, .int .i64 D, .int .i64 E, .int .i64 F]
  go_enter Try.func36, Try.ntmps36
  go_wp2_with fail
  refine (HA.out _).mono ?_
  rintro e_ w1 ⟨rfl, hb1⟩
  replace K1 := K1.below hb1 (by simp)
  have hbw : Below w.heap.size w w1 := btrans (by (repeat' (first | exact Below.refl _ _ | exact Below.refl _ _ | refine balloc ?_ _ | refine Below.drew ?_ | refine below_drewN ?_ _ | refine bset ?_ (by first | omega | (simp <;> omega)) _))) hb1
  have l1 := K1.lt
  have p0_ := K1.cell 0
  have p1_ := K1.cell 1
  have p2_ := K1.cell 2
  have p3_ := K1.cell 3
  have p4_ := K1.cell 4
  have p5_ := K1.cell 5
  simp only [List.getElem?_toArray, List.getElem?_cons_succ, List.getElem?_cons_zero] at p0_ p1_ p2_ p3_ p4_ p5_
  have u0 : ∀ u : Up w1, u.val.cell? ⟨w.heap.size, 0, none⟩ = some (.int .i64 A) := fun u => (u.cell l1).trans p0_
  have u1 : ∀ u : Up w1, u.val.cell? ⟨w.heap.size, 1, none⟩ = some (.int .i64 B) := fun u => (u.cell l1).trans p1_
  have u2 : ∀ u : Up w1, u.val.cell? ⟨w.heap.size, 2, none⟩ = some (.int .i64 C) := fun u => (u.cell l1).trans p2_
  have u3 : ∀ u : Up w1, u.val.cell? ⟨w.heap.size, 3, none⟩ = some (.int .i64 D) := fun u => (u.cell l1).trans p3_
  have u4 : ∀ u : Up w1, u.val.cell? ⟨w.heap.size, 4, none⟩ = some (.int .i64 E) := fun u => (u.cell l1).trans p4_
  have u5 : ∀ u : Up w1, u.val.cell? ⟨w.heap.size, 5, none⟩ = some (.int .i64 F) := fun u => (u.cell l1).trans p5_
  have HU1 := Lib.hid (fun u : Up w1 => up_same (u := u) (HS1.out u.val))
  have HU2 := Lib.hid (fun u : Up w1 => up_same (u := u) (HS2.out u.val))
  have HU3 := Lib.hid (fun u : Up w1 => up_same (u := u) (HS3.out u.val))
  have HBW := Lib.hid hbw
  clear HA HS1 HS2 HS3 hb1 hbw K1 p0_ p1_ p2_ p3_ p4_ p5_
  go_wp2_with fail
  refine wp_region_up (by kernel_rfl) (by kernel_rfl) ?_
  repeat (go_big_quiet_step (fail))
  go_big_quiet_step (exact HU1.out _)
  repeat (go_big_quiet_step (fail))
  go_big_quiet_step (exact HU2.out _)
  repeat (go_big_quiet_step (fail))
  go_big_quiet_step (exact HU3.out _)
  repeat (go_big_quiet_step (fail))
  refine wpQuiet_nil ?_
  rintro _ ⟨uq, rfl⟩
  go_wp2_with fail
  go_ret3
  exact ⟨rfl, btrans HBW.out uq.ok⟩

theorem Vector_any (A B C D E F x y : Int) (w : World) : Calls Try.prog 36 #[.agg #[.int .i64 A, .int .i64 B, .int .i64 C, .int .i64 D, .int .i64 E, .int .i64 F], .int .i64 x, .int .i64 y] w fun ed w' => ed = .returned (.tuple #[.int .i64 (okI (goodB A B C D E F x y && bVector A B C D E F x y) (xVector A B C D E F x y)), .int .i64 (okI (goodB A B C D E F x y && bVector A B C D E F x y) (yVector A B C D E F x y)), .int .i64 (erE (goodB A B C D E F x y) (bVector A B C D E F x y))]) ∧ Below w.heap.size w w' := by
  cases h : goodB A B C D E F x y with
  | false => exact Vector_no A B C D E F x y w h
  | true => exact Vector_yes A B C D E F x y w h

theorem rVector_no (A B C D E F x y : Int) (w : World) (h : goodB A B C D E F x y = false) : Calls Try.prog 44 #[.agg #[.int .i64 A, .int .i64 B, .int .i64 C, .int .i64 D, .int .i64 E, .int .i64 F], .int .i64 x, .int .i64 y] w fun ed w' => ed = .returned (.tuple #[.int .i64 0, .int .i64 0, .int .i64 1]) ∧ Below w.heap.size w w' := by
  have HA := Lib.hid (fun W => show Calls Try.prog 66 #[.agg #[.int .i64 A, .int .i64 B, .int .i64 C, .int .i64 D, .int .i64 E, .int .i64 F], .int .i64 x, .int .i64 y] W fun ed w' => ed = .returned (.bool false) ∧ Below W.heap.size W w' by have := fair_any A B C D E F x y W; rw [h] at this; exact this)
  go_enter Try.func44, Try.ntmps44
  go_wp2_with fail
  refine (HA.out _).mono ?_
  rintro e_ w1 ⟨rfl, hb1⟩
  go_wp2_with fail
  go_ret3
  exact ⟨rfl, btrans (by (repeat' (first | exact Below.refl _ _ | exact Below.refl _ _ | refine balloc ?_ _ | refine Below.drew ?_ | refine below_drewN ?_ _ | refine bset ?_ (by first | omega | (simp <;> omega)) _))) hb1⟩
set_option maxHeartbeats 1600000 in
theorem rVector_yes (A B C D E F x y : Int) (w : World) (h : goodB A B C D E F x y = true) : Calls Try.prog 44 #[.agg #[.int .i64 A, .int .i64 B, .int .i64 C, .int .i64 D, .int .i64 E, .int .i64 F], .int .i64 x, .int .i64 y] w fun ed w' => ed = .returned (.tuple #[.int .i64 (okI (bVector A B C D E F x y) (xVector A B C D E F x y)), .int .i64 (okI (bVector A B C D E F x y) (yVector A B C D E F x y)), .int .i64 (okE (bVector A B C D E F x y))]) ∧ Below w.heap.size w w' := by
  have hg := h
  unfold goodB at hg
  simp only [Bool.and_eq_true] at hg
  obtain ⟨bA, bB, bC, bD, bE, bF⟩ := mayB_bd hg.1.1
  have bx := fixB_bd hg.1.2
  have by_ := fixB_bd hg.2
  have HA := Lib.hid (fun W => show Calls Try.prog 66 #[.agg #[.int .i64 A, .int .i64 B, .int .i64 C, .int .i64 D, .int .i64 E, .int .i64 F], .int .i64 x, .int .i64 y] W fun ed w' => ed = .returned (.bool true) ∧ Below W.heap.size W w' by have := fair_any A B C D E F x y W; rw [h] at this; exact this)
  have m1 := fix_mul bA bx
  have m2 := fix_mul bC by_
  have m3 := fix_mul bB bx
  have m4 := fix_mul bD by_
  have e1 := even_bd (A * x + C * y) 4294967296 2147483648 (by omega)
  have e2 := even_bd (B * x + D * y) 4294967296 2147483648 (by omega)
  have S1 := fun W => show Calls Try.prog 64 #[.int .i64 (A * x + C * y), .int .i64 32] W fun ed w' => ed = .returned (.int .i64 (even (A * x + C * y) 4294967296 2147483648)) ∧ W = w' from reven32 _ W (by omega) (by omega)
  have S2 := fun W => show Calls Try.prog 64 #[.int .i64 (B * x + D * y), .int .i64 32] W fun ed w' => ed = .returned (.int .i64 (even (B * x + D * y) 4294967296 2147483648)) ∧ W = w' from reven32 _ W (by omega) (by omega)
  have hx : xVector A B C D E F x y = even (A * x + C * y) 4294967296 2147483648 := rfl
  have hy : yVector A B C D E F x y = even (B * x + D * y) 4294967296 2147483648 := rfl
  have hb : bVector A B C D E F x y = nearB (xVector A B C D E F x y) (yVector A B C D E F x y) 16382 := rfl
  generalize bVector A B C D E F x y = nb at *
  generalize xVector A B C D E F x y = rx at *
  generalize yVector A B C D E F x y = ry at *
  generalize even (A * x + C * y) 4294967296 2147483648 = v1 at *
  generalize even (B * x + D * y) 4294967296 2147483648 = v2 at *
  generalize hp1 : A * x = p1 at *
  generalize hp2 : C * y = p2 at *
  generalize hp3 : B * x = p3 at *
  generalize hp4 : D * y = p4 at *
  have S3 := fun W => show Calls Try.prog 67 #[.int .i64 (v1), .int .i64 (v2), .int .i64 16382] W fun ed w' => ed = .returned (.tuple #[.int .i64 (okI nb rx), .int .i64 (okI nb ry), .int .i64 (okE nb)]) ∧ W = w' by have := two_any rx ry 16382 W (by omega) (by omega); rw [← hb] at this; rw [← hx, ← hy]; exact this
  have HS1 := Lib.hid S1
  have HS2 := Lib.hid S2
  have HS3 := Lib.hid S3
  have HX := Lib.hid hx
  have HY := Lib.hid hy
  obtain ⟨m10, m11⟩ := m1
  obtain ⟨m20, m21⟩ := m2
  obtain ⟨m30, m31⟩ := m3
  obtain ⟨m40, m41⟩ := m4
  obtain ⟨e10, e11⟩ := e1
  obtain ⟨e20, e21⟩ := e2
  obtain ⟨bE0, bE1⟩ := bE
  obtain ⟨bF0, bF1⟩ := bF
  have z1 : -4611686018427387904 ≤ v1 ∧ v1 ≤ 4611686018427387904 := by omega
  have z2 : -4611686018427387904 ≤ v2 ∧ v2 ≤ 4611686018427387904 := by omega
  obtain ⟨z10, z11⟩ := z1
  obtain ⟨z20, z21⟩ := z2
  clear S1 S2 S3 hx hy hb h hg bA bB bC bD bx by_ e10 e11 e20 e21
  have K1 := Blk.new w 23 #[.int .i64 A, .int .i64 B, .int .i64 C, .int .i64 D, .int .i64 E, .int .i64 F]
  go_enter Try.func44, Try.ntmps44
  go_wp2_with fail
  refine (HA.out _).mono ?_
  rintro e_ w1 ⟨rfl, hb1⟩
  replace K1 := K1.below hb1 (by simp)
  have hbw : Below w.heap.size w w1 := btrans (by (repeat' (first | exact Below.refl _ _ | exact Below.refl _ _ | refine balloc ?_ _ | refine Below.drew ?_ | refine below_drewN ?_ _ | refine bset ?_ (by first | omega | (simp <;> omega)) _))) hb1
  have l1 := K1.lt
  have p0_ := K1.cell 0
  have p1_ := K1.cell 1
  have p2_ := K1.cell 2
  have p3_ := K1.cell 3
  have p4_ := K1.cell 4
  have p5_ := K1.cell 5
  simp only [List.getElem?_toArray, List.getElem?_cons_succ, List.getElem?_cons_zero] at p0_ p1_ p2_ p3_ p4_ p5_
  have u0 : ∀ u : Up w1, u.val.cell? ⟨w.heap.size, 0, none⟩ = some (.int .i64 A) := fun u => (u.cell l1).trans p0_
  have u1 : ∀ u : Up w1, u.val.cell? ⟨w.heap.size, 1, none⟩ = some (.int .i64 B) := fun u => (u.cell l1).trans p1_
  have u2 : ∀ u : Up w1, u.val.cell? ⟨w.heap.size, 2, none⟩ = some (.int .i64 C) := fun u => (u.cell l1).trans p2_
  have u3 : ∀ u : Up w1, u.val.cell? ⟨w.heap.size, 3, none⟩ = some (.int .i64 D) := fun u => (u.cell l1).trans p3_
  have u4 : ∀ u : Up w1, u.val.cell? ⟨w.heap.size, 4, none⟩ = some (.int .i64 E) := fun u => (u.cell l1).trans p4_
  have u5 : ∀ u : Up w1, u.val.cell? ⟨w.heap.size, 5, none⟩ = some (.int .i64 F) := fun u => (u.cell l1).trans p5_
  have HU1 := Lib.hid (fun u : Up w1 => up_same (u := u) (HS1.out u.val))
  have HU2 := Lib.hid (fun u : Up w1 => up_same (u := u) (HS2.out u.val))
  have HU3 := Lib.hid (fun u : Up w1 => up_same (u := u) (HS3.out u.val))
  have HBW := Lib.hid hbw
  clear HA HS1 HS2 HS3 hb1 hbw K1 p0_ p1_ p2_ p3_ p4_ p5_
  go_wp2_with fail
  refine wp_region_up (by kernel_rfl) (by kernel_rfl) ?_
  repeat (go_big_quiet_step (fail))
  go_big_quiet_step (exact HU1.out _)
  repeat (go_big_quiet_step (fail))
  go_big_quiet_step (exact HU2.out _)
  repeat (go_big_quiet_step (fail))
  go_big_quiet_step (exact HU3.out _)
  repeat (go_big_quiet_step (fail))
  refine wpQuiet_nil ?_
  rintro _ ⟨uq, rfl⟩
  go_wp2_with fail
  go_ret3
  exact ⟨rfl, btrans HBW.out uq.ok⟩

theorem rVector_any (A B C D E F x y : Int) (w : World) : Calls Try.prog 44 #[.agg #[.int .i64 A, .int .i64 B, .int .i64 C, .int .i64 D, .int .i64 E, .int .i64 F], .int .i64 x, .int .i64 y] w fun ed w' => ed = .returned (.tuple #[.int .i64 (okI (goodB A B C D E F x y && bVector A B C D E F x y) (xVector A B C D E F x y)), .int .i64 (okI (goodB A B C D E F x y && bVector A B C D E F x y) (yVector A B C D E F x y)), .int .i64 (erE (goodB A B C D E F x y) (bVector A B C D E F x y))]) ∧ Below w.heap.size w w' := by
  cases h : goodB A B C D E F x y with
  | false => exact rVector_no A B C D E F x y w h
  | true => exact rVector_yes A B C D E F x y w h

/-- what Map reckons -/
def xMap (A B C D E F x y : Int) : Int := even (A * x + C * y) 65536 32768 + E
def yMap (A B C D E F x y : Int) : Int := even (B * x + D * y) 65536 32768 + F
def bMap (A B C D E F x y : Int) : Bool := nearB (xMap A B C D E F x y) (yMap A B C D E F x y) 1073741823

theorem Map_no (A B C D E F x y : Int) (w : World) (h : goodB A B C D E F x y = false) : Calls Try.prog 37 #[.agg #[.int .i64 A, .int .i64 B, .int .i64 C, .int .i64 D, .int .i64 E, .int .i64 F], .int .i64 x, .int .i64 y] w fun ed w' => ed = .returned (.tuple #[.int .i64 0, .int .i64 0, .int .i64 1]) ∧ Below w.heap.size w w' := by
  have HA := Lib.hid (fun W => show Calls Try.prog 60 #[.agg #[.int .i64 A, .int .i64 B, .int .i64 C, .int .i64 D, .int .i64 E, .int .i64 F], .int .i64 x, .int .i64 y] W fun ed w' => ed = .returned (.bool false) ∧ Below W.heap.size W w' by have := good_any A B C D E F x y W; rw [h] at this; exact this)
  go_enter Try.func37, Try.ntmps37
  go_wp2_with fail
  refine (HA.out _).mono ?_
  rintro e_ w1 ⟨rfl, hb1⟩
  go_wp2_with fail
  go_ret3
  exact ⟨rfl, btrans (by (repeat' (first | exact Below.refl _ _ | exact Below.refl _ _ | refine balloc ?_ _ | refine Below.drew ?_ | refine below_drewN ?_ _ | refine bset ?_ (by first | omega | (simp <;> omega)) _))) hb1⟩
set_option maxHeartbeats 1600000 in
theorem Map_yes (A B C D E F x y : Int) (w : World) (h : goodB A B C D E F x y = true) : Calls Try.prog 37 #[.agg #[.int .i64 A, .int .i64 B, .int .i64 C, .int .i64 D, .int .i64 E, .int .i64 F], .int .i64 x, .int .i64 y] w fun ed w' => ed = .returned (.tuple #[.int .i64 (okI (bMap A B C D E F x y) (xMap A B C D E F x y)), .int .i64 (okI (bMap A B C D E F x y) (yMap A B C D E F x y)), .int .i64 (okE (bMap A B C D E F x y))]) ∧ Below w.heap.size w w' := by
  have hg := h
  unfold goodB at hg
  simp only [Bool.and_eq_true] at hg
  obtain ⟨bA, bB, bC, bD, bE, bF⟩ := mayB_bd hg.1.1
  have bx := fixB_bd hg.1.2
  have by_ := fixB_bd hg.2
  have HA := Lib.hid (fun W => show Calls Try.prog 60 #[.agg #[.int .i64 A, .int .i64 B, .int .i64 C, .int .i64 D, .int .i64 E, .int .i64 F], .int .i64 x, .int .i64 y] W fun ed w' => ed = .returned (.bool true) ∧ Below W.heap.size W w' by have := good_any A B C D E F x y W; rw [h] at this; exact this)
  have m1 := fix_mul bA bx
  have m2 := fix_mul bC by_
  have m3 := fix_mul bB bx
  have m4 := fix_mul bD by_
  have e1 := even_bd (A * x + C * y) 65536 32768 (by omega)
  have e2 := even_bd (B * x + D * y) 65536 32768 (by omega)
  have S1 := fun W => show Calls Try.prog 58 #[.int .i64 (A * x + C * y), .int .u64 16] W fun ed w' => ed = .returned (.int .i64 (even (A * x + C * y) 65536 32768)) ∧ W = w' from round16 _ W (by omega) (by omega)
  have S2 := fun W => show Calls Try.prog 58 #[.int .i64 (B * x + D * y), .int .u64 16] W fun ed w' => ed = .returned (.int .i64 (even (B * x + D * y) 65536 32768)) ∧ W = w' from round16 _ W (by omega) (by omega)
  have hx : xMap A B C D E F x y = even (A * x + C * y) 65536 32768 + E := rfl
  have hy : yMap A B C D E F x y = even (B * x + D * y) 65536 32768 + F := rfl
  have hb : bMap A B C D E F x y = nearB (xMap A B C D E F x y) (yMap A B C D E F x y) 1073741823 := rfl
  generalize bMap A B C D E F x y = nb at *
  generalize xMap A B C D E F x y = rx at *
  generalize yMap A B C D E F x y = ry at *
  generalize even (A * x + C * y) 65536 32768 = v1 at *
  generalize even (B * x + D * y) 65536 32768 = v2 at *
  generalize hp1 : A * x = p1 at *
  generalize hp2 : C * y = p2 at *
  generalize hp3 : B * x = p3 at *
  generalize hp4 : D * y = p4 at *
  have S3 := fun W => show Calls Try.prog 61 #[.int .i64 (v1 + E), .int .i64 (v2 + F), .int .i64 1073741823] W fun ed w' => ed = .returned (.tuple #[.int .i64 (okI nb rx), .int .i64 (okI nb ry), .int .i64 (okE nb)]) ∧ W = w' by have := near_any rx ry 1073741823 W (by omega) (by omega); rw [← hb] at this; rw [← hx, ← hy]; exact this
  have HS1 := Lib.hid S1
  have HS2 := Lib.hid S2
  have HS3 := Lib.hid S3
  have HX := Lib.hid hx
  have HY := Lib.hid hy
  obtain ⟨m10, m11⟩ := m1
  obtain ⟨m20, m21⟩ := m2
  obtain ⟨m30, m31⟩ := m3
  obtain ⟨m40, m41⟩ := m4
  obtain ⟨e10, e11⟩ := e1
  obtain ⟨e20, e21⟩ := e2
  obtain ⟨bE0, bE1⟩ := bE
  obtain ⟨bF0, bF1⟩ := bF
  have z1 : -4611686018427387904 ≤ v1 ∧ v1 ≤ 4611686018427387904 := by omega
  have z2 : -4611686018427387904 ≤ v2 ∧ v2 ≤ 4611686018427387904 := by omega
  obtain ⟨z10, z11⟩ := z1
  obtain ⟨z20, z21⟩ := z2
  clear S1 S2 S3 hx hy hb h hg bA bB bC bD bx by_ e10 e11 e20 e21
  have K1 := Blk.new w 23 #[.int .i64 A, .int .i64 B, .int .i64 C, .int .i64 D, .int .i64 E, .int .i64 F]
  go_enter Try.func37, Try.ntmps37
  go_wp2_with fail
  refine (HA.out _).mono ?_
  rintro e_ w1 ⟨rfl, hb1⟩
  replace K1 := K1.below hb1 (by simp)
  have hbw : Below w.heap.size w w1 := btrans (by (repeat' (first | exact Below.refl _ _ | exact Below.refl _ _ | refine balloc ?_ _ | refine Below.drew ?_ | refine below_drewN ?_ _ | refine bset ?_ (by first | omega | (simp <;> omega)) _))) hb1
  have l1 := K1.lt
  have p0_ := K1.cell 0
  have p1_ := K1.cell 1
  have p2_ := K1.cell 2
  have p3_ := K1.cell 3
  have p4_ := K1.cell 4
  have p5_ := K1.cell 5
  simp only [List.getElem?_toArray, List.getElem?_cons_succ, List.getElem?_cons_zero] at p0_ p1_ p2_ p3_ p4_ p5_
  have u0 : ∀ u : Up w1, u.val.cell? ⟨w.heap.size, 0, none⟩ = some (.int .i64 A) := fun u => (u.cell l1).trans p0_
  have u1 : ∀ u : Up w1, u.val.cell? ⟨w.heap.size, 1, none⟩ = some (.int .i64 B) := fun u => (u.cell l1).trans p1_
  have u2 : ∀ u : Up w1, u.val.cell? ⟨w.heap.size, 2, none⟩ = some (.int .i64 C) := fun u => (u.cell l1).trans p2_
  have u3 : ∀ u : Up w1, u.val.cell? ⟨w.heap.size, 3, none⟩ = some (.int .i64 D) := fun u => (u.cell l1).trans p3_
  have u4 : ∀ u : Up w1, u.val.cell? ⟨w.heap.size, 4, none⟩ = some (.int .i64 E) := fun u => (u.cell l1).trans p4_
  have u5 : ∀ u : Up w1, u.val.cell? ⟨w.heap.size, 5, none⟩ = some (.int .i64 F) := fun u => (u.cell l1).trans p5_
  have HU1 := Lib.hid (fun u : Up w1 => up_same (u := u) (HS1.out u.val))
  have HU2 := Lib.hid (fun u : Up w1 => up_same (u := u) (HS2.out u.val))
  have HU3 := Lib.hid (fun u : Up w1 => up_same (u := u) (HS3.out u.val))
  have HBW := Lib.hid hbw
  clear HA HS1 HS2 HS3 hb1 hbw K1 p0_ p1_ p2_ p3_ p4_ p5_
  go_wp2_with fail
  refine wp_region_up (by kernel_rfl) (by kernel_rfl) ?_
  repeat (go_big_quiet_step (fail))
  go_big_quiet_step (exact HU1.out _)
  repeat (go_big_quiet_step (fail))
  go_big_quiet_step (exact HU2.out _)
  repeat (go_big_quiet_step (fail))
  go_big_quiet_step (exact HU3.out _)
  repeat (go_big_quiet_step (fail))
  refine wpQuiet_nil ?_
  rintro _ ⟨uq, rfl⟩
  go_wp2_with fail
  go_ret3
  exact ⟨rfl, btrans HBW.out uq.ok⟩

theorem Map_any (A B C D E F x y : Int) (w : World) : Calls Try.prog 37 #[.agg #[.int .i64 A, .int .i64 B, .int .i64 C, .int .i64 D, .int .i64 E, .int .i64 F], .int .i64 x, .int .i64 y] w fun ed w' => ed = .returned (.tuple #[.int .i64 (okI (goodB A B C D E F x y && bMap A B C D E F x y) (xMap A B C D E F x y)), .int .i64 (okI (goodB A B C D E F x y && bMap A B C D E F x y) (yMap A B C D E F x y)), .int .i64 (erE (goodB A B C D E F x y) (bMap A B C D E F x y))]) ∧ Below w.heap.size w w' := by
  cases h : goodB A B C D E F x y with
  | false => exact Map_no A B C D E F x y w h
  | true => exact Map_yes A B C D E F x y w h

theorem rMap_no (A B C D E F x y : Int) (w : World) (h : goodB A B C D E F x y = false) : Calls Try.prog 45 #[.agg #[.int .i64 A, .int .i64 B, .int .i64 C, .int .i64 D, .int .i64 E, .int .i64 F], .int .i64 x, .int .i64 y] w fun ed w' => ed = .returned (.tuple #[.int .i64 0, .int .i64 0, .int .i64 1]) ∧ Below w.heap.size w w' := by
  have HA := Lib.hid (fun W => show Calls Try.prog 66 #[.agg #[.int .i64 A, .int .i64 B, .int .i64 C, .int .i64 D, .int .i64 E, .int .i64 F], .int .i64 x, .int .i64 y] W fun ed w' => ed = .returned (.bool false) ∧ Below W.heap.size W w' by have := fair_any A B C D E F x y W; rw [h] at this; exact this)
  go_enter Try.func45, Try.ntmps45
  go_wp2_with fail
  refine (HA.out _).mono ?_
  rintro e_ w1 ⟨rfl, hb1⟩
  go_wp2_with fail
  go_ret3
  exact ⟨rfl, btrans (by (repeat' (first | exact Below.refl _ _ | exact Below.refl _ _ | refine balloc ?_ _ | refine Below.drew ?_ | refine below_drewN ?_ _ | refine bset ?_ (by first | omega | (simp <;> omega)) _))) hb1⟩
set_option maxHeartbeats 1600000 in
theorem rMap_yes (A B C D E F x y : Int) (w : World) (h : goodB A B C D E F x y = true) : Calls Try.prog 45 #[.agg #[.int .i64 A, .int .i64 B, .int .i64 C, .int .i64 D, .int .i64 E, .int .i64 F], .int .i64 x, .int .i64 y] w fun ed w' => ed = .returned (.tuple #[.int .i64 (okI (bMap A B C D E F x y) (xMap A B C D E F x y)), .int .i64 (okI (bMap A B C D E F x y) (yMap A B C D E F x y)), .int .i64 (okE (bMap A B C D E F x y))]) ∧ Below w.heap.size w w' := by
  have hg := h
  unfold goodB at hg
  simp only [Bool.and_eq_true] at hg
  obtain ⟨bA, bB, bC, bD, bE, bF⟩ := mayB_bd hg.1.1
  have bx := fixB_bd hg.1.2
  have by_ := fixB_bd hg.2
  have HA := Lib.hid (fun W => show Calls Try.prog 66 #[.agg #[.int .i64 A, .int .i64 B, .int .i64 C, .int .i64 D, .int .i64 E, .int .i64 F], .int .i64 x, .int .i64 y] W fun ed w' => ed = .returned (.bool true) ∧ Below W.heap.size W w' by have := fair_any A B C D E F x y W; rw [h] at this; exact this)
  have m1 := fix_mul bA bx
  have m2 := fix_mul bC by_
  have m3 := fix_mul bB bx
  have m4 := fix_mul bD by_
  have e1 := even_bd (A * x + C * y) 65536 32768 (by omega)
  have e2 := even_bd (B * x + D * y) 65536 32768 (by omega)
  have S1 := fun W => show Calls Try.prog 64 #[.int .i64 (A * x + C * y), .int .i64 16] W fun ed w' => ed = .returned (.int .i64 (even (A * x + C * y) 65536 32768)) ∧ W = w' from reven16 _ W (by omega) (by omega)
  have S2 := fun W => show Calls Try.prog 64 #[.int .i64 (B * x + D * y), .int .i64 16] W fun ed w' => ed = .returned (.int .i64 (even (B * x + D * y) 65536 32768)) ∧ W = w' from reven16 _ W (by omega) (by omega)
  have hx : xMap A B C D E F x y = even (A * x + C * y) 65536 32768 + E := rfl
  have hy : yMap A B C D E F x y = even (B * x + D * y) 65536 32768 + F := rfl
  have hb : bMap A B C D E F x y = nearB (xMap A B C D E F x y) (yMap A B C D E F x y) 1073741823 := rfl
  generalize bMap A B C D E F x y = nb at *
  generalize xMap A B C D E F x y = rx at *
  generalize yMap A B C D E F x y = ry at *
  generalize even (A * x + C * y) 65536 32768 = v1 at *
  generalize even (B * x + D * y) 65536 32768 = v2 at *
  generalize hp1 : A * x = p1 at *
  generalize hp2 : C * y = p2 at *
  generalize hp3 : B * x = p3 at *
  generalize hp4 : D * y = p4 at *
  have S3 := fun W => show Calls Try.prog 67 #[.int .i64 (v1 + E), .int .i64 (v2 + F), .int .i64 1073741823] W fun ed w' => ed = .returned (.tuple #[.int .i64 (okI nb rx), .int .i64 (okI nb ry), .int .i64 (okE nb)]) ∧ W = w' by have := two_any rx ry 1073741823 W (by omega) (by omega); rw [← hb] at this; rw [← hx, ← hy]; exact this
  have HS1 := Lib.hid S1
  have HS2 := Lib.hid S2
  have HS3 := Lib.hid S3
  have HX := Lib.hid hx
  have HY := Lib.hid hy
  obtain ⟨m10, m11⟩ := m1
  obtain ⟨m20, m21⟩ := m2
  obtain ⟨m30, m31⟩ := m3
  obtain ⟨m40, m41⟩ := m4
  obtain ⟨e10, e11⟩ := e1
  obtain ⟨e20, e21⟩ := e2
  obtain ⟨bE0, bE1⟩ := bE
  obtain ⟨bF0, bF1⟩ := bF
  have z1 : -4611686018427387904 ≤ v1 ∧ v1 ≤ 4611686018427387904 := by omega
  have z2 : -4611686018427387904 ≤ v2 ∧ v2 ≤ 4611686018427387904 := by omega
  obtain ⟨z10, z11⟩ := z1
  obtain ⟨z20, z21⟩ := z2
  clear S1 S2 S3 hx hy hb h hg bA bB bC bD bx by_ e10 e11 e20 e21
  have K1 := Blk.new w 23 #[.int .i64 A, .int .i64 B, .int .i64 C, .int .i64 D, .int .i64 E, .int .i64 F]
  go_enter Try.func45, Try.ntmps45
  go_wp2_with fail
  refine (HA.out _).mono ?_
  rintro e_ w1 ⟨rfl, hb1⟩
  replace K1 := K1.below hb1 (by simp)
  have hbw : Below w.heap.size w w1 := btrans (by (repeat' (first | exact Below.refl _ _ | exact Below.refl _ _ | refine balloc ?_ _ | refine Below.drew ?_ | refine below_drewN ?_ _ | refine bset ?_ (by first | omega | (simp <;> omega)) _))) hb1
  have l1 := K1.lt
  have p0_ := K1.cell 0
  have p1_ := K1.cell 1
  have p2_ := K1.cell 2
  have p3_ := K1.cell 3
  have p4_ := K1.cell 4
  have p5_ := K1.cell 5
  simp only [List.getElem?_toArray, List.getElem?_cons_succ, List.getElem?_cons_zero] at p0_ p1_ p2_ p3_ p4_ p5_
  have u0 : ∀ u : Up w1, u.val.cell? ⟨w.heap.size, 0, none⟩ = some (.int .i64 A) := fun u => (u.cell l1).trans p0_
  have u1 : ∀ u : Up w1, u.val.cell? ⟨w.heap.size, 1, none⟩ = some (.int .i64 B) := fun u => (u.cell l1).trans p1_
  have u2 : ∀ u : Up w1, u.val.cell? ⟨w.heap.size, 2, none⟩ = some (.int .i64 C) := fun u => (u.cell l1).trans p2_
  have u3 : ∀ u : Up w1, u.val.cell? ⟨w.heap.size, 3, none⟩ = some (.int .i64 D) := fun u => (u.cell l1).trans p3_
  have u4 : ∀ u : Up w1, u.val.cell? ⟨w.heap.size, 4, none⟩ = some (.int .i64 E) := fun u => (u.cell l1).trans p4_
  have u5 : ∀ u : Up w1, u.val.cell? ⟨w.heap.size, 5, none⟩ = some (.int .i64 F) := fun u => (u.cell l1).trans p5_
  have HU1 := Lib.hid (fun u : Up w1 => up_same (u := u) (HS1.out u.val))
  have HU2 := Lib.hid (fun u : Up w1 => up_same (u := u) (HS2.out u.val))
  have HU3 := Lib.hid (fun u : Up w1 => up_same (u := u) (HS3.out u.val))
  have HBW := Lib.hid hbw
  clear HA HS1 HS2 HS3 hb1 hbw K1 p0_ p1_ p2_ p3_ p4_ p5_
  go_wp2_with fail
  refine wp_region_up (by kernel_rfl) (by kernel_rfl) ?_
  repeat (go_big_quiet_step (fail))
  go_big_quiet_step (exact HU1.out _)
  repeat (go_big_quiet_step (fail))
  go_big_quiet_step (exact HU2.out _)
  repeat (go_big_quiet_step (fail))
  go_big_quiet_step (exact HU3.out _)
  repeat (go_big_quiet_step (fail))
  refine wpQuiet_nil ?_
  rintro _ ⟨uq, rfl⟩
  go_wp2_with fail
  go_ret3
  exact ⟨rfl, btrans HBW.out uq.ok⟩

theorem rMap_any (A B C D E F x y : Int) (w : World) : Calls Try.prog 45 #[.agg #[.int .i64 A, .int .i64 B, .int .i64 C, .int .i64 D, .int .i64 E, .int .i64 F], .int .i64 x, .int .i64 y] w fun ed w' => ed = .returned (.tuple #[.int .i64 (okI (goodB A B C D E F x y && bMap A B C D E F x y) (xMap A B C D E F x y)), .int .i64 (okI (goodB A B C D E F x y && bMap A B C D E F x y) (yMap A B C D E F x y)), .int .i64 (erE (goodB A B C D E F x y) (bMap A B C D E F x y))]) ∧ Below w.heap.size w w' := by
  cases h : goodB A B C D E F x y with
  | false => exact rMap_no A B C D E F x y w h
  | true => exact rMap_yes A B C D E F x y w h

/-- what Aim reckons -/
def xAim (A B C D E F x y : Int) : Int := even (A * x + C * y) 65536 32768
def yAim (A B C D E F x y : Int) : Int := even (B * x + D * y) 65536 32768
def bAim (A B C D E F x y : Int) : Bool := nearB (xAim A B C D E F x y) (yAim A B C D E F x y) 1073741823

theorem Aim_no (A B C D E F x y : Int) (w : World) (h : goodB A B C D E F x y = false) : Calls Try.prog 39 #[.agg #[.int .i64 A, .int .i64 B, .int .i64 C, .int .i64 D, .int .i64 E, .int .i64 F], .int .i64 x, .int .i64 y] w fun ed w' => ed = .returned (.tuple #[.int .i64 0, .int .i64 0, .int .i64 1]) ∧ Below w.heap.size w w' := by
  have HA := Lib.hid (fun W => show Calls Try.prog 60 #[.agg #[.int .i64 A, .int .i64 B, .int .i64 C, .int .i64 D, .int .i64 E, .int .i64 F], .int .i64 x, .int .i64 y] W fun ed w' => ed = .returned (.bool false) ∧ Below W.heap.size W w' by have := good_any A B C D E F x y W; rw [h] at this; exact this)
  go_enter Try.func39, Try.ntmps39
  go_wp2_with fail
  refine (HA.out _).mono ?_
  rintro e_ w1 ⟨rfl, hb1⟩
  go_wp2_with fail
  go_ret3
  exact ⟨rfl, btrans (by (repeat' (first | exact Below.refl _ _ | exact Below.refl _ _ | refine balloc ?_ _ | refine Below.drew ?_ | refine below_drewN ?_ _ | refine bset ?_ (by first | omega | (simp <;> omega)) _))) hb1⟩
set_option maxHeartbeats 1600000 in
theorem Aim_yes (A B C D E F x y : Int) (w : World) (h : goodB A B C D E F x y = true) : Calls Try.prog 39 #[.agg #[.int .i64 A, .int .i64 B, .int .i64 C, .int .i64 D, .int .i64 E, .int .i64 F], .int .i64 x, .int .i64 y] w fun ed w' => ed = .returned (.tuple #[.int .i64 (okI (bAim A B C D E F x y) (xAim A B C D E F x y)), .int .i64 (okI (bAim A B C D E F x y) (yAim A B C D E F x y)), .int .i64 (okE (bAim A B C D E F x y))]) ∧ Below w.heap.size w w' := by
  have hg := h
  unfold goodB at hg
  simp only [Bool.and_eq_true] at hg
  obtain ⟨bA, bB, bC, bD, bE, bF⟩ := mayB_bd hg.1.1
  have bx := fixB_bd hg.1.2
  have by_ := fixB_bd hg.2
  have HA := Lib.hid (fun W => show Calls Try.prog 60 #[.agg #[.int .i64 A, .int .i64 B, .int .i64 C, .int .i64 D, .int .i64 E, .int .i64 F], .int .i64 x, .int .i64 y] W fun ed w' => ed = .returned (.bool true) ∧ Below W.heap.size W w' by have := good_any A B C D E F x y W; rw [h] at this; exact this)
  have m1 := fix_mul bA bx
  have m2 := fix_mul bC by_
  have m3 := fix_mul bB bx
  have m4 := fix_mul bD by_
  have e1 := even_bd (A * x + C * y) 65536 32768 (by omega)
  have e2 := even_bd (B * x + D * y) 65536 32768 (by omega)
  have S1 := fun W => show Calls Try.prog 58 #[.int .i64 (A * x + C * y), .int .u64 16] W fun ed w' => ed = .returned (.int .i64 (even (A * x + C * y) 65536 32768)) ∧ W = w' from round16 _ W (by omega) (by omega)
  have S2 := fun W => show Calls Try.prog 58 #[.int .i64 (B * x + D * y), .int .u64 16] W fun ed w' => ed = .returned (.int .i64 (even (B * x + D * y) 65536 32768)) ∧ W = w' from round16 _ W (by omega) (by omega)
  have hx : xAim A B C D E F x y = even (A * x + C * y) 65536 32768 := rfl
  have hy : yAim A B C D E F x y = even (B * x + D * y) 65536 32768 := rfl
  have hb : bAim A B C D E F x y = nearB (xAim A B C D E F x y) (yAim A B C D E F x y) 1073741823 := rfl
  generalize bAim A B C D E F x y = nb at *
  generalize xAim A B C D E F x y = rx at *
  generalize yAim A B C D E F x y = ry at *
  generalize even (A * x + C * y) 65536 32768 = v1 at *
  generalize even (B * x + D * y) 65536 32768 = v2 at *
  generalize hp1 : A * x = p1 at *
  generalize hp2 : C * y = p2 at *
  generalize hp3 : B * x = p3 at *
  generalize hp4 : D * y = p4 at *
  have S3 := fun W => show Calls Try.prog 61 #[.int .i64 (v1), .int .i64 (v2), .int .i64 1073741823] W fun ed w' => ed = .returned (.tuple #[.int .i64 (okI nb rx), .int .i64 (okI nb ry), .int .i64 (okE nb)]) ∧ W = w' by have := near_any rx ry 1073741823 W (by omega) (by omega); rw [← hb] at this; rw [← hx, ← hy]; exact this
  have HS1 := Lib.hid S1
  have HS2 := Lib.hid S2
  have HS3 := Lib.hid S3
  have HX := Lib.hid hx
  have HY := Lib.hid hy
  obtain ⟨m10, m11⟩ := m1
  obtain ⟨m20, m21⟩ := m2
  obtain ⟨m30, m31⟩ := m3
  obtain ⟨m40, m41⟩ := m4
  obtain ⟨e10, e11⟩ := e1
  obtain ⟨e20, e21⟩ := e2
  obtain ⟨bE0, bE1⟩ := bE
  obtain ⟨bF0, bF1⟩ := bF
  have z1 : -4611686018427387904 ≤ v1 ∧ v1 ≤ 4611686018427387904 := by omega
  have z2 : -4611686018427387904 ≤ v2 ∧ v2 ≤ 4611686018427387904 := by omega
  obtain ⟨z10, z11⟩ := z1
  obtain ⟨z20, z21⟩ := z2
  clear S1 S2 S3 hx hy hb h hg bA bB bC bD bx by_ e10 e11 e20 e21
  have K1 := Blk.new w 23 #[.int .i64 A, .int .i64 B, .int .i64 C, .int .i64 D, .int .i64 E, .int .i64 F]
  go_enter Try.func39, Try.ntmps39
  go_wp2_with fail
  refine (HA.out _).mono ?_
  rintro e_ w1 ⟨rfl, hb1⟩
  replace K1 := K1.below hb1 (by simp)
  have hbw : Below w.heap.size w w1 := btrans (by (repeat' (first | exact Below.refl _ _ | exact Below.refl _ _ | refine balloc ?_ _ | refine Below.drew ?_ | refine below_drewN ?_ _ | refine bset ?_ (by first | omega | (simp <;> omega)) _))) hb1
  have l1 := K1.lt
  have p0_ := K1.cell 0
  have p1_ := K1.cell 1
  have p2_ := K1.cell 2
  have p3_ := K1.cell 3
  have p4_ := K1.cell 4
  have p5_ := K1.cell 5
  simp only [List.getElem?_toArray, List.getElem?_cons_succ, List.getElem?_cons_zero] at p0_ p1_ p2_ p3_ p4_ p5_
  have u0 : ∀ u : Up w1, u.val.cell? ⟨w.heap.size, 0, none⟩ = some (.int .i64 A) := fun u => (u.cell l1).trans p0_
  have u1 : ∀ u : Up w1, u.val.cell? ⟨w.heap.size, 1, none⟩ = some (.int .i64 B) := fun u => (u.cell l1).trans p1_
  have u2 : ∀ u : Up w1, u.val.cell? ⟨w.heap.size, 2, none⟩ = some (.int .i64 C) := fun u => (u.cell l1).trans p2_
  have u3 : ∀ u : Up w1, u.val.cell? ⟨w.heap.size, 3, none⟩ = some (.int .i64 D) := fun u => (u.cell l1).trans p3_
  have u4 : ∀ u : Up w1, u.val.cell? ⟨w.heap.size, 4, none⟩ = some (.int .i64 E) := fun u => (u.cell l1).trans p4_
  have u5 : ∀ u : Up w1, u.val.cell? ⟨w.heap.size, 5, none⟩ = some (.int .i64 F) := fun u => (u.cell l1).trans p5_
  have HU1 := Lib.hid (fun u : Up w1 => up_same (u := u) (HS1.out u.val))
  have HU2 := Lib.hid (fun u : Up w1 => up_same (u := u) (HS2.out u.val))
  have HU3 := Lib.hid (fun u : Up w1 => up_same (u := u) (HS3.out u.val))
  have HBW := Lib.hid hbw
  clear HA HS1 HS2 HS3 hb1 hbw K1 p0_ p1_ p2_ p3_ p4_ p5_
  go_wp2_with fail
  refine wp_region_up (by kernel_rfl) (by kernel_rfl) ?_
  repeat (go_big_quiet_step (fail))
  go_big_quiet_step (exact HU1.out _)
  repeat (go_big_quiet_step (fail))
  go_big_quiet_step (exact HU2.out _)
  repeat (go_big_quiet_step (fail))
  go_big_quiet_step (exact HU3.out _)
  repeat (go_big_quiet_step (fail))
  refine wpQuiet_nil ?_
  rintro _ ⟨uq, rfl⟩
  go_wp2_with fail
  go_ret3
  exact ⟨rfl, btrans HBW.out uq.ok⟩

theorem Aim_any (A B C D E F x y : Int) (w : World) : Calls Try.prog 39 #[.agg #[.int .i64 A, .int .i64 B, .int .i64 C, .int .i64 D, .int .i64 E, .int .i64 F], .int .i64 x, .int .i64 y] w fun ed w' => ed = .returned (.tuple #[.int .i64 (okI (goodB A B C D E F x y && bAim A B C D E F x y) (xAim A B C D E F x y)), .int .i64 (okI (goodB A B C D E F x y && bAim A B C D E F x y) (yAim A B C D E F x y)), .int .i64 (erE (goodB A B C D E F x y) (bAim A B C D E F x y))]) ∧ Below w.heap.size w w' := by
  cases h : goodB A B C D E F x y with
  | false => exact Aim_no A B C D E F x y w h
  | true => exact Aim_yes A B C D E F x y w h

theorem rAim_no (A B C D E F x y : Int) (w : World) (h : goodB A B C D E F x y = false) : Calls Try.prog 46 #[.agg #[.int .i64 A, .int .i64 B, .int .i64 C, .int .i64 D, .int .i64 E, .int .i64 F], .int .i64 x, .int .i64 y] w fun ed w' => ed = .returned (.tuple #[.int .i64 0, .int .i64 0, .int .i64 1]) ∧ Below w.heap.size w w' := by
  have HA := Lib.hid (fun W => show Calls Try.prog 66 #[.agg #[.int .i64 A, .int .i64 B, .int .i64 C, .int .i64 D, .int .i64 E, .int .i64 F], .int .i64 x, .int .i64 y] W fun ed w' => ed = .returned (.bool false) ∧ Below W.heap.size W w' by have := fair_any A B C D E F x y W; rw [h] at this; exact this)
  go_enter Try.func46, Try.ntmps46
  go_wp2_with fail
  refine (HA.out _).mono ?_
  rintro e_ w1 ⟨rfl, hb1⟩
  go_wp2_with fail
  go_ret3
  exact ⟨rfl, btrans (by (repeat' (first | exact Below.refl _ _ | exact Below.refl _ _ | refine balloc ?_ _ | refine Below.drew ?_ | refine below_drewN ?_ _ | refine bset ?_ (by first | omega | (simp <;> omega)) _))) hb1⟩
set_option maxHeartbeats 1600000 in
theorem rAim_yes (A B C D E F x y : Int) (w : World) (h : goodB A B C D E F x y = true) : Calls Try.prog 46 #[.agg #[.int .i64 A, .int .i64 B, .int .i64 C, .int .i64 D, .int .i64 E, .int .i64 F], .int .i64 x, .int .i64 y] w fun ed w' => ed = .returned (.tuple #[.int .i64 (okI (bAim A B C D E F x y) (xAim A B C D E F x y)), .int .i64 (okI (bAim A B C D E F x y) (yAim A B C D E F x y)), .int .i64 (okE (bAim A B C D E F x y))]) ∧ Below w.heap.size w w' := by
  have hg := h
  unfold goodB at hg
  simp only [Bool.and_eq_true] at hg
  obtain ⟨bA, bB, bC, bD, bE, bF⟩ := mayB_bd hg.1.1
  have bx := fixB_bd hg.1.2
  have by_ := fixB_bd hg.2
  have HA := Lib.hid (fun W => show Calls Try.prog 66 #[.agg #[.int .i64 A, .int .i64 B, .int .i64 C, .int .i64 D, .int .i64 E, .int .i64 F], .int .i64 x, .int .i64 y] W fun ed w' => ed = .returned (.bool true) ∧ Below W.heap.size W w' by have := fair_any A B C D E F x y W; rw [h] at this; exact this)
  have m1 := fix_mul bA bx
  have m2 := fix_mul bC by_
  have m3 := fix_mul bB bx
  have m4 := fix_mul bD by_
  have e1 := even_bd (A * x + C * y) 65536 32768 (by omega)
  have e2 := even_bd (B * x + D * y) 65536 32768 (by omega)
  have S1 := fun W => show Calls Try.prog 64 #[.int .i64 (A * x + C * y), .int .i64 16] W fun ed w' => ed = .returned (.int .i64 (even (A * x + C * y) 65536 32768)) ∧ W = w' from reven16 _ W (by omega) (by omega)
  have S2 := fun W => show Calls Try.prog 64 #[.int .i64 (B * x + D * y), .int .i64 16] W fun ed w' => ed = .returned (.int .i64 (even (B * x + D * y) 65536 32768)) ∧ W = w' from reven16 _ W (by omega) (by omega)
  have hx : xAim A B C D E F x y = even (A * x + C * y) 65536 32768 := rfl
  have hy : yAim A B C D E F x y = even (B * x + D * y) 65536 32768 := rfl
  have hb : bAim A B C D E F x y = nearB (xAim A B C D E F x y) (yAim A B C D E F x y) 1073741823 := rfl
  generalize bAim A B C D E F x y = nb at *
  generalize xAim A B C D E F x y = rx at *
  generalize yAim A B C D E F x y = ry at *
  generalize even (A * x + C * y) 65536 32768 = v1 at *
  generalize even (B * x + D * y) 65536 32768 = v2 at *
  generalize hp1 : A * x = p1 at *
  generalize hp2 : C * y = p2 at *
  generalize hp3 : B * x = p3 at *
  generalize hp4 : D * y = p4 at *
  have S3 := fun W => show Calls Try.prog 67 #[.int .i64 (v1), .int .i64 (v2), .int .i64 1073741823] W fun ed w' => ed = .returned (.tuple #[.int .i64 (okI nb rx), .int .i64 (okI nb ry), .int .i64 (okE nb)]) ∧ W = w' by have := two_any rx ry 1073741823 W (by omega) (by omega); rw [← hb] at this; rw [← hx, ← hy]; exact this
  have HS1 := Lib.hid S1
  have HS2 := Lib.hid S2
  have HS3 := Lib.hid S3
  have HX := Lib.hid hx
  have HY := Lib.hid hy
  obtain ⟨m10, m11⟩ := m1
  obtain ⟨m20, m21⟩ := m2
  obtain ⟨m30, m31⟩ := m3
  obtain ⟨m40, m41⟩ := m4
  obtain ⟨e10, e11⟩ := e1
  obtain ⟨e20, e21⟩ := e2
  obtain ⟨bE0, bE1⟩ := bE
  obtain ⟨bF0, bF1⟩ := bF
  have z1 : -4611686018427387904 ≤ v1 ∧ v1 ≤ 4611686018427387904 := by omega
  have z2 : -4611686018427387904 ≤ v2 ∧ v2 ≤ 4611686018427387904 := by omega
  obtain ⟨z10, z11⟩ := z1
  obtain ⟨z20, z21⟩ := z2
  clear S1 S2 S3 hx hy hb h hg bA bB bC bD bx by_ e10 e11 e20 e21
  have K1 := Blk.new w 23 #[.int .i64 A, .int .i64 B, .int .i64 C, .int .i64 D, .int .i64 E, .int .i64 F]
  go_enter Try.func46, Try.ntmps46
  go_wp2_with fail
  refine (HA.out _).mono ?_
  rintro e_ w1 ⟨rfl, hb1⟩
  replace K1 := K1.below hb1 (by simp)
  have hbw : Below w.heap.size w w1 := btrans (by (repeat' (first | exact Below.refl _ _ | exact Below.refl _ _ | refine balloc ?_ _ | refine Below.drew ?_ | refine below_drewN ?_ _ | refine bset ?_ (by first | omega | (simp <;> omega)) _))) hb1
  have l1 := K1.lt
  have p0_ := K1.cell 0
  have p1_ := K1.cell 1
  have p2_ := K1.cell 2
  have p3_ := K1.cell 3
  have p4_ := K1.cell 4
  have p5_ := K1.cell 5
  simp only [List.getElem?_toArray, List.getElem?_cons_succ, List.getElem?_cons_zero] at p0_ p1_ p2_ p3_ p4_ p5_
  have u0 : ∀ u : Up w1, u.val.cell? ⟨w.heap.size, 0, none⟩ = some (.int .i64 A) := fun u => (u.cell l1).trans p0_
  have u1 : ∀ u : Up w1, u.val.cell? ⟨w.heap.size, 1, none⟩ = some (.int .i64 B) := fun u => (u.cell l1).trans p1_
  have u2 : ∀ u : Up w1, u.val.cell? ⟨w.heap.size, 2, none⟩ = some (.int .i64 C) := fun u => (u.cell l1).trans p2_
  have u3 : ∀ u : Up w1, u.val.cell? ⟨w.heap.size, 3, none⟩ = some (.int .i64 D) := fun u => (u.cell l1).trans p3_
  have u4 : ∀ u : Up w1, u.val.cell? ⟨w.heap.size, 4, none⟩ = some (.int .i64 E) := fun u => (u.cell l1).trans p4_
  have u5 : ∀ u : Up w1, u.val.cell? ⟨w.heap.size, 5, none⟩ = some (.int .i64 F) := fun u => (u.cell l1).trans p5_
  have HU1 := Lib.hid (fun u : Up w1 => up_same (u := u) (HS1.out u.val))
  have HU2 := Lib.hid (fun u : Up w1 => up_same (u := u) (HS2.out u.val))
  have HU3 := Lib.hid (fun u : Up w1 => up_same (u := u) (HS3.out u.val))
  have HBW := Lib.hid hbw
  clear HA HS1 HS2 HS3 hb1 hbw K1 p0_ p1_ p2_ p3_ p4_ p5_
  go_wp2_with fail
  refine wp_region_up (by kernel_rfl) (by kernel_rfl) ?_
  repeat (go_big_quiet_step (fail))
  go_big_quiet_step (exact HU1.out _)
  repeat (go_big_quiet_step (fail))
  go_big_quiet_step (exact HU2.out _)
  repeat (go_big_quiet_step (fail))
  go_big_quiet_step (exact HU3.out _)
  repeat (go_big_quiet_step (fail))
  refine wpQuiet_nil ?_
  rintro _ ⟨uq, rfl⟩
  go_wp2_with fail
  go_ret3
  exact ⟨rfl, btrans HBW.out uq.ok⟩

theorem rAim_any (A B C D E F x y : Int) (w : World) : Calls Try.prog 46 #[.agg #[.int .i64 A, .int .i64 B, .int .i64 C, .int .i64 D, .int .i64 E, .int .i64 F], .int .i64 x, .int .i64 y] w fun ed w' => ed = .returned (.tuple #[.int .i64 (okI (goodB A B C D E F x y && bAim A B C D E F x y) (xAim A B C D E F x y)), .int .i64 (okI (goodB A B C D E F x y && bAim A B C D E F x y) (yAim A B C D E F x y)), .int .i64 (erE (goodB A B C D E F x y) (bAim A B C D E F x y))]) ∧ Below w.heap.size w w' := by
  cases h : goodB A B C D E F x y with
  | false => exact rAim_no A B C D E F x y w h
  | true => exact rAim_yes A B C D E F x y w h

end Go.Proofs.Ytaephahcohdbpaa.mt
