/-
  Layer 24: Wide.
-/
import Derived.Test.YtaephahcohdbpaaMulA
import Derived.Test.YtaephahcohdbpaaRoot
namespace Go.Proofs.Ytaephahcohdbpaa.mt
set_option linter.unusedVariables false
set_option linter.unusedSimpArgs false
open Go.RowKit bs

/-- how wide a stroke of the width v is under a matrix of the determinant d -/
def wideV (d v : Int) : Int := v * (isq d.natAbs : Int) / 4294967296

set_option maxHeartbeats 1600000 in
theorem Wide_no1 (A B C D E F v : Int) (w : World) (h : mayB A B C D E F = false) : Calls Try.prog 24 #[.agg #[.int .i64 A, .int .i64 B, .int .i64 C, .int .i64 D, .int .i64 E, .int .i64 F], .int .i64 v] w fun ed w' => ed = .returned (.tuple #[.int .i64 0, .int .i64 1]) ∧ Below w.heap.size w w' := by
  have HA := Lib.hid (fun W => show Calls Try.prog 30 #[.agg #[.int .i64 A, .int .i64 B, .int .i64 C, .int .i64 D, .int .i64 E, .int .i64 F]] W fun ed w' => ed = .returned (.bool false) ∧ Below W.heap.size W w' by have := may_any A B C D E F W; rw [h] at this; exact this)
  clear h
  have K1 := Blk.new w 23 #[.int .i64 A, .int .i64 B, .int .i64 C, .int .i64 D, .int .i64 E, .int .i64 F]
  go_enter Try.func24, Try.ntmps24
  go_wp2_with fail
  refine (HA.out _).mono ?_
  rintro e_ w1 ⟨rfl, hb1⟩
  replace K1 := K1.below hb1 (by simp)
  have hbw : Below w.heap.size w w1 := btrans (by (repeat' (first | exact Below.refl _ _ | exact Below.refl _ _ | refine balloc ?_ _ | refine Below.drew ?_ | refine below_drewN ?_ _ | refine bset ?_ (by first | omega | (simp <;> omega)) _))) hb1
  clear hb1
  clear K1
  go_wp2_with fail
  go_ret2
  exact ⟨rfl, hbw⟩

set_option maxHeartbeats 1600000 in
theorem Wide_no2 (A B C D E F v : Int) (w : World) (h : mayB A B C D E F = true) (hv : v < 0) : Calls Try.prog 24 #[.agg #[.int .i64 A, .int .i64 B, .int .i64 C, .int .i64 D, .int .i64 E, .int .i64 F], .int .i64 v] w fun ed w' => ed = .returned (.tuple #[.int .i64 0, .int .i64 1]) ∧ Below w.heap.size w w' := by
  have HA := Lib.hid (fun W => show Calls Try.prog 30 #[.agg #[.int .i64 A, .int .i64 B, .int .i64 C, .int .i64 D, .int .i64 E, .int .i64 F]] W fun ed w' => ed = .returned (.bool true) ∧ Below W.heap.size W w' by have := may_any A B C D E F W; rw [h] at this; exact this)
  clear h
  have c1 : decide (v < 0) = true := by simp; omega
  have K1 := Blk.new w 23 #[.int .i64 A, .int .i64 B, .int .i64 C, .int .i64 D, .int .i64 E, .int .i64 F]
  go_enter Try.func24, Try.ntmps24
  go_wp2_with fail
  refine (HA.out _).mono ?_
  rintro e_ w1 ⟨rfl, hb1⟩
  replace K1 := K1.below hb1 (by simp)
  have hbw : Below w.heap.size w w1 := btrans (by (repeat' (first | exact Below.refl _ _ | exact Below.refl _ _ | refine balloc ?_ _ | refine Below.drew ?_ | refine below_drewN ?_ _ | refine bset ?_ (by first | omega | (simp <;> omega)) _))) hb1
  clear hb1
  have l1 := K1.lt
  have p0_ := K1.cell 0
  have p1_ := K1.cell 1
  have p2_ := K1.cell 2
  have p3_ := K1.cell 3
  have p4_ := K1.cell 4
  have p5_ := K1.cell 5
  simp only [List.getElem?_toArray, List.getElem?_cons_succ, List.getElem?_cons_zero] at p0_ p1_ p2_ p3_ p4_ p5_
  go_wp2_with fail
  go_ret2
  exact ⟨rfl, hbw⟩

set_option maxHeartbeats 1600000 in
theorem Wide_no3 (A B C D E F v : Int) (w : World) (h : mayB A B C D E F = true) (hv : 0 ≤ v) (hx : fixB v = false) : Calls Try.prog 24 #[.agg #[.int .i64 A, .int .i64 B, .int .i64 C, .int .i64 D, .int .i64 E, .int .i64 F], .int .i64 v] w fun ed w' => ed = .returned (.tuple #[.int .i64 0, .int .i64 1]) ∧ Below w.heap.size w w' := by
  have HA := Lib.hid (fun W => show Calls Try.prog 30 #[.agg #[.int .i64 A, .int .i64 B, .int .i64 C, .int .i64 D, .int .i64 E, .int .i64 F]] W fun ed w' => ed = .returned (.bool true) ∧ Below W.heap.size W w' by have := may_any A B C D E F W; rw [h] at this; exact this)
  have HX := Lib.hid (fun W => show Calls Try.prog 51 #[.int .i64 v] W fun ed w' => ed = .returned (.bool false) ∧ W = w' by have := fix_any v W; rw [hx] at this; exact this)
  clear h hx
  have c1 : decide (v < 0) = false := by simp; omega
  have K1 := Blk.new w 23 #[.int .i64 A, .int .i64 B, .int .i64 C, .int .i64 D, .int .i64 E, .int .i64 F]
  go_enter Try.func24, Try.ntmps24
  go_wp2_with fail
  refine (HA.out _).mono ?_
  rintro e_ w1 ⟨rfl, hb1⟩
  replace K1 := K1.below hb1 (by simp)
  have hbw : Below w.heap.size w w1 := btrans (by (repeat' (first | exact Below.refl _ _ | exact Below.refl _ _ | refine balloc ?_ _ | refine Below.drew ?_ | refine below_drewN ?_ _ | refine bset ?_ (by first | omega | (simp <;> omega)) _))) hb1
  clear hb1
  have l1 := K1.lt
  have p0_ := K1.cell 0
  have p1_ := K1.cell 1
  have p2_ := K1.cell 2
  have p3_ := K1.cell 3
  have p4_ := K1.cell 4
  have p5_ := K1.cell 5
  simp only [List.getElem?_toArray, List.getElem?_cons_succ, List.getElem?_cons_zero] at p0_ p1_ p2_ p3_ p4_ p5_
  go_wp2_with fail
  refine (HX.out _).mono ?_
  rintro e_ w2 ⟨rfl, rfl⟩
  go_wp2_with fail
  go_ret2
  exact ⟨rfl, hbw⟩

set_option maxHeartbeats 1600000 in
theorem Wide_yes (A B C D E F v : Int) (w : World) (h : mayB A B C D E F = true) (hv : 0 ≤ v) (hx : fixB v = true) : Calls Try.prog 24 #[.agg #[.int .i64 A, .int .i64 B, .int .i64 C, .int .i64 D, .int .i64 E, .int .i64 F], .int .i64 v] w fun ed w' => ed = .returned (.tuple #[.int .i64 (okI (decide (wideV (A * D - B * C) v ≤ 2048)) (wideV (A * D - B * C) v)), .int .i64 (okE (decide (wideV (A * D - B * C) v ≤ 2048)))]) ∧ Below w.heap.size w w' := by
  obtain ⟨bA, bB, bC, bD, bE, bF⟩ := mayB_bd h
  have bv := fixB_bd hx
  have m1 := fix_mul bA bD
  have m2 := fix_mul bB bC
  have HA := Lib.hid (fun W => show Calls Try.prog 30 #[.agg #[.int .i64 A, .int .i64 B, .int .i64 C, .int .i64 D, .int .i64 E, .int .i64 F]] W fun ed w' => ed = .returned (.bool true) ∧ Below W.heap.size W w' by have := may_any A B C D E F W; rw [h] at this; exact this)
  have HX := Lib.hid (fun W => show Calls Try.prog 51 #[.int .i64 v] W fun ed w' => ed = .returned (.bool true) ∧ W = w' by have := fix_any v W; rw [hx] at this; exact this)
  have HD := Lib.hid (fun W => det_any A B C D E F W h)
  have db : -2305843009213693952 ≤ (A * D - B * C) ∧ (A * D - B * C) ≤ 2305843009213693952 := by omega
  generalize (A * D - B * C) = d at *
  obtain ⟨k, hk⟩ : ∃ k : Nat, d.natAbs = k := ⟨_, rfl⟩
  have hk2 : k ≤ 2305843009213693952 := by omega
  have HF := Lib.hid (fun W => floor_any k W (by omega))
  have hw : wideV d v = v * (isq k : Int) / 4294967296 := by unfold wideV; rw [hk]
  have hs : isq k < 2147483648 := by
    rcases Nat.lt_or_ge (isq k) 2147483648 with hl | hl
    · exact hl
    · have := isq_le.1 hl
      omega
  generalize isq k = s at *
  have hm : 0 ≤ v * (s : Int) ∧ v * (s : Int) ≤ 2305843009213693952 := by
    have := Int.mul_le_mul (show v ≤ 1073741824 by omega) (show (s : Int) ≤ 2147483648 by omega) (by omega) (by omega)
    exact ⟨Int.mul_nonneg hv (by omega), by omega⟩
  generalize hvs : v * (s : Int) = z at *
  obtain ⟨z0, z1⟩ := hm
  rw [hw]
  obtain ⟨r, hr⟩ : ∃ r, z / 4294967296 = r := ⟨_, rfl⟩
  have r0 : 0 ≤ r := by omega
  rw [hr]
  obtain ⟨bv0, bv1⟩ := bv
  have c1 : decide (v < 0) = false := by simp; omega
  clear hw h hx m1 m2 bA bB bC bD bE bF
  by_cases hd0 : d < 0
  · have c2 : decide (d < 0) = true := by simp; omega
    have hdk : -d = (k : Int) := by omega
    have HK := Lib.hid hk
    clear hk
    by_cases hc : r ≤ 2048
    · have c3 : decide (2048 < r) = false := by simp; omega
      rw [show decide (r ≤ 2048) = true by simp; omega]
      have K1 := Blk.new w 23 #[.int .i64 A, .int .i64 B, .int .i64 C, .int .i64 D, .int .i64 E, .int .i64 F]
      go_enter Try.func24, Try.ntmps24
      go_wp2_with fail
      refine (HA.out _).mono ?_
      rintro e_ w1 ⟨rfl, hb1⟩
      replace K1 := K1.below hb1 (by simp)
      have hbw : Below w.heap.size w w1 := btrans (by (repeat' (first | exact Below.refl _ _ | exact Below.refl _ _ | refine balloc ?_ _ | refine Below.drew ?_ | refine below_drewN ?_ _ | refine bset ?_ (by first | omega | (simp <;> omega)) _))) hb1
      clear hb1
      have l1 := K1.lt
      have p0_ := K1.cell 0
      have p1_ := K1.cell 1
      have p2_ := K1.cell 2
      have p3_ := K1.cell 3
      have p4_ := K1.cell 4
      have p5_ := K1.cell 5
      simp only [List.getElem?_toArray, List.getElem?_cons_succ, List.getElem?_cons_zero] at p0_ p1_ p2_ p3_ p4_ p5_
      go_wp2_with fail
      refine (HX.out _).mono ?_
      rintro e_ w2 ⟨rfl, rfl⟩
      go_wp2_with fail
      refine (HD.out _).mono ?_
      rintro e_ w3 ⟨rfl, hb1⟩
      replace hbw := btrans hbw hb1
      clear hb1 l1 p0_ p1_ p2_ p3_ p4_ p5_ K1
      go_wp2_with fail
      refine (HF.out _).mono ?_
      rintro e_ w4 ⟨rfl, rfl⟩
      go_wp2_with fail
      go_ret2
      exact ⟨rfl, hbw⟩
    · have c3 : decide (2048 < r) = true := by simp; omega
      rw [show decide (r ≤ 2048) = false by simp; omega]
      have K1 := Blk.new w 23 #[.int .i64 A, .int .i64 B, .int .i64 C, .int .i64 D, .int .i64 E, .int .i64 F]
      go_enter Try.func24, Try.ntmps24
      go_wp2_with fail
      refine (HA.out _).mono ?_
      rintro e_ w1 ⟨rfl, hb1⟩
      replace K1 := K1.below hb1 (by simp)
      have hbw : Below w.heap.size w w1 := btrans (by (repeat' (first | exact Below.refl _ _ | exact Below.refl _ _ | refine balloc ?_ _ | refine Below.drew ?_ | refine below_drewN ?_ _ | refine bset ?_ (by first | omega | (simp <;> omega)) _))) hb1
      clear hb1
      have l1 := K1.lt
      have p0_ := K1.cell 0
      have p1_ := K1.cell 1
      have p2_ := K1.cell 2
      have p3_ := K1.cell 3
      have p4_ := K1.cell 4
      have p5_ := K1.cell 5
      simp only [List.getElem?_toArray, List.getElem?_cons_succ, List.getElem?_cons_zero] at p0_ p1_ p2_ p3_ p4_ p5_
      go_wp2_with fail
      refine (HX.out _).mono ?_
      rintro e_ w2 ⟨rfl, rfl⟩
      go_wp2_with fail
      refine (HD.out _).mono ?_
      rintro e_ w3 ⟨rfl, hb1⟩
      replace hbw := btrans hbw hb1
      clear hb1 l1 p0_ p1_ p2_ p3_ p4_ p5_ K1
      go_wp2_with fail
      refine (HF.out _).mono ?_
      rintro e_ w4 ⟨rfl, rfl⟩
      go_wp2_with fail
      go_ret2
      exact ⟨rfl, hbw⟩
  · have c2 : decide (d < 0) = false := by simp; omega
    obtain rfl : d = (k : Int) := by omega
    clear hk
    by_cases hc : r ≤ 2048
    · have c3 : decide (2048 < r) = false := by simp; omega
      rw [show decide (r ≤ 2048) = true by simp; omega]
      have K1 := Blk.new w 23 #[.int .i64 A, .int .i64 B, .int .i64 C, .int .i64 D, .int .i64 E, .int .i64 F]
      go_enter Try.func24, Try.ntmps24
      go_wp2_with fail
      refine (HA.out _).mono ?_
      rintro e_ w1 ⟨rfl, hb1⟩
      replace K1 := K1.below hb1 (by simp)
      have hbw : Below w.heap.size w w1 := btrans (by (repeat' (first | exact Below.refl _ _ | exact Below.refl _ _ | refine balloc ?_ _ | refine Below.drew ?_ | refine below_drewN ?_ _ | refine bset ?_ (by first | omega | (simp <;> omega)) _))) hb1
      clear hb1
      have l1 := K1.lt
      have p0_ := K1.cell 0
      have p1_ := K1.cell 1
      have p2_ := K1.cell 2
      have p3_ := K1.cell 3
      have p4_ := K1.cell 4
      have p5_ := K1.cell 5
      simp only [List.getElem?_toArray, List.getElem?_cons_succ, List.getElem?_cons_zero] at p0_ p1_ p2_ p3_ p4_ p5_
      go_wp2_with fail
      refine (HX.out _).mono ?_
      rintro e_ w2 ⟨rfl, rfl⟩
      go_wp2_with fail
      refine (HD.out _).mono ?_
      rintro e_ w3 ⟨rfl, hb1⟩
      replace hbw := btrans hbw hb1
      clear hb1 l1 p0_ p1_ p2_ p3_ p4_ p5_ K1
      go_wp2_with fail
      refine (HF.out _).mono ?_
      rintro e_ w4 ⟨rfl, rfl⟩
      go_wp2_with fail
      go_ret2
      exact ⟨rfl, hbw⟩
    · have c3 : decide (2048 < r) = true := by simp; omega
      rw [show decide (r ≤ 2048) = false by simp; omega]
      have K1 := Blk.new w 23 #[.int .i64 A, .int .i64 B, .int .i64 C, .int .i64 D, .int .i64 E, .int .i64 F]
      go_enter Try.func24, Try.ntmps24
      go_wp2_with fail
      refine (HA.out _).mono ?_
      rintro e_ w1 ⟨rfl, hb1⟩
      replace K1 := K1.below hb1 (by simp)
      have hbw : Below w.heap.size w w1 := btrans (by (repeat' (first | exact Below.refl _ _ | exact Below.refl _ _ | refine balloc ?_ _ | refine Below.drew ?_ | refine below_drewN ?_ _ | refine bset ?_ (by first | omega | (simp <;> omega)) _))) hb1
      clear hb1
      have l1 := K1.lt
      have p0_ := K1.cell 0
      have p1_ := K1.cell 1
      have p2_ := K1.cell 2
      have p3_ := K1.cell 3
      have p4_ := K1.cell 4
      have p5_ := K1.cell 5
      simp only [List.getElem?_toArray, List.getElem?_cons_succ, List.getElem?_cons_zero] at p0_ p1_ p2_ p3_ p4_ p5_
      go_wp2_with fail
      refine (HX.out _).mono ?_
      rintro e_ w2 ⟨rfl, rfl⟩
      go_wp2_with fail
      refine (HD.out _).mono ?_
      rintro e_ w3 ⟨rfl, hb1⟩
      replace hbw := btrans hbw hb1
      clear hb1 l1 p0_ p1_ p2_ p3_ p4_ p5_ K1
      go_wp2_with fail
      refine (HF.out _).mono ?_
      rintro e_ w4 ⟨rfl, rfl⟩
      go_wp2_with fail
      go_ret2
      exact ⟨rfl, hbw⟩

end Go.Proofs.Ytaephahcohdbpaa.mt
