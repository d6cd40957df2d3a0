/-
  MatPages: what the first matrix of a page does.
-/
import Derived.Test.YtaephahcohdbpaaExact
namespace Go.Proofs.Ytaephahcohdbpaa.mt
set_option linter.unusedVariables false
set_option linter.unusedSimpArgs false
open Go.RowKit bs

set_option maxRecDepth 100000 in
set_option maxHeartbeats 3200000 in
theorem pages_law (h x y : Int) (w : World) (h_ : -9223372036854775808 ≤ h ∧ h ≤ 9223372036854775807) (x_ : -9223372036854775808 ≤ x ∧ x ≤ 9223372036854775807) (y_ : -9223372036854775808 ≤ y ∧ y ≤ 9223372036854775807) :
    Calls Try.prog 6 #[.int .i64 h, .int .i64 x, .int .i64 y] w fun e w' => e = .returned (.bool true) ∧ Below w.heap.size w w' := by
  have HPl := Lib.hid (fun W => place_any h 64 W (by omega) (by omega))
  have HSx := Lib.hid (fun W => small_any x W)
  have HSy := Lib.hid (fun W => small_any y W)
  obtain ⟨r, hr⟩ : ∃ r, h % 64 = r := ⟨_, rfl⟩
  obtain ⟨i, hi⟩ : ∃ i, x % 81 - 40 = i := ⟨_, rfl⟩
  obtain ⟨j, hj⟩ : ∃ j, y % 81 - 40 = j := ⟨_, rfl⟩
  have r0 : 0 ≤ r ∧ r ≤ 63 := by omega
  have i0 : -40 ≤ i ∧ i ≤ 40 := by omega
  have j0 : -40 ≤ j ∧ j ≤ 40 := by omega
  rw [hr] at HPl
  rw [hi] at HSx
  rw [hj] at HSy
  clear hr hi hj h_ x_ y_
  obtain ⟨n, hn⟩ : ∃ n, 1 + r = n := ⟨_, rfl⟩
  have n0 : 1 ≤ n ∧ n ≤ 64 := by omega
  obtain ⟨F, hF⟩ : ∃ F, 16 * n * 65536 = F := ⟨_, rfl⟩
  have hm : mayB 1048576 0 0 (-1048576) 0 F = true := mayB_true (by omega) (by omega) (by omega) (by omega) (by omega) (by omega)

  have H1 := Lib.hid (fun W => show Calls Try.prog 21 #[.int .i64 n] W fun ed w' => ed = .returned (.tuple #[.agg #[.int .i64 1048576, .int .i64 0, .int .i64 0, .int .i64 (-1048576), .int .i64 0, .int .i64 F], .int .i64 0]) ∧ Below W.heap.size W w' by rw [← hF]; exact Device_yes n W (by omega) (by omega))
  have e0 : even 0 4294967296 2147483648 = 0 := rfl
  have X1 : xPoint 1048576 0 0 (-1048576) 0 F 0 0 = 0 := by unfold xPoint; rfl
  have Y1 : yPoint 1048576 0 0 (-1048576) 0 F 0 0 = 16 * n := by unfold yPoint; rw [show (0 : Int) * 0 + -1048576 * 0 + F * 65536 = 16 * n * 4294967296 by omega]; exact even32_exact _
  have X2 : xPoint 1048576 0 0 (-1048576) 0 F (i * 65536) (j * 65536) = 16 * i := by unfold xPoint; rw [show (1048576 : Int) * (i * 65536) + 0 * (j * 65536) + 0 * 65536 = 16 * i * 4294967296 by omega]; exact even32_exact _
  have Y2 : yPoint 1048576 0 0 (-1048576) 0 F (i * 65536) (j * 65536) = 16 * (n - j) := by unfold yPoint; rw [show (0 : Int) * (i * 65536) + -1048576 * (j * 65536) + F * 65536 = 16 * (n - j) * 4294967296 by omega]; exact even32_exact _
  have X3 : xVector 1048576 0 0 (-1048576) 0 F (i * 65536) (j * 65536) = 16 * i := by unfold xVector; rw [show (1048576 : Int) * (i * 65536) + 0 * (j * 65536) = 16 * i * 4294967296 by omega]; exact even32_exact _
  have Y3 : yVector 1048576 0 0 (-1048576) 0 F (i * 65536) (j * 65536) = -16 * j := by unfold yVector; rw [show (0 : Int) * (i * 65536) + -1048576 * (j * 65536) = -16 * j * 4294967296 by omega]; exact even32_exact _
  have H2 := Lib.hid (fun W => show Calls Try.prog 34 #[.agg #[.int .i64 1048576, .int .i64 0, .int .i64 0, .int .i64 (-1048576), .int .i64 0, .int .i64 F], .int .i64 0, .int .i64 0] W fun ed w' => ed = .returned (.tuple #[.int .i64 0, .int .i64 (16 * n), .int .i64 0]) ∧ Below W.heap.size W w' by 
    have hb : bPoint 1048576 0 0 (-1048576) 0 F 0 0 = true := by unfold bPoint; rw [X1, Y1]; exact nearB_true (by omega) (by omega)
    have := Point_yes 1048576 0 0 (-1048576) 0 F 0 0 W (goodB_true hm (by omega) (by omega))
    rw [hb, X1, Y1] at this
    exact this)
  have H3 := Lib.hid (fun W => show Calls Try.prog 34 #[.agg #[.int .i64 1048576, .int .i64 0, .int .i64 0, .int .i64 (-1048576), .int .i64 0, .int .i64 F], .int .i64 (i * 65536), .int .i64 (j * 65536)] W fun ed w' => ed = .returned (.tuple #[.int .i64 (16 * i), .int .i64 (16 * (n - j)), .int .i64 0]) ∧ Below W.heap.size W w' by 
    have hb : bPoint 1048576 0 0 (-1048576) 0 F (i * 65536) (j * 65536) = true := by unfold bPoint; rw [X2, Y2]; exact nearB_true (by omega) (by omega)
    have := Point_yes 1048576 0 0 (-1048576) 0 F (i * 65536) (j * 65536) W (goodB_true hm (by omega) (by omega))
    rw [hb, X2, Y2] at this
    exact this)
  have H5 := Lib.hid (fun W => show Calls Try.prog 36 #[.agg #[.int .i64 1048576, .int .i64 0, .int .i64 0, .int .i64 (-1048576), .int .i64 0, .int .i64 F], .int .i64 (i * 65536), .int .i64 (j * 65536)] W fun ed w' => ed = .returned (.tuple #[.int .i64 (16 * i), .int .i64 (-16 * j), .int .i64 0]) ∧ Below W.heap.size W w' by 
    have hb : bVector 1048576 0 0 (-1048576) 0 F (i * 65536) (j * 65536) = true := by unfold bVector; rw [X3, Y3]; exact nearB_true (by omega) (by omega)
    have := Vector_yes 1048576 0 0 (-1048576) 0 F (i * 65536) (j * 65536) W (goodB_true hm (by omega) (by omega))
    rw [hb, X3, Y3] at this
    exact this)
  have H4 := Lib.hid (fun W => show Calls Try.prog 35 #[.agg #[.int .i64 1048576, .int .i64 0, .int .i64 0, .int .i64 (-1048576), .int .i64 0, .int .i64 F], .int .i64 (16 * i), .int .i64 (16 * (n - j))] W fun ed w' => ed = .returned (.tuple #[.int .i64 (i * 65536), .int .i64 (j * 65536), .int .i64 0]) ∧ Below W.heap.size W w' by 
    have hb : nearB (i * 65536) (j * 65536) 1073741823 = true := nearB_true (by omega) (by omega)
    have := Back_yes 1048576 0 0 (-1048576) 0 F (16 * i) (16 * (n - j)) (i * 65536) (j * 65536) W hm (nearB_true (by omega) (by omega)) (by omega) (mulDiv_exact (by omega) (by omega) (by omega) (by omega)) (mulDiv_exact (by omega) (by omega) (by omega) (by omega))
    rw [hb] at this
    exact this)
  have H6 := Lib.hid (fun W => show Calls Try.prog 21 #[.int .i64 (64 + n)] W fun ed w' => ed = .returned (.tuple #[.agg #[.int .i64 0, .int .i64 0, .int .i64 0, .int .i64 0, .int .i64 0, .int .i64 0], .int .i64 1]) ∧ Below W.heap.size W w' by exact Device_no2 (64 + n) W (by omega))
  clear X1 X2 X3 Y1 Y2 Y3 e0 hm hF
  go_enter Try.func6, Try.ntmps6
  go_wp2_with fail
  refine (known_any _).mono ?_
  rintro e_ w1 ⟨rfl, hb1⟩
  have hbw : Below w.heap.size w w1 := btrans (by (repeat' (first | exact Below.refl _ _ | exact Below.refl _ _ | refine balloc ?_ _ | refine Below.drew ?_ | refine below_drewN ?_ _ | refine bset ?_ (by first | omega | (simp <;> omega)) _))) hb1
  clear hb1
  go_wp2_with fail
  refine (HPl.out _).mono ?_
  rintro e_ w_ ⟨rfl, rfl⟩
  go_wp2_with fail
  refine (HSx.out _).mono ?_
  rintro e_ w_ ⟨rfl, rfl⟩
  go_wp2_with fail
  refine (HSy.out _).mono ?_
  rintro e_ w_ ⟨rfl, rfl⟩
  go_wp2_with fail
  refine (H1.out _).mono ?_
  rintro e_ w2 ⟨rfl, hb2⟩
  replace hbw : Below w.heap.size w w2 := btrans (by (repeat' (first | refine bset ?_ (by first | omega | (simp <;> omega)) _ | refine balloc ?_ _ | refine Below.drew ?_ | refine below_drewN ?_ _ | exact hbw | exact Below.refl _ _))) hb2
  clear hb2
  go_wp2_with fail
  refine (H2.out _).mono ?_
  rintro e_ w3 ⟨rfl, hb3⟩
  have Kd := (Blk.new w2 23 #[.int .i64 1048576, .int .i64 0, .int .i64 0, .int .i64 (-1048576), .int .i64 0, .int .i64 F]).below hb3 (by simp)
  replace hbw : Below w.heap.size w w3 := btrans (by (repeat' (first | refine bset ?_ (by first | omega | (simp <;> omega)) _ | refine balloc ?_ _ | refine Below.drew ?_ | refine below_drewN ?_ _ | exact hbw | exact Below.refl _ _))) hb3
  clear hb3
  have lKd := Kd.lt
  have cKd0 := Kd.cell 0
  have cKd1 := Kd.cell 1
  have cKd2 := Kd.cell 2
  have cKd3 := Kd.cell 3
  have cKd4 := Kd.cell 4
  have cKd5 := Kd.cell 5
  simp only [List.getElem?_toArray, List.getElem?_cons_succ, List.getElem?_cons_zero] at cKd0 cKd1 cKd2 cKd3 cKd4 cKd5
  go_wp2_with fail
  refine (H3.out _).mono ?_
  rintro e_ w4 ⟨rfl, hb4⟩
  replace Kd := Kd.below hb4 (by first | exact lKd | (have := lKd; simp; omega))
  replace hbw : Below w.heap.size w w4 := btrans (by (repeat' (first | refine bset ?_ (by first | omega | (simp <;> omega)) _ | refine balloc ?_ _ | refine Below.drew ?_ | refine below_drewN ?_ _ | exact hbw | exact Below.refl _ _))) hb4
  clear hb4 lKd cKd0 cKd1 cKd2 cKd3 cKd4 cKd5
  have lKd := Kd.lt
  have cKd0 := Kd.cell 0
  have cKd1 := Kd.cell 1
  have cKd2 := Kd.cell 2
  have cKd3 := Kd.cell 3
  have cKd4 := Kd.cell 4
  have cKd5 := Kd.cell 5
  simp only [List.getElem?_toArray, List.getElem?_cons_succ, List.getElem?_cons_zero] at cKd0 cKd1 cKd2 cKd3 cKd4 cKd5
  go_wp2_with fail
  refine (H4.out _).mono ?_
  rintro e_ w5 ⟨rfl, hb5⟩
  replace Kd := Kd.below hb5 (by first | exact lKd | (have := lKd; simp; omega))
  replace hbw : Below w.heap.size w w5 := btrans (by (repeat' (first | refine bset ?_ (by first | omega | (simp <;> omega)) _ | refine balloc ?_ _ | refine Below.drew ?_ | refine below_drewN ?_ _ | exact hbw | exact Below.refl _ _))) hb5
  clear hb5 lKd cKd0 cKd1 cKd2 cKd3 cKd4 cKd5
  have lKd := Kd.lt
  have cKd0 := Kd.cell 0
  have cKd1 := Kd.cell 1
  have cKd2 := Kd.cell 2
  have cKd3 := Kd.cell 3
  have cKd4 := Kd.cell 4
  have cKd5 := Kd.cell 5
  simp only [List.getElem?_toArray, List.getElem?_cons_succ, List.getElem?_cons_zero] at cKd0 cKd1 cKd2 cKd3 cKd4 cKd5
  go_wp2_with fail
  refine (H5.out _).mono ?_
  rintro e_ w6 ⟨rfl, hb6⟩
  replace Kd := Kd.below hb6 (by first | exact lKd | (have := lKd; simp; omega))
  replace hbw : Below w.heap.size w w6 := btrans (by (repeat' (first | refine bset ?_ (by first | omega | (simp <;> omega)) _ | refine balloc ?_ _ | refine Below.drew ?_ | refine below_drewN ?_ _ | exact hbw | exact Below.refl _ _))) hb6
  clear hb6 lKd cKd0 cKd1 cKd2 cKd3 cKd4 cKd5
  have lKd := Kd.lt
  have cKd0 := Kd.cell 0
  have cKd1 := Kd.cell 1
  have cKd2 := Kd.cell 2
  have cKd3 := Kd.cell 3
  have cKd4 := Kd.cell 4
  have cKd5 := Kd.cell 5
  simp only [List.getElem?_toArray, List.getElem?_cons_succ, List.getElem?_cons_zero] at cKd0 cKd1 cKd2 cKd3 cKd4 cKd5
  go_wp2_with fail
  refine (H6.out _).mono ?_
  rintro e_ w7 ⟨rfl, hb7⟩
  replace Kd := Kd.below hb7 (by first | exact lKd | (have := lKd; simp; omega))
  replace hbw : Below w.heap.size w w7 := btrans (by (repeat' (first | refine bset ?_ (by first | omega | (simp <;> omega)) _ | refine balloc ?_ _ | refine Below.drew ?_ | refine below_drewN ?_ _ | exact hbw | exact Below.refl _ _))) hb7
  clear hb7 lKd cKd0 cKd1 cKd2 cKd3 cKd4 cKd5
  have lKd := Kd.lt
  have cKd0 := Kd.cell 0
  have cKd1 := Kd.cell 1
  have cKd2 := Kd.cell 2
  have cKd3 := Kd.cell 3
  have cKd4 := Kd.cell 4
  have cKd5 := Kd.cell 5
  simp only [List.getElem?_toArray, List.getElem?_cons_succ, List.getElem?_cons_zero] at cKd0 cKd1 cKd2 cKd3 cKd4 cKd5
  go_wp2_with fail
  go_ret
  exact ⟨rfl, by (repeat' (first | refine bset ?_ (by first | omega | (simp <;> omega)) _ | refine balloc ?_ _ | refine Below.drew ?_ | refine below_drewN ?_ _ | exact hbw | exact Below.refl _ _))⟩

end Go.Proofs.Ytaephahcohdbpaa.mt
