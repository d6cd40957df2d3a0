/-
  MatMakes: Move, Size, Device, Wide, One: what the reference returns.
-/
import Derived.Test.YtaephahcohdbpaaRefW
namespace Go.Proofs.Ytaephahcohdbpaa.mt
set_option linter.unusedVariables false
set_option linter.unusedSimpArgs false
open Go.RowKit bs

theorem eqB_refl (A B C D E F : Int) : eqB A B C D E F A B C D E F = true := by unfold eqB; simp
set_option maxRecDepth 100000 in
set_option maxHeartbeats 3200000 in
theorem makes_ns (A B C D E F x y F0 s t : Int) (w : World)
    (h1 : ∀ W, Calls Try.prog 16 #[.int .i64 x, .int .i64 y] W fun ed w' => ed = .returned (.tuple #[.agg #[.int .i64 0, .int .i64 0, .int .i64 0, .int .i64 0, .int .i64 0, .int .i64 0], .int .i64 1]) ∧ Below W.heap.size W w')
    (h2 : ∀ W, Calls Try.prog 17 #[.int .i64 x, .int .i64 y] W fun ed w' => ed = .returned (.tuple #[.agg #[.int .i64 0, .int .i64 0, .int .i64 0, .int .i64 0, .int .i64 0, .int .i64 0], .int .i64 1]) ∧ Below W.heap.size W w')
    (h3 : ∀ W, Calls Try.prog 18 #[.int .i64 x] W fun ed w' => ed = .returned (.bool false) ∧ W = w')
    
    (h5 : ∀ W, Calls Try.prog 21 #[.int .i64 x] W fun ed w' => ed = .returned (.tuple #[.agg #[.int .i64 1048576, .int .i64 0, .int .i64 0, .int .i64 (-1048576), .int .i64 0, .int .i64 F0], .int .i64 0]) ∧ Below W.heap.size W w')
    (h6 : ∀ W, Calls Try.prog 22 #[.int .i64 x] W fun ed w' => ed = .returned (.bool true) ∧ W = w')
    (h7 : ∀ W, Calls Try.prog 23 #[.int .i64 x] W fun ed w' => ed = .returned (.agg #[.int .i64 1048576, .int .i64 0, .int .i64 0, .int .i64 (-1048576), .int .i64 0, .int .i64 F0]) ∧ Below W.heap.size W w')
    (h8 : ∀ W, Calls Try.prog 24 #[.agg #[.int .i64 A, .int .i64 B, .int .i64 C, .int .i64 D, .int .i64 E, .int .i64 F], .int .i64 y] W fun ed w' => ed = .returned (.tuple #[.int .i64 s, .int .i64 t]) ∧ Below W.heap.size W w') (h9 : ∀ W, Calls Try.prog 25 #[.agg #[.int .i64 A, .int .i64 B, .int .i64 C, .int .i64 D, .int .i64 E, .int .i64 F], .int .i64 y] W fun ed w' => ed = .returned (.tuple #[.int .i64 s, .int .i64 t]) ∧ Below W.heap.size W w') :
    Calls Try.prog 3 #[.agg #[.int .i64 A, .int .i64 B, .int .i64 C, .int .i64 D, .int .i64 E, .int .i64 F], .int .i64 x, .int .i64 y] w fun ed w' => ed = .returned (.bool true) ∧ Below w.heap.size w w' := by
  have H1 := Lib.hid h1
  clear h1
  have H2 := Lib.hid h2
  clear h2
  have H3 := Lib.hid h3
  clear h3
  have H5 := Lib.hid h5
  clear h5
  have H6 := Lib.hid h6
  clear h6
  have H7 := Lib.hid h7
  clear h7
  have H8 := Lib.hid h8
  clear h8
  have H9 := Lib.hid h9
  clear h9
  have HWh := Lib.hid (fun W => show Calls Try.prog 27 #[.int .i64 1, .int .i64 0, .int .i64 0, .int .i64 1, .int .i64 0, .int .i64 0] W fun ed w' => ed = .returned (.agg #[.int .i64 65536, .int .i64 0, .int .i64 0, .int .i64 65536, .int .i64 0, .int .i64 0]) ∧ Below W.heap.size W w' by exact Whole_any 1 0 0 1 0 0 W (by omega) (by omega) (by omega) (by omega) (by omega) (by omega))
  have JG := guard_mat
  have JN := guard_mat_ne
  have J3 : ∀ w, (binOp .neq 23 (.agg #[.int .i64 0, .int .i64 0, .int .i64 0, .int .i64 0, .int .i64 0, .int .i64 0]) (.agg #[.int .i64 0, .int .i64 0, .int .i64 0, .int .i64 0, .int .i64 0, .int .i64 0])).run Try.prog w = .ok (.bool false) w := fun w => by
    have := ne_mat 0 0 0 0 0 0 0 0 0 0 0 0 w
    rw [eqB_refl] at this
    exact this
  have J4 : ∀ w, (binOp .neq 23 (.agg #[.int .i64 1048576, .int .i64 0, .int .i64 0, .int .i64 (-1048576), .int .i64 0, .int .i64 F0]) (.agg #[.int .i64 1048576, .int .i64 0, .int .i64 0, .int .i64 (-1048576), .int .i64 0, .int .i64 F0])).run Try.prog w = .ok (.bool false) w := fun w => by
    have := ne_mat 1048576 0 0 (-1048576) 0 F0 1048576 0 0 (-1048576) 0 F0 w
    rw [eqB_refl] at this
    exact this
  have J5 : ∀ w, (binOp .eql 23 (.agg #[.int .i64 65536, .int .i64 0, .int .i64 0, .int .i64 65536, .int .i64 0, .int .i64 0]) (.agg #[.int .i64 65536, .int .i64 0, .int .i64 0, .int .i64 65536, .int .i64 0, .int .i64 0])).run Try.prog w = .ok (.bool true) w := fun w => eq_mat 65536 0 0 65536 0 0 65536 0 0 65536 0 0 w
  go_enter Try.func3, Try.ntmps3
  go_wp2_with fail
  refine (known_any _).mono ?_
  rintro e_ w1 ⟨rfl, hb1⟩
  have K0 := (Blk.new w 23 #[.int .i64 A, .int .i64 B, .int .i64 C, .int .i64 D, .int .i64 E, .int .i64 F]).below hb1 (by simp)
  have hbw : Below w.heap.size w w1 := btrans (by (repeat' (first | exact Below.refl _ _ | exact Below.refl _ _ | refine balloc ?_ _ | refine Below.drew ?_ | refine below_drewN ?_ _ | refine bset ?_ (by first | omega | (simp <;> omega)) _))) hb1
  clear hb1
  have lK0 := K0.lt
  have cK00 := K0.cell 0
  have cK01 := K0.cell 1
  have cK02 := K0.cell 2
  have cK03 := K0.cell 3
  have cK04 := K0.cell 4
  have cK05 := K0.cell 5
  simp only [List.getElem?_toArray, List.getElem?_cons_succ, List.getElem?_cons_zero] at cK00 cK01 cK02 cK03 cK04 cK05
  go_wp2_with fail
  refine (H1.out _).mono ?_
  rintro e_ w2 ⟨rfl, hb2⟩
  replace K0 := K0.below hb2 (by first | exact lK0 | (have := lK0; simp; omega))
  replace hbw : Below w.heap.size w w2 := btrans (by (repeat' (first | refine bset ?_ (by first | omega | (simp <;> omega)) _ | refine balloc ?_ _ | refine Below.drew ?_ | refine below_drewN ?_ _ | exact hbw | exact Below.refl _ _))) hb2
  clear hb2 lK0 cK00 cK01 cK02 cK03 cK04 cK05
  have lK0 := K0.lt
  have cK00 := K0.cell 0
  have cK01 := K0.cell 1
  have cK02 := K0.cell 2
  have cK03 := K0.cell 3
  have cK04 := K0.cell 4
  have cK05 := K0.cell 5
  simp only [List.getElem?_toArray, List.getElem?_cons_succ, List.getElem?_cons_zero] at cK00 cK01 cK02 cK03 cK04 cK05
  go_wp2_with fail
  refine (H2.out _).mono ?_
  rintro e_ w3 ⟨rfl, hb3⟩
  replace K0 := (K0.alloc (.cells #[.int .i64 0, .int .i64 0, .int .i64 0, .int .i64 0, .int .i64 0, .int .i64 0] 23)).below hb3 (by first | exact lK0 | (have := lK0; simp; omega))
  have Km := (Blk.new w2 23 #[.int .i64 0, .int .i64 0, .int .i64 0, .int .i64 0, .int .i64 0, .int .i64 0]).below hb3 (by simp)
  replace hbw : Below w.heap.size w w3 := btrans (by (repeat' (first | refine bset ?_ (by first | omega | (simp <;> omega)) _ | refine balloc ?_ _ | refine Below.drew ?_ | refine below_drewN ?_ _ | exact hbw | exact Below.refl _ _))) hb3
  clear hb3 lK0 cK00 cK01 cK02 cK03 cK04 cK05
  have lK0 := K0.lt
  have cK00 := K0.cell 0
  have cK01 := K0.cell 1
  have cK02 := K0.cell 2
  have cK03 := K0.cell 3
  have cK04 := K0.cell 4
  have cK05 := K0.cell 5
  have lKm := Km.lt
  have cKm0 := Km.cell 0
  have cKm1 := Km.cell 1
  have cKm2 := Km.cell 2
  have cKm3 := Km.cell 3
  have cKm4 := Km.cell 4
  have cKm5 := Km.cell 5
  simp only [List.getElem?_toArray, List.getElem?_cons_succ, List.getElem?_cons_zero] at cK00 cK01 cK02 cK03 cK04 cK05 cKm0 cKm1 cKm2 cKm3 cKm4 cKm5
  go_wp2_with fail
  refine (H3.out _).mono ?_
  rintro e_ w4 ⟨rfl, hsame4⟩
  have hb4 : Below (w3.alloc (.cells #[.int .i64 0, .int .i64 0, .int .i64 0, .int .i64 0, .int .i64 0, .int .i64 0] 23)).heap.size (w3.alloc (.cells #[.int .i64 0, .int .i64 0, .int .i64 0, .int .i64 0, .int .i64 0, .int .i64 0] 23)) w4 := by rw [hsame4]; exact Below.refl _ _
  clear hsame4
  replace K0 := (K0.alloc (.cells #[.int .i64 0, .int .i64 0, .int .i64 0, .int .i64 0, .int .i64 0, .int .i64 0] 23)).below hb4 (by first | exact lK0 | (have := lK0; simp; omega))
  replace Km := (Km.alloc (.cells #[.int .i64 0, .int .i64 0, .int .i64 0, .int .i64 0, .int .i64 0, .int .i64 0] 23)).below hb4 (by first | exact lKm | (have := lKm; simp; omega))
  have Ks := (Blk.new w3 23 #[.int .i64 0, .int .i64 0, .int .i64 0, .int .i64 0, .int .i64 0, .int .i64 0]).below hb4 (by simp)
  replace hbw : Below w.heap.size w w4 := btrans (by (repeat' (first | refine bset ?_ (by first | omega | (simp <;> omega)) _ | refine balloc ?_ _ | refine Below.drew ?_ | refine below_drewN ?_ _ | exact hbw | exact Below.refl _ _))) hb4
  clear hb4 lK0 cK00 cK01 cK02 cK03 cK04 cK05 lKm cKm0 cKm1 cKm2 cKm3 cKm4 cKm5
  have lK0 := K0.lt
  have cK00 := K0.cell 0
  have cK01 := K0.cell 1
  have cK02 := K0.cell 2
  have cK03 := K0.cell 3
  have cK04 := K0.cell 4
  have cK05 := K0.cell 5
  have lKm := Km.lt
  have cKm0 := Km.cell 0
  have cKm1 := Km.cell 1
  have cKm2 := Km.cell 2
  have cKm3 := Km.cell 3
  have cKm4 := Km.cell 4
  have cKm5 := Km.cell 5
  have lKs := Ks.lt
  have cKs0 := Ks.cell 0
  have cKs1 := Ks.cell 1
  have cKs2 := Ks.cell 2
  have cKs3 := Ks.cell 3
  have cKs4 := Ks.cell 4
  have cKs5 := Ks.cell 5
  simp only [List.getElem?_toArray, List.getElem?_cons_succ, List.getElem?_cons_zero] at cK00 cK01 cK02 cK03 cK04 cK05 cKm0 cKm1 cKm2 cKm3 cKm4 cKm5 cKs0 cKs1 cKs2 cKs3 cKs4 cKs5
  go_wp2_with fail
  have uKm0 : ∀ u : Up w4, u.val.cell? ⟨w2.heap.size, 0, none⟩ = some (.int .i64 0) := fun u => (u.cell lKm).trans cKm0
  have uKm1 : ∀ u : Up w4, u.val.cell? ⟨w2.heap.size, 1, none⟩ = some (.int .i64 0) := fun u => (u.cell lKm).trans cKm1
  have uKm2 : ∀ u : Up w4, u.val.cell? ⟨w2.heap.size, 2, none⟩ = some (.int .i64 0) := fun u => (u.cell lKm).trans cKm2
  have uKm3 : ∀ u : Up w4, u.val.cell? ⟨w2.heap.size, 3, none⟩ = some (.int .i64 0) := fun u => (u.cell lKm).trans cKm3
  have uKm4 : ∀ u : Up w4, u.val.cell? ⟨w2.heap.size, 4, none⟩ = some (.int .i64 0) := fun u => (u.cell lKm).trans cKm4
  have uKm5 : ∀ u : Up w4, u.val.cell? ⟨w2.heap.size, 5, none⟩ = some (.int .i64 0) := fun u => (u.cell lKm).trans cKm5
  have uKs0 : ∀ u : Up w4, u.val.cell? ⟨w3.heap.size, 0, none⟩ = some (.int .i64 0) := fun u => (u.cell lKs).trans cKs0
  have uKs1 : ∀ u : Up w4, u.val.cell? ⟨w3.heap.size, 1, none⟩ = some (.int .i64 0) := fun u => (u.cell lKs).trans cKs1
  have uKs2 : ∀ u : Up w4, u.val.cell? ⟨w3.heap.size, 2, none⟩ = some (.int .i64 0) := fun u => (u.cell lKs).trans cKs2
  have uKs3 : ∀ u : Up w4, u.val.cell? ⟨w3.heap.size, 3, none⟩ = some (.int .i64 0) := fun u => (u.cell lKs).trans cKs3
  have uKs4 : ∀ u : Up w4, u.val.cell? ⟨w3.heap.size, 4, none⟩ = some (.int .i64 0) := fun u => (u.cell lKs).trans cKs4
  have uKs5 : ∀ u : Up w4, u.val.cell? ⟨w3.heap.size, 5, none⟩ = some (.int .i64 0) := fun u => (u.cell lKs).trans cKs5
  refine wp_region_up (by kernel_rfl) (by kernel_rfl) ?_
  repeat (go_big_quiet_step (fail))
  refine wpQuiet_nil ?_
  rintro _ ⟨uq, rfl⟩
  replace hbw := btrans hbw uq.ok
  replace K0 := K0.below uq.ok lK0
  generalize hwx : uq.val = wy at *
  clear hwx uq Km Ks uKm0 uKs0 cKm0 cKs0 cK00 uKm1 uKs1 cKm1 cKs1 cK01 uKm2 uKs2 cKm2 cKs2 cK02 uKm3 uKs3 cKm3 cKs3 cK03 uKm4 uKs4 cKm4 cKs4 cK04 uKm5 uKs5 cKm5 cKs5 cK05 lK0 lKm lKs
  have lK0 := K0.lt
  have cK00 := K0.cell 0
  have cK01 := K0.cell 1
  have cK02 := K0.cell 2
  have cK03 := K0.cell 3
  have cK04 := K0.cell 4
  have cK05 := K0.cell 5
  simp only [List.getElem?_toArray, List.getElem?_cons_succ, List.getElem?_cons_zero] at cK00 cK01 cK02 cK03 cK04 cK05
  go_wp2_with fail
  refine (H5.out _).mono ?_
  rintro e_ w5 ⟨rfl, hb5⟩
  replace K0 := K0.below hb5 (by first | exact lK0 | (have := lK0; simp; omega))
  replace hbw : Below w.heap.size w w5 := btrans (by (repeat' (first | refine bset ?_ (by first | omega | (simp <;> omega)) _ | refine balloc ?_ _ | refine Below.drew ?_ | refine below_drewN ?_ _ | exact hbw | exact Below.refl _ _))) hb5
  clear hb5 lK0 cK00 cK01 cK02 cK03 cK04 cK05
  have lK0 := K0.lt
  have cK00 := K0.cell 0
  have cK01 := K0.cell 1
  have cK02 := K0.cell 2
  have cK03 := K0.cell 3
  have cK04 := K0.cell 4
  have cK05 := K0.cell 5
  simp only [List.getElem?_toArray, List.getElem?_cons_succ, List.getElem?_cons_zero] at cK00 cK01 cK02 cK03 cK04 cK05
  go_wp2_with fail
  replace K0 := K0.alloc (.cells #[.int .i64 1048576, .int .i64 0, .int .i64 0, .int .i64 (-1048576), .int .i64 0, .int .i64 F0] 23)
  have Kd := Blk.new w5 23 #[.int .i64 1048576, .int .i64 0, .int .i64 0, .int .i64 (-1048576), .int .i64 0, .int .i64 F0]
  replace hbw : Below w.heap.size w (w5.alloc (.cells #[.int .i64 1048576, .int .i64 0, .int .i64 0, .int .i64 (-1048576), .int .i64 0, .int .i64 F0] 23)) := by (repeat' (first | exact hbw | exact Below.refl _ _ | refine balloc ?_ _ | refine Below.drew ?_ | refine below_drewN ?_ _ | refine bset ?_ (by first | omega | (simp <;> omega)) _))
  obtain ⟨Pd, hPd⟩ : ∃ P, w5.heap.size = P := ⟨_, rfl⟩
  rw [hPd] at Kd ⊢
  generalize hwx : (w5.alloc (.cells #[.int .i64 1048576, .int .i64 0, .int .i64 0, .int .i64 (-1048576), .int .i64 0, .int .i64 F0] 23)) = wz at *
  clear hwx hPd lK0 cK00 cK01 cK02 cK03 cK04 cK05
  have lK0 := K0.lt
  have cK00 := K0.cell 0
  have cK01 := K0.cell 1
  have cK02 := K0.cell 2
  have cK03 := K0.cell 3
  have cK04 := K0.cell 4
  have cK05 := K0.cell 5
  have lKd := Kd.lt
  have cKd0 := Kd.cell 0
  have cKd1 := Kd.cell 1
  have cKd2 := Kd.cell 2
  have cKd3 := Kd.cell 3
  have cKd4 := Kd.cell 4
  have cKd5 := Kd.cell 5
  simp only [List.getElem?_toArray, List.getElem?_cons_succ, List.getElem?_cons_zero] at cK00 cKd0 cK01 cKd1 cK02 cKd2 cK03 cKd3 cK04 cKd4 cK05 cKd5
  have HU6 := Lib.hid (fun u : Up wz => up_same (u := u) (H6.out u.val))
  have HU7 := Lib.hid (fun u : Up wz => up_of (u := u) (H7.out u.val))
  have uKd0 : ∀ u : Up wz, u.val.cell? ⟨Pd, 0, none⟩ = some (.int .i64 1048576) := fun u => (u.cell lKd).trans cKd0
  have uKd1 : ∀ u : Up wz, u.val.cell? ⟨Pd, 1, none⟩ = some (.int .i64 0) := fun u => (u.cell lKd).trans cKd1
  have uKd2 : ∀ u : Up wz, u.val.cell? ⟨Pd, 2, none⟩ = some (.int .i64 0) := fun u => (u.cell lKd).trans cKd2
  have uKd3 : ∀ u : Up wz, u.val.cell? ⟨Pd, 3, none⟩ = some (.int .i64 (-1048576)) := fun u => (u.cell lKd).trans cKd3
  have uKd4 : ∀ u : Up wz, u.val.cell? ⟨Pd, 4, none⟩ = some (.int .i64 0) := fun u => (u.cell lKd).trans cKd4
  have uKd5 : ∀ u : Up wz, u.val.cell? ⟨Pd, 5, none⟩ = some (.int .i64 F0) := fun u => (u.cell lKd).trans cKd5
  refine wp_region_up (by kernel_rfl) (by kernel_rfl) ?_
  repeat (go_big_quiet_step (fail))
  go_big_quiet_step (exact HU6.out _)
  repeat (go_big_quiet_step (fail))
  go_big_quiet_step (exact HU7.out _)
  repeat (go_big_quiet_step (fail))
  go_big_quiet_step (exact HU6.out _)
  repeat (go_big_quiet_step (fail))
  refine wpQuiet_nil ?_
  rintro _ ⟨uq, rfl⟩
  replace hbw := btrans hbw uq.ok
  replace K0 := K0.below uq.ok lK0
  generalize hwx : uq.val = wt at *
  clear hwx uq Kd HU6 HU7 uKd0 cKd0 cK00 uKd1 cKd1 cK01 uKd2 cKd2 cK02 uKd3 cKd3 cK03 uKd4 cKd4 cK04 uKd5 cKd5 cK05 lK0 lKd
  have lK0 := K0.lt
  have cK00 := K0.cell 0
  have cK01 := K0.cell 1
  have cK02 := K0.cell 2
  have cK03 := K0.cell 3
  have cK04 := K0.cell 4
  have cK05 := K0.cell 5
  simp only [List.getElem?_toArray, List.getElem?_cons_succ, List.getElem?_cons_zero] at cK00 cK01 cK02 cK03 cK04 cK05
  go_wp2_with fail
  refine (H8.out _).mono ?_
  rintro e_ w6 ⟨rfl, hb6⟩
  replace K0 := K0.below hb6 (by first | exact lK0 | (have := lK0; simp; omega))
  replace hbw : Below w.heap.size w w6 := btrans (by (repeat' (first | refine bset ?_ (by first | omega | (simp <;> omega)) _ | refine balloc ?_ _ | refine Below.drew ?_ | refine below_drewN ?_ _ | exact hbw | exact Below.refl _ _))) hb6
  clear hb6 lK0 cK00 cK01 cK02 cK03 cK04 cK05
  have lK0 := K0.lt
  have cK00 := K0.cell 0
  have cK01 := K0.cell 1
  have cK02 := K0.cell 2
  have cK03 := K0.cell 3
  have cK04 := K0.cell 4
  have cK05 := K0.cell 5
  simp only [List.getElem?_toArray, List.getElem?_cons_succ, List.getElem?_cons_zero] at cK00 cK01 cK02 cK03 cK04 cK05
  go_wp2_with fail
  refine (H9.out _).mono ?_
  rintro e_ w7 ⟨rfl, hb7⟩
  replace K0 := K0.below hb7 (by first | exact lK0 | (have := lK0; simp; omega))
  replace hbw : Below w.heap.size w w7 := btrans (by (repeat' (first | refine bset ?_ (by first | omega | (simp <;> omega)) _ | refine balloc ?_ _ | refine Below.drew ?_ | refine below_drewN ?_ _ | exact hbw | exact Below.refl _ _))) hb7
  clear hb7 lK0 cK00 cK01 cK02 cK03 cK04 cK05
  have lK0 := K0.lt
  have cK00 := K0.cell 0
  have cK01 := K0.cell 1
  have cK02 := K0.cell 2
  have cK03 := K0.cell 3
  have cK04 := K0.cell 4
  have cK05 := K0.cell 5
  simp only [List.getElem?_toArray, List.getElem?_cons_succ, List.getElem?_cons_zero] at cK00 cK01 cK02 cK03 cK04 cK05
  go_wp2_with fail
  refine (one_any _).mono ?_
  rintro e_ w8 ⟨rfl, hb8⟩
  replace K0 := K0.below hb8 (by first | exact lK0 | (have := lK0; simp; omega))
  replace hbw : Below w.heap.size w w8 := btrans (by (repeat' (first | refine bset ?_ (by first | omega | (simp <;> omega)) _ | refine balloc ?_ _ | refine Below.drew ?_ | refine below_drewN ?_ _ | exact hbw | exact Below.refl _ _))) hb8
  clear hb8 lK0 cK00 cK01 cK02 cK03 cK04 cK05
  have lK0 := K0.lt
  have cK00 := K0.cell 0
  have cK01 := K0.cell 1
  have cK02 := K0.cell 2
  have cK03 := K0.cell 3
  have cK04 := K0.cell 4
  have cK05 := K0.cell 5
  simp only [List.getElem?_toArray, List.getElem?_cons_succ, List.getElem?_cons_zero] at cK00 cK01 cK02 cK03 cK04 cK05
  go_wp2_with fail
  refine (HWh.out _).mono ?_
  rintro e_ w9 ⟨rfl, hb9⟩
  replace K0 := K0.below hb9 (by first | exact lK0 | (have := lK0; simp; omega))
  replace hbw : Below w.heap.size w w9 := btrans (by (repeat' (first | refine bset ?_ (by first | omega | (simp <;> omega)) _ | refine balloc ?_ _ | refine Below.drew ?_ | refine below_drewN ?_ _ | exact hbw | exact Below.refl _ _))) hb9
  clear hb9 lK0 cK00 cK01 cK02 cK03 cK04 cK05
  have lK0 := K0.lt
  have cK00 := K0.cell 0
  have cK01 := K0.cell 1
  have cK02 := K0.cell 2
  have cK03 := K0.cell 3
  have cK04 := K0.cell 4
  have cK05 := K0.cell 5
  simp only [List.getElem?_toArray, List.getElem?_cons_succ, List.getElem?_cons_zero] at cK00 cK01 cK02 cK03 cK04 cK05
  go_wp2_with fail
  go_ret
  exact ⟨rfl, hbw⟩

set_option maxRecDepth 100000 in
set_option maxHeartbeats 3200000 in
theorem makes_no (A B C D E F x y F0 s t : Int) (w : World)
    (h1 : ∀ W, Calls Try.prog 16 #[.int .i64 x, .int .i64 y] W fun ed w' => ed = .returned (.tuple #[.agg #[.int .i64 0, .int .i64 0, .int .i64 0, .int .i64 0, .int .i64 0, .int .i64 0], .int .i64 1]) ∧ Below W.heap.size W w')
    (h2 : ∀ W, Calls Try.prog 17 #[.int .i64 x, .int .i64 y] W fun ed w' => ed = .returned (.tuple #[.agg #[.int .i64 0, .int .i64 0, .int .i64 0, .int .i64 0, .int .i64 0, .int .i64 0], .int .i64 1]) ∧ Below W.heap.size W w')
    (h3 : ∀ W, Calls Try.prog 18 #[.int .i64 x] W fun ed w' => ed = .returned (.bool false) ∧ W = w')
    
    (h5 : ∀ W, Calls Try.prog 21 #[.int .i64 x] W fun ed w' => ed = .returned (.tuple #[.agg #[.int .i64 0, .int .i64 0, .int .i64 0, .int .i64 0, .int .i64 0, .int .i64 0], .int .i64 1]) ∧ Below W.heap.size W w')
    (h6 : ∀ W, Calls Try.prog 22 #[.int .i64 x] W fun ed w' => ed = .returned (.bool false) ∧ W = w')
    
    (h8 : ∀ W, Calls Try.prog 24 #[.agg #[.int .i64 A, .int .i64 B, .int .i64 C, .int .i64 D, .int .i64 E, .int .i64 F], .int .i64 y] W fun ed w' => ed = .returned (.tuple #[.int .i64 s, .int .i64 t]) ∧ Below W.heap.size W w') (h9 : ∀ W, Calls Try.prog 25 #[.agg #[.int .i64 A, .int .i64 B, .int .i64 C, .int .i64 D, .int .i64 E, .int .i64 F], .int .i64 y] W fun ed w' => ed = .returned (.tuple #[.int .i64 s, .int .i64 t]) ∧ Below W.heap.size W w') :
    Calls Try.prog 3 #[.agg #[.int .i64 A, .int .i64 B, .int .i64 C, .int .i64 D, .int .i64 E, .int .i64 F], .int .i64 x, .int .i64 y] w fun ed w' => ed = .returned (.bool true) ∧ Below w.heap.size w w' := by
  have H1 := Lib.hid h1
  clear h1
  have H2 := Lib.hid h2
  clear h2
  have H3 := Lib.hid h3
  clear h3
  have H5 := Lib.hid h5
  clear h5
  have H6 := Lib.hid h6
  clear h6
  have H8 := Lib.hid h8
  clear h8
  have H9 := Lib.hid h9
  clear h9
  have HWh := Lib.hid (fun W => show Calls Try.prog 27 #[.int .i64 1, .int .i64 0, .int .i64 0, .int .i64 1, .int .i64 0, .int .i64 0] W fun ed w' => ed = .returned (.agg #[.int .i64 65536, .int .i64 0, .int .i64 0, .int .i64 65536, .int .i64 0, .int .i64 0]) ∧ Below W.heap.size W w' by exact Whole_any 1 0 0 1 0 0 W (by omega) (by omega) (by omega) (by omega) (by omega) (by omega))
  have JG := guard_mat
  have JN := guard_mat_ne
  have J3 : ∀ w, (binOp .neq 23 (.agg #[.int .i64 0, .int .i64 0, .int .i64 0, .int .i64 0, .int .i64 0, .int .i64 0]) (.agg #[.int .i64 0, .int .i64 0, .int .i64 0, .int .i64 0, .int .i64 0, .int .i64 0])).run Try.prog w = .ok (.bool false) w := fun w => by
    have := ne_mat 0 0 0 0 0 0 0 0 0 0 0 0 w
    rw [eqB_refl] at this
    exact this
  have J5 : ∀ w, (binOp .eql 23 (.agg #[.int .i64 65536, .int .i64 0, .int .i64 0, .int .i64 65536, .int .i64 0, .int .i64 0]) (.agg #[.int .i64 65536, .int .i64 0, .int .i64 0, .int .i64 65536, .int .i64 0, .int .i64 0])).run Try.prog w = .ok (.bool true) w := fun w => eq_mat 65536 0 0 65536 0 0 65536 0 0 65536 0 0 w
  go_enter Try.func3, Try.ntmps3
  go_wp2_with fail
  refine (known_any _).mono ?_
  rintro e_ w1 ⟨rfl, hb1⟩
  have K0 := (Blk.new w 23 #[.int .i64 A, .int .i64 B, .int .i64 C, .int .i64 D, .int .i64 E, .int .i64 F]).below hb1 (by simp)
  have hbw : Below w.heap.size w w1 := btrans (by (repeat' (first | exact Below.refl _ _ | exact Below.refl _ _ | refine balloc ?_ _ | refine Below.drew ?_ | refine below_drewN ?_ _ | refine bset ?_ (by first | omega | (simp <;> omega)) _))) hb1
  clear hb1
  have lK0 := K0.lt
  have cK00 := K0.cell 0
  have cK01 := K0.cell 1
  have cK02 := K0.cell 2
  have cK03 := K0.cell 3
  have cK04 := K0.cell 4
  have cK05 := K0.cell 5
  simp only [List.getElem?_toArray, List.getElem?_cons_succ, List.getElem?_cons_zero] at cK00 cK01 cK02 cK03 cK04 cK05
  go_wp2_with fail
  refine (H1.out _).mono ?_
  rintro e_ w2 ⟨rfl, hb2⟩
  replace K0 := K0.below hb2 (by first | exact lK0 | (have := lK0; simp; omega))
  replace hbw : Below w.heap.size w w2 := btrans (by (repeat' (first | refine bset ?_ (by first | omega | (simp <;> omega)) _ | refine balloc ?_ _ | refine Below.drew ?_ | refine below_drewN ?_ _ | exact hbw | exact Below.refl _ _))) hb2
  clear hb2 lK0 cK00 cK01 cK02 cK03 cK04 cK05
  have lK0 := K0.lt
  have cK00 := K0.cell 0
  have cK01 := K0.cell 1
  have cK02 := K0.cell 2
  have cK03 := K0.cell 3
  have cK04 := K0.cell 4
  have cK05 := K0.cell 5
  simp only [List.getElem?_toArray, List.getElem?_cons_succ, List.getElem?_cons_zero] at cK00 cK01 cK02 cK03 cK04 cK05
  go_wp2_with fail
  refine (H2.out _).mono ?_
  rintro e_ w3 ⟨rfl, hb3⟩
  replace K0 := (K0.alloc (.cells #[.int .i64 0, .int .i64 0, .int .i64 0, .int .i64 0, .int .i64 0, .int .i64 0] 23)).below hb3 (by first | exact lK0 | (have := lK0; simp; omega))
  have Km := (Blk.new w2 23 #[.int .i64 0, .int .i64 0, .int .i64 0, .int .i64 0, .int .i64 0, .int .i64 0]).below hb3 (by simp)
  replace hbw : Below w.heap.size w w3 := btrans (by (repeat' (first | refine bset ?_ (by first | omega | (simp <;> omega)) _ | refine balloc ?_ _ | refine Below.drew ?_ | refine below_drewN ?_ _ | exact hbw | exact Below.refl _ _))) hb3
  clear hb3 lK0 cK00 cK01 cK02 cK03 cK04 cK05
  have lK0 := K0.lt
  have cK00 := K0.cell 0
  have cK01 := K0.cell 1
  have cK02 := K0.cell 2
  have cK03 := K0.cell 3
  have cK04 := K0.cell 4
  have cK05 := K0.cell 5
  have lKm := Km.lt
  have cKm0 := Km.cell 0
  have cKm1 := Km.cell 1
  have cKm2 := Km.cell 2
  have cKm3 := Km.cell 3
  have cKm4 := Km.cell 4
  have cKm5 := Km.cell 5
  simp only [List.getElem?_toArray, List.getElem?_cons_succ, List.getElem?_cons_zero] at cK00 cK01 cK02 cK03 cK04 cK05 cKm0 cKm1 cKm2 cKm3 cKm4 cKm5
  go_wp2_with fail
  refine (H3.out _).mono ?_
  rintro e_ w4 ⟨rfl, hsame4⟩
  have hb4 : Below (w3.alloc (.cells #[.int .i64 0, .int .i64 0, .int .i64 0, .int .i64 0, .int .i64 0, .int .i64 0] 23)).heap.size (w3.alloc (.cells #[.int .i64 0, .int .i64 0, .int .i64 0, .int .i64 0, .int .i64 0, .int .i64 0] 23)) w4 := by rw [hsame4]; exact Below.refl _ _
  clear hsame4
  replace K0 := (K0.alloc (.cells #[.int .i64 0, .int .i64 0, .int .i64 0, .int .i64 0, .int .i64 0, .int .i64 0] 23)).below hb4 (by first | exact lK0 | (have := lK0; simp; omega))
  replace Km := (Km.alloc (.cells #[.int .i64 0, .int .i64 0, .int .i64 0, .int .i64 0, .int .i64 0, .int .i64 0] 23)).below hb4 (by first | exact lKm | (have := lKm; simp; omega))
  have Ks := (Blk.new w3 23 #[.int .i64 0, .int .i64 0, .int .i64 0, .int .i64 0, .int .i64 0, .int .i64 0]).below hb4 (by simp)
  replace hbw : Below w.heap.size w w4 := btrans (by (repeat' (first | refine bset ?_ (by first | omega | (simp <;> omega)) _ | refine balloc ?_ _ | refine Below.drew ?_ | refine below_drewN ?_ _ | exact hbw | exact Below.refl _ _))) hb4
  clear hb4 lK0 cK00 cK01 cK02 cK03 cK04 cK05 lKm cKm0 cKm1 cKm2 cKm3 cKm4 cKm5
  have lK0 := K0.lt
  have cK00 := K0.cell 0
  have cK01 := K0.cell 1
  have cK02 := K0.cell 2
  have cK03 := K0.cell 3
  have cK04 := K0.cell 4
  have cK05 := K0.cell 5
  have lKm := Km.lt
  have cKm0 := Km.cell 0
  have cKm1 := Km.cell 1
  have cKm2 := Km.cell 2
  have cKm3 := Km.cell 3
  have cKm4 := Km.cell 4
  have cKm5 := Km.cell 5
  have lKs := Ks.lt
  have cKs0 := Ks.cell 0
  have cKs1 := Ks.cell 1
  have cKs2 := Ks.cell 2
  have cKs3 := Ks.cell 3
  have cKs4 := Ks.cell 4
  have cKs5 := Ks.cell 5
  simp only [List.getElem?_toArray, List.getElem?_cons_succ, List.getElem?_cons_zero] at cK00 cK01 cK02 cK03 cK04 cK05 cKm0 cKm1 cKm2 cKm3 cKm4 cKm5 cKs0 cKs1 cKs2 cKs3 cKs4 cKs5
  go_wp2_with fail
  have uKm0 : ∀ u : Up w4, u.val.cell? ⟨w2.heap.size, 0, none⟩ = some (.int .i64 0) := fun u => (u.cell lKm).trans cKm0
  have uKm1 : ∀ u : Up w4, u.val.cell? ⟨w2.heap.size, 1, none⟩ = some (.int .i64 0) := fun u => (u.cell lKm).trans cKm1
  have uKm2 : ∀ u : Up w4, u.val.cell? ⟨w2.heap.size, 2, none⟩ = some (.int .i64 0) := fun u => (u.cell lKm).trans cKm2
  have uKm3 : ∀ u : Up w4, u.val.cell? ⟨w2.heap.size, 3, none⟩ = some (.int .i64 0) := fun u => (u.cell lKm).trans cKm3
  have uKm4 : ∀ u : Up w4, u.val.cell? ⟨w2.heap.size, 4, none⟩ = some (.int .i64 0) := fun u => (u.cell lKm).trans cKm4
  have uKm5 : ∀ u : Up w4, u.val.cell? ⟨w2.heap.size, 5, none⟩ = some (.int .i64 0) := fun u => (u.cell lKm).trans cKm5
  have uKs0 : ∀ u : Up w4, u.val.cell? ⟨w3.heap.size, 0, none⟩ = some (.int .i64 0) := fun u => (u.cell lKs).trans cKs0
  have uKs1 : ∀ u : Up w4, u.val.cell? ⟨w3.heap.size, 1, none⟩ = some (.int .i64 0) := fun u => (u.cell lKs).trans cKs1
  have uKs2 : ∀ u : Up w4, u.val.cell? ⟨w3.heap.size, 2, none⟩ = some (.int .i64 0) := fun u => (u.cell lKs).trans cKs2
  have uKs3 : ∀ u : Up w4, u.val.cell? ⟨w3.heap.size, 3, none⟩ = some (.int .i64 0) := fun u => (u.cell lKs).trans cKs3
  have uKs4 : ∀ u : Up w4, u.val.cell? ⟨w3.heap.size, 4, none⟩ = some (.int .i64 0) := fun u => (u.cell lKs).trans cKs4
  have uKs5 : ∀ u : Up w4, u.val.cell? ⟨w3.heap.size, 5, none⟩ = some (.int .i64 0) := fun u => (u.cell lKs).trans cKs5
  refine wp_region_up (by kernel_rfl) (by kernel_rfl) ?_
  repeat (go_big_quiet_step (fail))
  refine wpQuiet_nil ?_
  rintro _ ⟨uq, rfl⟩
  replace hbw := btrans hbw uq.ok
  replace K0 := K0.below uq.ok lK0
  generalize hwx : uq.val = wy at *
  clear hwx uq Km Ks uKm0 uKs0 cKm0 cKs0 cK00 uKm1 uKs1 cKm1 cKs1 cK01 uKm2 uKs2 cKm2 cKs2 cK02 uKm3 uKs3 cKm3 cKs3 cK03 uKm4 uKs4 cKm4 cKs4 cK04 uKm5 uKs5 cKm5 cKs5 cK05 lK0 lKm lKs
  have lK0 := K0.lt
  have cK00 := K0.cell 0
  have cK01 := K0.cell 1
  have cK02 := K0.cell 2
  have cK03 := K0.cell 3
  have cK04 := K0.cell 4
  have cK05 := K0.cell 5
  simp only [List.getElem?_toArray, List.getElem?_cons_succ, List.getElem?_cons_zero] at cK00 cK01 cK02 cK03 cK04 cK05
  go_wp2_with fail
  refine (H5.out _).mono ?_
  rintro e_ w5 ⟨rfl, hb5⟩
  replace K0 := K0.below hb5 (by first | exact lK0 | (have := lK0; simp; omega))
  replace hbw : Below w.heap.size w w5 := btrans (by (repeat' (first | refine bset ?_ (by first | omega | (simp <;> omega)) _ | refine balloc ?_ _ | refine Below.drew ?_ | refine below_drewN ?_ _ | exact hbw | exact Below.refl _ _))) hb5
  clear hb5 lK0 cK00 cK01 cK02 cK03 cK04 cK05
  have lK0 := K0.lt
  have cK00 := K0.cell 0
  have cK01 := K0.cell 1
  have cK02 := K0.cell 2
  have cK03 := K0.cell 3
  have cK04 := K0.cell 4
  have cK05 := K0.cell 5
  simp only [List.getElem?_toArray, List.getElem?_cons_succ, List.getElem?_cons_zero] at cK00 cK01 cK02 cK03 cK04 cK05
  go_wp2_with fail
  replace K0 := K0.alloc (.cells #[.int .i64 0, .int .i64 0, .int .i64 0, .int .i64 0, .int .i64 0, .int .i64 0] 23)
  have Kd := Blk.new w5 23 #[.int .i64 0, .int .i64 0, .int .i64 0, .int .i64 0, .int .i64 0, .int .i64 0]
  replace hbw : Below w.heap.size w (w5.alloc (.cells #[.int .i64 0, .int .i64 0, .int .i64 0, .int .i64 0, .int .i64 0, .int .i64 0] 23)) := by (repeat' (first | exact hbw | exact Below.refl _ _ | refine balloc ?_ _ | refine Below.drew ?_ | refine below_drewN ?_ _ | refine bset ?_ (by first | omega | (simp <;> omega)) _))
  obtain ⟨Pd, hPd⟩ : ∃ P, w5.heap.size = P := ⟨_, rfl⟩
  rw [hPd] at Kd ⊢
  generalize hwx : (w5.alloc (.cells #[.int .i64 0, .int .i64 0, .int .i64 0, .int .i64 0, .int .i64 0, .int .i64 0] 23)) = wz at *
  clear hwx hPd lK0 cK00 cK01 cK02 cK03 cK04 cK05
  have lK0 := K0.lt
  have cK00 := K0.cell 0
  have cK01 := K0.cell 1
  have cK02 := K0.cell 2
  have cK03 := K0.cell 3
  have cK04 := K0.cell 4
  have cK05 := K0.cell 5
  have lKd := Kd.lt
  have cKd0 := Kd.cell 0
  have cKd1 := Kd.cell 1
  have cKd2 := Kd.cell 2
  have cKd3 := Kd.cell 3
  have cKd4 := Kd.cell 4
  have cKd5 := Kd.cell 5
  simp only [List.getElem?_toArray, List.getElem?_cons_succ, List.getElem?_cons_zero] at cK00 cKd0 cK01 cKd1 cK02 cKd2 cK03 cKd3 cK04 cKd4 cK05 cKd5
  have HU6 := Lib.hid (fun u : Up wz => up_same (u := u) (H6.out u.val))
  have uKd0 : ∀ u : Up wz, u.val.cell? ⟨Pd, 0, none⟩ = some (.int .i64 0) := fun u => (u.cell lKd).trans cKd0
  have uKd1 : ∀ u : Up wz, u.val.cell? ⟨Pd, 1, none⟩ = some (.int .i64 0) := fun u => (u.cell lKd).trans cKd1
  have uKd2 : ∀ u : Up wz, u.val.cell? ⟨Pd, 2, none⟩ = some (.int .i64 0) := fun u => (u.cell lKd).trans cKd2
  have uKd3 : ∀ u : Up wz, u.val.cell? ⟨Pd, 3, none⟩ = some (.int .i64 0) := fun u => (u.cell lKd).trans cKd3
  have uKd4 : ∀ u : Up wz, u.val.cell? ⟨Pd, 4, none⟩ = some (.int .i64 0) := fun u => (u.cell lKd).trans cKd4
  have uKd5 : ∀ u : Up wz, u.val.cell? ⟨Pd, 5, none⟩ = some (.int .i64 0) := fun u => (u.cell lKd).trans cKd5
  refine wp_region_up (by kernel_rfl) (by kernel_rfl) ?_
  repeat (go_big_quiet_step (fail))
  go_big_quiet_step (exact HU6.out _)
  repeat (go_big_quiet_step (fail))
  go_big_quiet_step (exact HU6.out _)
  repeat (go_big_quiet_step (fail))
  refine wpQuiet_nil ?_
  rintro _ ⟨uq, rfl⟩
  replace hbw := btrans hbw uq.ok
  replace K0 := K0.below uq.ok lK0
  generalize hwx : uq.val = wt at *
  clear hwx uq Kd HU6 uKd0 cKd0 cK00 uKd1 cKd1 cK01 uKd2 cKd2 cK02 uKd3 cKd3 cK03 uKd4 cKd4 cK04 uKd5 cKd5 cK05 lK0 lKd
  have lK0 := K0.lt
  have cK00 := K0.cell 0
  have cK01 := K0.cell 1
  have cK02 := K0.cell 2
  have cK03 := K0.cell 3
  have cK04 := K0.cell 4
  have cK05 := K0.cell 5
  simp only [List.getElem?_toArray, List.getElem?_cons_succ, List.getElem?_cons_zero] at cK00 cK01 cK02 cK03 cK04 cK05
  go_wp2_with fail
  refine (H8.out _).mono ?_
  rintro e_ w6 ⟨rfl, hb6⟩
  replace K0 := K0.below hb6 (by first | exact lK0 | (have := lK0; simp; omega))
  replace hbw : Below w.heap.size w w6 := btrans (by (repeat' (first | refine bset ?_ (by first | omega | (simp <;> omega)) _ | refine balloc ?_ _ | refine Below.drew ?_ | refine below_drewN ?_ _ | exact hbw | exact Below.refl _ _))) hb6
  clear hb6 lK0 cK00 cK01 cK02 cK03 cK04 cK05
  have lK0 := K0.lt
  have cK00 := K0.cell 0
  have cK01 := K0.cell 1
  have cK02 := K0.cell 2
  have cK03 := K0.cell 3
  have cK04 := K0.cell 4
  have cK05 := K0.cell 5
  simp only [List.getElem?_toArray, List.getElem?_cons_succ, List.getElem?_cons_zero] at cK00 cK01 cK02 cK03 cK04 cK05
  go_wp2_with fail
  refine (H9.out _).mono ?_
  rintro e_ w7 ⟨rfl, hb7⟩
  replace K0 := K0.below hb7 (by first | exact lK0 | (have := lK0; simp; omega))
  replace hbw : Below w.heap.size w w7 := btrans (by (repeat' (first | refine bset ?_ (by first | omega | (simp <;> omega)) _ | refine balloc ?_ _ | refine Below.drew ?_ | refine below_drewN ?_ _ | exact hbw | exact Below.refl _ _))) hb7
  clear hb7 lK0 cK00 cK01 cK02 cK03 cK04 cK05
  have lK0 := K0.lt
  have cK00 := K0.cell 0
  have cK01 := K0.cell 1
  have cK02 := K0.cell 2
  have cK03 := K0.cell 3
  have cK04 := K0.cell 4
  have cK05 := K0.cell 5
  simp only [List.getElem?_toArray, List.getElem?_cons_succ, List.getElem?_cons_zero] at cK00 cK01 cK02 cK03 cK04 cK05
  go_wp2_with fail
  refine (one_any _).mono ?_
  rintro e_ w8 ⟨rfl, hb8⟩
  replace K0 := K0.below hb8 (by first | exact lK0 | (have := lK0; simp; omega))
  replace hbw : Below w.heap.size w w8 := btrans (by (repeat' (first | refine bset ?_ (by first | omega | (simp <;> omega)) _ | refine balloc ?_ _ | refine Below.drew ?_ | refine below_drewN ?_ _ | exact hbw | exact Below.refl _ _))) hb8
  clear hb8 lK0 cK00 cK01 cK02 cK03 cK04 cK05
  have lK0 := K0.lt
  have cK00 := K0.cell 0
  have cK01 := K0.cell 1
  have cK02 := K0.cell 2
  have cK03 := K0.cell 3
  have cK04 := K0.cell 4
  have cK05 := K0.cell 5
  simp only [List.getElem?_toArray, List.getElem?_cons_succ, List.getElem?_cons_zero] at cK00 cK01 cK02 cK03 cK04 cK05
  go_wp2_with fail
  refine (HWh.out _).mono ?_
  rintro e_ w9 ⟨rfl, hb9⟩
  replace K0 := K0.below hb9 (by first | exact lK0 | (have := lK0; simp; omega))
  replace hbw : Below w.heap.size w w9 := btrans (by (repeat' (first | refine bset ?_ (by first | omega | (simp <;> omega)) _ | refine balloc ?_ _ | refine Below.drew ?_ | refine below_drewN ?_ _ | exact hbw | exact Below.refl _ _))) hb9
  clear hb9 lK0 cK00 cK01 cK02 cK03 cK04 cK05
  have lK0 := K0.lt
  have cK00 := K0.cell 0
  have cK01 := K0.cell 1
  have cK02 := K0.cell 2
  have cK03 := K0.cell 3
  have cK04 := K0.cell 4
  have cK05 := K0.cell 5
  simp only [List.getElem?_toArray, List.getElem?_cons_succ, List.getElem?_cons_zero] at cK00 cK01 cK02 cK03 cK04 cK05
  go_wp2_with fail
  go_ret
  exact ⟨rfl, hbw⟩

set_option maxRecDepth 100000 in
set_option maxHeartbeats 3200000 in
theorem makes_ms (A B C D E F x y F0 s t : Int) (w : World)
    (h1 : ∀ W, Calls Try.prog 16 #[.int .i64 x, .int .i64 y] W fun ed w' => ed = .returned (.tuple #[.agg #[.int .i64 0, .int .i64 0, .int .i64 0, .int .i64 0, .int .i64 0, .int .i64 0], .int .i64 1]) ∧ Below W.heap.size W w')
    (h2 : ∀ W, Calls Try.prog 17 #[.int .i64 x, .int .i64 y] W fun ed w' => ed = .returned (.tuple #[.agg #[.int .i64 0, .int .i64 0, .int .i64 0, .int .i64 0, .int .i64 0, .int .i64 0], .int .i64 1]) ∧ Below W.heap.size W w')
    (h3 : ∀ W, Calls Try.prog 18 #[.int .i64 x] W fun ed w' => ed = .returned (.bool true) ∧ W = w')
    (h4 : ∀ W, Calls Try.prog 18 #[.int .i64 y] W fun ed w' => ed = .returned (.bool false) ∧ W = w')
    (h5 : ∀ W, Calls Try.prog 21 #[.int .i64 x] W fun ed w' => ed = .returned (.tuple #[.agg #[.int .i64 1048576, .int .i64 0, .int .i64 0, .int .i64 (-1048576), .int .i64 0, .int .i64 F0], .int .i64 0]) ∧ Below W.heap.size W w')
    (h6 : ∀ W, Calls Try.prog 22 #[.int .i64 x] W fun ed w' => ed = .returned (.bool true) ∧ W = w')
    (h7 : ∀ W, Calls Try.prog 23 #[.int .i64 x] W fun ed w' => ed = .returned (.agg #[.int .i64 1048576, .int .i64 0, .int .i64 0, .int .i64 (-1048576), .int .i64 0, .int .i64 F0]) ∧ Below W.heap.size W w')
    (h8 : ∀ W, Calls Try.prog 24 #[.agg #[.int .i64 A, .int .i64 B, .int .i64 C, .int .i64 D, .int .i64 E, .int .i64 F], .int .i64 y] W fun ed w' => ed = .returned (.tuple #[.int .i64 s, .int .i64 t]) ∧ Below W.heap.size W w') (h9 : ∀ W, Calls Try.prog 25 #[.agg #[.int .i64 A, .int .i64 B, .int .i64 C, .int .i64 D, .int .i64 E, .int .i64 F], .int .i64 y] W fun ed w' => ed = .returned (.tuple #[.int .i64 s, .int .i64 t]) ∧ Below W.heap.size W w') :
    Calls Try.prog 3 #[.agg #[.int .i64 A, .int .i64 B, .int .i64 C, .int .i64 D, .int .i64 E, .int .i64 F], .int .i64 x, .int .i64 y] w fun ed w' => ed = .returned (.bool true) ∧ Below w.heap.size w w' := by
  have H1 := Lib.hid h1
  clear h1
  have H2 := Lib.hid h2
  clear h2
  have H3 := Lib.hid h3
  clear h3
  have H4 := Lib.hid h4
  clear h4
  have H5 := Lib.hid h5
  clear h5
  have H6 := Lib.hid h6
  clear h6
  have H7 := Lib.hid h7
  clear h7
  have H8 := Lib.hid h8
  clear h8
  have H9 := Lib.hid h9
  clear h9
  have HWh := Lib.hid (fun W => show Calls Try.prog 27 #[.int .i64 1, .int .i64 0, .int .i64 0, .int .i64 1, .int .i64 0, .int .i64 0] W fun ed w' => ed = .returned (.agg #[.int .i64 65536, .int .i64 0, .int .i64 0, .int .i64 65536, .int .i64 0, .int .i64 0]) ∧ Below W.heap.size W w' by exact Whole_any 1 0 0 1 0 0 W (by omega) (by omega) (by omega) (by omega) (by omega) (by omega))
  have JG := guard_mat
  have JN := guard_mat_ne
  have J3 : ∀ w, (binOp .neq 23 (.agg #[.int .i64 0, .int .i64 0, .int .i64 0, .int .i64 0, .int .i64 0, .int .i64 0]) (.agg #[.int .i64 0, .int .i64 0, .int .i64 0, .int .i64 0, .int .i64 0, .int .i64 0])).run Try.prog w = .ok (.bool false) w := fun w => by
    have := ne_mat 0 0 0 0 0 0 0 0 0 0 0 0 w
    rw [eqB_refl] at this
    exact this
  have J4 : ∀ w, (binOp .neq 23 (.agg #[.int .i64 1048576, .int .i64 0, .int .i64 0, .int .i64 (-1048576), .int .i64 0, .int .i64 F0]) (.agg #[.int .i64 1048576, .int .i64 0, .int .i64 0, .int .i64 (-1048576), .int .i64 0, .int .i64 F0])).run Try.prog w = .ok (.bool false) w := fun w => by
    have := ne_mat 1048576 0 0 (-1048576) 0 F0 1048576 0 0 (-1048576) 0 F0 w
    rw [eqB_refl] at this
    exact this
  have J5 : ∀ w, (binOp .eql 23 (.agg #[.int .i64 65536, .int .i64 0, .int .i64 0, .int .i64 65536, .int .i64 0, .int .i64 0]) (.agg #[.int .i64 65536, .int .i64 0, .int .i64 0, .int .i64 65536, .int .i64 0, .int .i64 0])).run Try.prog w = .ok (.bool true) w := fun w => eq_mat 65536 0 0 65536 0 0 65536 0 0 65536 0 0 w
  go_enter Try.func3, Try.ntmps3
  go_wp2_with fail
  refine (known_any _).mono ?_
  rintro e_ w1 ⟨rfl, hb1⟩
  have K0 := (Blk.new w 23 #[.int .i64 A, .int .i64 B, .int .i64 C, .int .i64 D, .int .i64 E, .int .i64 F]).below hb1 (by simp)
  have hbw : Below w.heap.size w w1 := btrans (by (repeat' (first | exact Below.refl _ _ | exact Below.refl _ _ | refine balloc ?_ _ | refine Below.drew ?_ | refine below_drewN ?_ _ | refine bset ?_ (by first | omega | (simp <;> omega)) _))) hb1
  clear hb1
  have lK0 := K0.lt
  have cK00 := K0.cell 0
  have cK01 := K0.cell 1
  have cK02 := K0.cell 2
  have cK03 := K0.cell 3
  have cK04 := K0.cell 4
  have cK05 := K0.cell 5
  simp only [List.getElem?_toArray, List.getElem?_cons_succ, List.getElem?_cons_zero] at cK00 cK01 cK02 cK03 cK04 cK05
  go_wp2_with fail
  refine (H1.out _).mono ?_
  rintro e_ w2 ⟨rfl, hb2⟩
  replace K0 := K0.below hb2 (by first | exact lK0 | (have := lK0; simp; omega))
  replace hbw : Below w.heap.size w w2 := btrans (by (repeat' (first | refine bset ?_ (by first | omega | (simp <;> omega)) _ | refine balloc ?_ _ | refine Below.drew ?_ | refine below_drewN ?_ _ | exact hbw | exact Below.refl _ _))) hb2
  clear hb2 lK0 cK00 cK01 cK02 cK03 cK04 cK05
  have lK0 := K0.lt
  have cK00 := K0.cell 0
  have cK01 := K0.cell 1
  have cK02 := K0.cell 2
  have cK03 := K0.cell 3
  have cK04 := K0.cell 4
  have cK05 := K0.cell 5
  simp only [List.getElem?_toArray, List.getElem?_cons_succ, List.getElem?_cons_zero] at cK00 cK01 cK02 cK03 cK04 cK05
  go_wp2_with fail
  refine (H2.out _).mono ?_
  rintro e_ w3 ⟨rfl, hb3⟩
  replace K0 := (K0.alloc (.cells #[.int .i64 0, .int .i64 0, .int .i64 0, .int .i64 0, .int .i64 0, .int .i64 0] 23)).below hb3 (by first | exact lK0 | (have := lK0; simp; omega))
  have Km := (Blk.new w2 23 #[.int .i64 0, .int .i64 0, .int .i64 0, .int .i64 0, .int .i64 0, .int .i64 0]).below hb3 (by simp)
  replace hbw : Below w.heap.size w w3 := btrans (by (repeat' (first | refine bset ?_ (by first | omega | (simp <;> omega)) _ | refine balloc ?_ _ | refine Below.drew ?_ | refine below_drewN ?_ _ | exact hbw | exact Below.refl _ _))) hb3
  clear hb3 lK0 cK00 cK01 cK02 cK03 cK04 cK05
  have lK0 := K0.lt
  have cK00 := K0.cell 0
  have cK01 := K0.cell 1
  have cK02 := K0.cell 2
  have cK03 := K0.cell 3
  have cK04 := K0.cell 4
  have cK05 := K0.cell 5
  have lKm := Km.lt
  have cKm0 := Km.cell 0
  have cKm1 := Km.cell 1
  have cKm2 := Km.cell 2
  have cKm3 := Km.cell 3
  have cKm4 := Km.cell 4
  have cKm5 := Km.cell 5
  simp only [List.getElem?_toArray, List.getElem?_cons_succ, List.getElem?_cons_zero] at cK00 cK01 cK02 cK03 cK04 cK05 cKm0 cKm1 cKm2 cKm3 cKm4 cKm5
  go_wp2_with fail
  refine (H3.out _).mono ?_
  rintro e_ w4 ⟨rfl, hsame4⟩
  have hb4 : Below (w3.alloc (.cells #[.int .i64 0, .int .i64 0, .int .i64 0, .int .i64 0, .int .i64 0, .int .i64 0] 23)).heap.size (w3.alloc (.cells #[.int .i64 0, .int .i64 0, .int .i64 0, .int .i64 0, .int .i64 0, .int .i64 0] 23)) w4 := by rw [hsame4]; exact Below.refl _ _
  clear hsame4
  replace K0 := (K0.alloc (.cells #[.int .i64 0, .int .i64 0, .int .i64 0, .int .i64 0, .int .i64 0, .int .i64 0] 23)).below hb4 (by first | exact lK0 | (have := lK0; simp; omega))
  replace Km := (Km.alloc (.cells #[.int .i64 0, .int .i64 0, .int .i64 0, .int .i64 0, .int .i64 0, .int .i64 0] 23)).below hb4 (by first | exact lKm | (have := lKm; simp; omega))
  have Ks := (Blk.new w3 23 #[.int .i64 0, .int .i64 0, .int .i64 0, .int .i64 0, .int .i64 0, .int .i64 0]).below hb4 (by simp)
  replace hbw : Below w.heap.size w w4 := btrans (by (repeat' (first | refine bset ?_ (by first | omega | (simp <;> omega)) _ | refine balloc ?_ _ | refine Below.drew ?_ | refine below_drewN ?_ _ | exact hbw | exact Below.refl _ _))) hb4
  clear hb4 lK0 cK00 cK01 cK02 cK03 cK04 cK05 lKm cKm0 cKm1 cKm2 cKm3 cKm4 cKm5
  have lK0 := K0.lt
  have cK00 := K0.cell 0
  have cK01 := K0.cell 1
  have cK02 := K0.cell 2
  have cK03 := K0.cell 3
  have cK04 := K0.cell 4
  have cK05 := K0.cell 5
  have lKm := Km.lt
  have cKm0 := Km.cell 0
  have cKm1 := Km.cell 1
  have cKm2 := Km.cell 2
  have cKm3 := Km.cell 3
  have cKm4 := Km.cell 4
  have cKm5 := Km.cell 5
  have lKs := Ks.lt
  have cKs0 := Ks.cell 0
  have cKs1 := Ks.cell 1
  have cKs2 := Ks.cell 2
  have cKs3 := Ks.cell 3
  have cKs4 := Ks.cell 4
  have cKs5 := Ks.cell 5
  simp only [List.getElem?_toArray, List.getElem?_cons_succ, List.getElem?_cons_zero] at cK00 cK01 cK02 cK03 cK04 cK05 cKm0 cKm1 cKm2 cKm3 cKm4 cKm5 cKs0 cKs1 cKs2 cKs3 cKs4 cKs5
  go_wp2_with fail
  refine (H4.out _).mono ?_
  rintro e_ w_ ⟨rfl, rfl⟩
  go_wp2_with fail
  have uKm0 : ∀ u : Up w4, u.val.cell? ⟨w2.heap.size, 0, none⟩ = some (.int .i64 0) := fun u => (u.cell lKm).trans cKm0
  have uKm1 : ∀ u : Up w4, u.val.cell? ⟨w2.heap.size, 1, none⟩ = some (.int .i64 0) := fun u => (u.cell lKm).trans cKm1
  have uKm2 : ∀ u : Up w4, u.val.cell? ⟨w2.heap.size, 2, none⟩ = some (.int .i64 0) := fun u => (u.cell lKm).trans cKm2
  have uKm3 : ∀ u : Up w4, u.val.cell? ⟨w2.heap.size, 3, none⟩ = some (.int .i64 0) := fun u => (u.cell lKm).trans cKm3
  have uKm4 : ∀ u : Up w4, u.val.cell? ⟨w2.heap.size, 4, none⟩ = some (.int .i64 0) := fun u => (u.cell lKm).trans cKm4
  have uKm5 : ∀ u : Up w4, u.val.cell? ⟨w2.heap.size, 5, none⟩ = some (.int .i64 0) := fun u => (u.cell lKm).trans cKm5
  have uKs0 : ∀ u : Up w4, u.val.cell? ⟨w3.heap.size, 0, none⟩ = some (.int .i64 0) := fun u => (u.cell lKs).trans cKs0
  have uKs1 : ∀ u : Up w4, u.val.cell? ⟨w3.heap.size, 1, none⟩ = some (.int .i64 0) := fun u => (u.cell lKs).trans cKs1
  have uKs2 : ∀ u : Up w4, u.val.cell? ⟨w3.heap.size, 2, none⟩ = some (.int .i64 0) := fun u => (u.cell lKs).trans cKs2
  have uKs3 : ∀ u : Up w4, u.val.cell? ⟨w3.heap.size, 3, none⟩ = some (.int .i64 0) := fun u => (u.cell lKs).trans cKs3
  have uKs4 : ∀ u : Up w4, u.val.cell? ⟨w3.heap.size, 4, none⟩ = some (.int .i64 0) := fun u => (u.cell lKs).trans cKs4
  have uKs5 : ∀ u : Up w4, u.val.cell? ⟨w3.heap.size, 5, none⟩ = some (.int .i64 0) := fun u => (u.cell lKs).trans cKs5
  refine wp_region_up (by kernel_rfl) (by kernel_rfl) ?_
  repeat (go_big_quiet_step (fail))
  refine wpQuiet_nil ?_
  rintro _ ⟨uq, rfl⟩
  replace hbw := btrans hbw uq.ok
  replace K0 := K0.below uq.ok lK0
  generalize hwx : uq.val = wy at *
  clear hwx uq Km Ks uKm0 uKs0 cKm0 cKs0 cK00 uKm1 uKs1 cKm1 cKs1 cK01 uKm2 uKs2 cKm2 cKs2 cK02 uKm3 uKs3 cKm3 cKs3 cK03 uKm4 uKs4 cKm4 cKs4 cK04 uKm5 uKs5 cKm5 cKs5 cK05 lK0 lKm lKs
  have lK0 := K0.lt
  have cK00 := K0.cell 0
  have cK01 := K0.cell 1
  have cK02 := K0.cell 2
  have cK03 := K0.cell 3
  have cK04 := K0.cell 4
  have cK05 := K0.cell 5
  simp only [List.getElem?_toArray, List.getElem?_cons_succ, List.getElem?_cons_zero] at cK00 cK01 cK02 cK03 cK04 cK05
  go_wp2_with fail
  refine (H5.out _).mono ?_
  rintro e_ w5 ⟨rfl, hb5⟩
  replace K0 := K0.below hb5 (by first | exact lK0 | (have := lK0; simp; omega))
  replace hbw : Below w.heap.size w w5 := btrans (by (repeat' (first | refine bset ?_ (by first | omega | (simp <;> omega)) _ | refine balloc ?_ _ | refine Below.drew ?_ | refine below_drewN ?_ _ | exact hbw | exact Below.refl _ _))) hb5
  clear hb5 lK0 cK00 cK01 cK02 cK03 cK04 cK05
  have lK0 := K0.lt
  have cK00 := K0.cell 0
  have cK01 := K0.cell 1
  have cK02 := K0.cell 2
  have cK03 := K0.cell 3
  have cK04 := K0.cell 4
  have cK05 := K0.cell 5
  simp only [List.getElem?_toArray, List.getElem?_cons_succ, List.getElem?_cons_zero] at cK00 cK01 cK02 cK03 cK04 cK05
  go_wp2_with fail
  replace K0 := K0.alloc (.cells #[.int .i64 1048576, .int .i64 0, .int .i64 0, .int .i64 (-1048576), .int .i64 0, .int .i64 F0] 23)
  have Kd := Blk.new w5 23 #[.int .i64 1048576, .int .i64 0, .int .i64 0, .int .i64 (-1048576), .int .i64 0, .int .i64 F0]
  replace hbw : Below w.heap.size w (w5.alloc (.cells #[.int .i64 1048576, .int .i64 0, .int .i64 0, .int .i64 (-1048576), .int .i64 0, .int .i64 F0] 23)) := by (repeat' (first | exact hbw | exact Below.refl _ _ | refine balloc ?_ _ | refine Below.drew ?_ | refine below_drewN ?_ _ | refine bset ?_ (by first | omega | (simp <;> omega)) _))
  obtain ⟨Pd, hPd⟩ : ∃ P, w5.heap.size = P := ⟨_, rfl⟩
  rw [hPd] at Kd ⊢
  generalize hwx : (w5.alloc (.cells #[.int .i64 1048576, .int .i64 0, .int .i64 0, .int .i64 (-1048576), .int .i64 0, .int .i64 F0] 23)) = wz at *
  clear hwx hPd lK0 cK00 cK01 cK02 cK03 cK04 cK05
  have lK0 := K0.lt
  have cK00 := K0.cell 0
  have cK01 := K0.cell 1
  have cK02 := K0.cell 2
  have cK03 := K0.cell 3
  have cK04 := K0.cell 4
  have cK05 := K0.cell 5
  have lKd := Kd.lt
  have cKd0 := Kd.cell 0
  have cKd1 := Kd.cell 1
  have cKd2 := Kd.cell 2
  have cKd3 := Kd.cell 3
  have cKd4 := Kd.cell 4
  have cKd5 := Kd.cell 5
  simp only [List.getElem?_toArray, List.getElem?_cons_succ, List.getElem?_cons_zero] at cK00 cKd0 cK01 cKd1 cK02 cKd2 cK03 cKd3 cK04 cKd4 cK05 cKd5
  have HU6 := Lib.hid (fun u : Up wz => up_same (u := u) (H6.out u.val))
  have HU7 := Lib.hid (fun u : Up wz => up_of (u := u) (H7.out u.val))
  have uKd0 : ∀ u : Up wz, u.val.cell? ⟨Pd, 0, none⟩ = some (.int .i64 1048576) := fun u => (u.cell lKd).trans cKd0
  have uKd1 : ∀ u : Up wz, u.val.cell? ⟨Pd, 1, none⟩ = some (.int .i64 0) := fun u => (u.cell lKd).trans cKd1
  have uKd2 : ∀ u : Up wz, u.val.cell? ⟨Pd, 2, none⟩ = some (.int .i64 0) := fun u => (u.cell lKd).trans cKd2
  have uKd3 : ∀ u : Up wz, u.val.cell? ⟨Pd, 3, none⟩ = some (.int .i64 (-1048576)) := fun u => (u.cell lKd).trans cKd3
  have uKd4 : ∀ u : Up wz, u.val.cell? ⟨Pd, 4, none⟩ = some (.int .i64 0) := fun u => (u.cell lKd).trans cKd4
  have uKd5 : ∀ u : Up wz, u.val.cell? ⟨Pd, 5, none⟩ = some (.int .i64 F0) := fun u => (u.cell lKd).trans cKd5
  refine wp_region_up (by kernel_rfl) (by kernel_rfl) ?_
  repeat (go_big_quiet_step (fail))
  go_big_quiet_step (exact HU6.out _)
  repeat (go_big_quiet_step (fail))
  go_big_quiet_step (exact HU7.out _)
  repeat (go_big_quiet_step (fail))
  go_big_quiet_step (exact HU6.out _)
  repeat (go_big_quiet_step (fail))
  refine wpQuiet_nil ?_
  rintro _ ⟨uq, rfl⟩
  replace hbw := btrans hbw uq.ok
  replace K0 := K0.below uq.ok lK0
  generalize hwx : uq.val = wt at *
  clear hwx uq Kd HU6 HU7 uKd0 cKd0 cK00 uKd1 cKd1 cK01 uKd2 cKd2 cK02 uKd3 cKd3 cK03 uKd4 cKd4 cK04 uKd5 cKd5 cK05 lK0 lKd
  have lK0 := K0.lt
  have cK00 := K0.cell 0
  have cK01 := K0.cell 1
  have cK02 := K0.cell 2
  have cK03 := K0.cell 3
  have cK04 := K0.cell 4
  have cK05 := K0.cell 5
  simp only [List.getElem?_toArray, List.getElem?_cons_succ, List.getElem?_cons_zero] at cK00 cK01 cK02 cK03 cK04 cK05
  go_wp2_with fail
  refine (H8.out _).mono ?_
  rintro e_ w6 ⟨rfl, hb6⟩
  replace K0 := K0.below hb6 (by first | exact lK0 | (have := lK0; simp; omega))
  replace hbw : Below w.heap.size w w6 := btrans (by (repeat' (first | refine bset ?_ (by first | omega | (simp <;> omega)) _ | refine balloc ?_ _ | refine Below.drew ?_ | refine below_drewN ?_ _ | exact hbw | exact Below.refl _ _))) hb6
  clear hb6 lK0 cK00 cK01 cK02 cK03 cK04 cK05
  have lK0 := K0.lt
  have cK00 := K0.cell 0
  have cK01 := K0.cell 1
  have cK02 := K0.cell 2
  have cK03 := K0.cell 3
  have cK04 := K0.cell 4
  have cK05 := K0.cell 5
  simp only [List.getElem?_toArray, List.getElem?_cons_succ, List.getElem?_cons_zero] at cK00 cK01 cK02 cK03 cK04 cK05
  go_wp2_with fail
  refine (H9.out _).mono ?_
  rintro e_ w7 ⟨rfl, hb7⟩
  replace K0 := K0.below hb7 (by first | exact lK0 | (have := lK0; simp; omega))
  replace hbw : Below w.heap.size w w7 := btrans (by (repeat' (first | refine bset ?_ (by first | omega | (simp <;> omega)) _ | refine balloc ?_ _ | refine Below.drew ?_ | refine below_drewN ?_ _ | exact hbw | exact Below.refl _ _))) hb7
  clear hb7 lK0 cK00 cK01 cK02 cK03 cK04 cK05
  have lK0 := K0.lt
  have cK00 := K0.cell 0
  have cK01 := K0.cell 1
  have cK02 := K0.cell 2
  have cK03 := K0.cell 3
  have cK04 := K0.cell 4
  have cK05 := K0.cell 5
  simp only [List.getElem?_toArray, List.getElem?_cons_succ, List.getElem?_cons_zero] at cK00 cK01 cK02 cK03 cK04 cK05
  go_wp2_with fail
  refine (one_any _).mono ?_
  rintro e_ w8 ⟨rfl, hb8⟩
  replace K0 := K0.below hb8 (by first | exact lK0 | (have := lK0; simp; omega))
  replace hbw : Below w.heap.size w w8 := btrans (by (repeat' (first | refine bset ?_ (by first | omega | (simp <;> omega)) _ | refine balloc ?_ _ | refine Below.drew ?_ | refine below_drewN ?_ _ | exact hbw | exact Below.refl _ _))) hb8
  clear hb8 lK0 cK00 cK01 cK02 cK03 cK04 cK05
  have lK0 := K0.lt
  have cK00 := K0.cell 0
  have cK01 := K0.cell 1
  have cK02 := K0.cell 2
  have cK03 := K0.cell 3
  have cK04 := K0.cell 4
  have cK05 := K0.cell 5
  simp only [List.getElem?_toArray, List.getElem?_cons_succ, List.getElem?_cons_zero] at cK00 cK01 cK02 cK03 cK04 cK05
  go_wp2_with fail
  refine (HWh.out _).mono ?_
  rintro e_ w9 ⟨rfl, hb9⟩
  replace K0 := K0.below hb9 (by first | exact lK0 | (have := lK0; simp; omega))
  replace hbw : Below w.heap.size w w9 := btrans (by (repeat' (first | refine bset ?_ (by first | omega | (simp <;> omega)) _ | refine balloc ?_ _ | refine Below.drew ?_ | refine below_drewN ?_ _ | exact hbw | exact Below.refl _ _))) hb9
  clear hb9 lK0 cK00 cK01 cK02 cK03 cK04 cK05
  have lK0 := K0.lt
  have cK00 := K0.cell 0
  have cK01 := K0.cell 1
  have cK02 := K0.cell 2
  have cK03 := K0.cell 3
  have cK04 := K0.cell 4
  have cK05 := K0.cell 5
  simp only [List.getElem?_toArray, List.getElem?_cons_succ, List.getElem?_cons_zero] at cK00 cK01 cK02 cK03 cK04 cK05
  go_wp2_with fail
  go_ret
  exact ⟨rfl, hbw⟩

set_option maxRecDepth 100000 in
set_option maxHeartbeats 3200000 in
theorem makes_mo (A B C D E F x y F0 s t : Int) (w : World)
    (h1 : ∀ W, Calls Try.prog 16 #[.int .i64 x, .int .i64 y] W fun ed w' => ed = .returned (.tuple #[.agg #[.int .i64 0, .int .i64 0, .int .i64 0, .int .i64 0, .int .i64 0, .int .i64 0], .int .i64 1]) ∧ Below W.heap.size W w')
    (h2 : ∀ W, Calls Try.prog 17 #[.int .i64 x, .int .i64 y] W fun ed w' => ed = .returned (.tuple #[.agg #[.int .i64 0, .int .i64 0, .int .i64 0, .int .i64 0, .int .i64 0, .int .i64 0], .int .i64 1]) ∧ Below W.heap.size W w')
    (h3 : ∀ W, Calls Try.prog 18 #[.int .i64 x] W fun ed w' => ed = .returned (.bool true) ∧ W = w')
    (h4 : ∀ W, Calls Try.prog 18 #[.int .i64 y] W fun ed w' => ed = .returned (.bool false) ∧ W = w')
    (h5 : ∀ W, Calls Try.prog 21 #[.int .i64 x] W fun ed w' => ed = .returned (.tuple #[.agg #[.int .i64 0, .int .i64 0, .int .i64 0, .int .i64 0, .int .i64 0, .int .i64 0], .int .i64 1]) ∧ Below W.heap.size W w')
    (h6 : ∀ W, Calls Try.prog 22 #[.int .i64 x] W fun ed w' => ed = .returned (.bool false) ∧ W = w')
    
    (h8 : ∀ W, Calls Try.prog 24 #[.agg #[.int .i64 A, .int .i64 B, .int .i64 C, .int .i64 D, .int .i64 E, .int .i64 F], .int .i64 y] W fun ed w' => ed = .returned (.tuple #[.int .i64 s, .int .i64 t]) ∧ Below W.heap.size W w') (h9 : ∀ W, Calls Try.prog 25 #[.agg #[.int .i64 A, .int .i64 B, .int .i64 C, .int .i64 D, .int .i64 E, .int .i64 F], .int .i64 y] W fun ed w' => ed = .returned (.tuple #[.int .i64 s, .int .i64 t]) ∧ Below W.heap.size W w') :
    Calls Try.prog 3 #[.agg #[.int .i64 A, .int .i64 B, .int .i64 C, .int .i64 D, .int .i64 E, .int .i64 F], .int .i64 x, .int .i64 y] w fun ed w' => ed = .returned (.bool true) ∧ Below w.heap.size w w' := by
  have H1 := Lib.hid h1
  clear h1
  have H2 := Lib.hid h2
  clear h2
  have H3 := Lib.hid h3
  clear h3
  have H4 := Lib.hid h4
  clear h4
  have H5 := Lib.hid h5
  clear h5
  have H6 := Lib.hid h6
  clear h6
  have H8 := Lib.hid h8
  clear h8
  have H9 := Lib.hid h9
  clear h9
  have HWh := Lib.hid (fun W => show Calls Try.prog 27 #[.int .i64 1, .int .i64 0, .int .i64 0, .int .i64 1, .int .i64 0, .int .i64 0] W fun ed w' => ed = .returned (.agg #[.int .i64 65536, .int .i64 0, .int .i64 0, .int .i64 65536, .int .i64 0, .int .i64 0]) ∧ Below W.heap.size W w' by exact Whole_any 1 0 0 1 0 0 W (by omega) (by omega) (by omega) (by omega) (by omega) (by omega))
  have JG := guard_mat
  have JN := guard_mat_ne
  have J3 : ∀ w, (binOp .neq 23 (.agg #[.int .i64 0, .int .i64 0, .int .i64 0, .int .i64 0, .int .i64 0, .int .i64 0]) (.agg #[.int .i64 0, .int .i64 0, .int .i64 0, .int .i64 0, .int .i64 0, .int .i64 0])).run Try.prog w = .ok (.bool false) w := fun w => by
    have := ne_mat 0 0 0 0 0 0 0 0 0 0 0 0 w
    rw [eqB_refl] at this
    exact this
  have J5 : ∀ w, (binOp .eql 23 (.agg #[.int .i64 65536, .int .i64 0, .int .i64 0, .int .i64 65536, .int .i64 0, .int .i64 0]) (.agg #[.int .i64 65536, .int .i64 0, .int .i64 0, .int .i64 65536, .int .i64 0, .int .i64 0])).run Try.prog w = .ok (.bool true) w := fun w => eq_mat 65536 0 0 65536 0 0 65536 0 0 65536 0 0 w
  go_enter Try.func3, Try.ntmps3
  go_wp2_with fail
  refine (known_any _).mono ?_
  rintro e_ w1 ⟨rfl, hb1⟩
  have K0 := (Blk.new w 23 #[.int .i64 A, .int .i64 B, .int .i64 C, .int .i64 D, .int .i64 E, .int .i64 F]).below hb1 (by simp)
  have hbw : Below w.heap.size w w1 := btrans (by (repeat' (first | exact Below.refl _ _ | exact Below.refl _ _ | refine balloc ?_ _ | refine Below.drew ?_ | refine below_drewN ?_ _ | refine bset ?_ (by first | omega | (simp <;> omega)) _))) hb1
  clear hb1
  have lK0 := K0.lt
  have cK00 := K0.cell 0
  have cK01 := K0.cell 1
  have cK02 := K0.cell 2
  have cK03 := K0.cell 3
  have cK04 := K0.cell 4
  have cK05 := K0.cell 5
  simp only [List.getElem?_toArray, List.getElem?_cons_succ, List.getElem?_cons_zero] at cK00 cK01 cK02 cK03 cK04 cK05
  go_wp2_with fail
  refine (H1.out _).mono ?_
  rintro e_ w2 ⟨rfl, hb2⟩
  replace K0 := K0.below hb2 (by first | exact lK0 | (have := lK0; simp; omega))
  replace hbw : Below w.heap.size w w2 := btrans (by (repeat' (first | refine bset ?_ (by first | omega | (simp <;> omega)) _ | refine balloc ?_ _ | refine Below.drew ?_ | refine below_drewN ?_ _ | exact hbw | exact Below.refl _ _))) hb2
  clear hb2 lK0 cK00 cK01 cK02 cK03 cK04 cK05
  have lK0 := K0.lt
  have cK00 := K0.cell 0
  have cK01 := K0.cell 1
  have cK02 := K0.cell 2
  have cK03 := K0.cell 3
  have cK04 := K0.cell 4
  have cK05 := K0.cell 5
  simp only [List.getElem?_toArray, List.getElem?_cons_succ, List.getElem?_cons_zero] at cK00 cK01 cK02 cK03 cK04 cK05
  go_wp2_with fail
  refine (H2.out _).mono ?_
  rintro e_ w3 ⟨rfl, hb3⟩
  replace K0 := (K0.alloc (.cells #[.int .i64 0, .int .i64 0, .int .i64 0, .int .i64 0, .int .i64 0, .int .i64 0] 23)).below hb3 (by first | exact lK0 | (have := lK0; simp; omega))
  have Km := (Blk.new w2 23 #[.int .i64 0, .int .i64 0, .int .i64 0, .int .i64 0, .int .i64 0, .int .i64 0]).below hb3 (by simp)
  replace hbw : Below w.heap.size w w3 := btrans (by (repeat' (first | refine bset ?_ (by first | omega | (simp <;> omega)) _ | refine balloc ?_ _ | refine Below.drew ?_ | refine below_drewN ?_ _ | exact hbw | exact Below.refl _ _))) hb3
  clear hb3 lK0 cK00 cK01 cK02 cK03 cK04 cK05
  have lK0 := K0.lt
  have cK00 := K0.cell 0
  have cK01 := K0.cell 1
  have cK02 := K0.cell 2
  have cK03 := K0.cell 3
  have cK04 := K0.cell 4
  have cK05 := K0.cell 5
  have lKm := Km.lt
  have cKm0 := Km.cell 0
  have cKm1 := Km.cell 1
  have cKm2 := Km.cell 2
  have cKm3 := Km.cell 3
  have cKm4 := Km.cell 4
  have cKm5 := Km.cell 5
  simp only [List.getElem?_toArray, List.getElem?_cons_succ, List.getElem?_cons_zero] at cK00 cK01 cK02 cK03 cK04 cK05 cKm0 cKm1 cKm2 cKm3 cKm4 cKm5
  go_wp2_with fail
  refine (H3.out _).mono ?_
  rintro e_ w4 ⟨rfl, hsame4⟩
  have hb4 : Below (w3.alloc (.cells #[.int .i64 0, .int .i64 0, .int .i64 0, .int .i64 0, .int .i64 0, .int .i64 0] 23)).heap.size (w3.alloc (.cells #[.int .i64 0, .int .i64 0, .int .i64 0, .int .i64 0, .int .i64 0, .int .i64 0] 23)) w4 := by rw [hsame4]; exact Below.refl _ _
  clear hsame4
  replace K0 := (K0.alloc (.cells #[.int .i64 0, .int .i64 0, .int .i64 0, .int .i64 0, .int .i64 0, .int .i64 0] 23)).below hb4 (by first | exact lK0 | (have := lK0; simp; omega))
  replace Km := (Km.alloc (.cells #[.int .i64 0, .int .i64 0, .int .i64 0, .int .i64 0, .int .i64 0, .int .i64 0] 23)).below hb4 (by first | exact lKm | (have := lKm; simp; omega))
  have Ks := (Blk.new w3 23 #[.int .i64 0, .int .i64 0, .int .i64 0, .int .i64 0, .int .i64 0, .int .i64 0]).below hb4 (by simp)
  replace hbw : Below w.heap.size w w4 := btrans (by (repeat' (first | refine bset ?_ (by first | omega | (simp <;> omega)) _ | refine balloc ?_ _ | refine Below.drew ?_ | refine below_drewN ?_ _ | exact hbw | exact Below.refl _ _))) hb4
  clear hb4 lK0 cK00 cK01 cK02 cK03 cK04 cK05 lKm cKm0 cKm1 cKm2 cKm3 cKm4 cKm5
  have lK0 := K0.lt
  have cK00 := K0.cell 0
  have cK01 := K0.cell 1
  have cK02 := K0.cell 2
  have cK03 := K0.cell 3
  have cK04 := K0.cell 4
  have cK05 := K0.cell 5
  have lKm := Km.lt
  have cKm0 := Km.cell 0
  have cKm1 := Km.cell 1
  have cKm2 := Km.cell 2
  have cKm3 := Km.cell 3
  have cKm4 := Km.cell 4
  have cKm5 := Km.cell 5
  have lKs := Ks.lt
  have cKs0 := Ks.cell 0
  have cKs1 := Ks.cell 1
  have cKs2 := Ks.cell 2
  have cKs3 := Ks.cell 3
  have cKs4 := Ks.cell 4
  have cKs5 := Ks.cell 5
  simp only [List.getElem?_toArray, List.getElem?_cons_succ, List.getElem?_cons_zero] at cK00 cK01 cK02 cK03 cK04 cK05 cKm0 cKm1 cKm2 cKm3 cKm4 cKm5 cKs0 cKs1 cKs2 cKs3 cKs4 cKs5
  go_wp2_with fail
  refine (H4.out _).mono ?_
  rintro e_ w_ ⟨rfl, rfl⟩
  go_wp2_with fail
  have uKm0 : ∀ u : Up w4, u.val.cell? ⟨w2.heap.size, 0, none⟩ = some (.int .i64 0) := fun u => (u.cell lKm).trans cKm0
  have uKm1 : ∀ u : Up w4, u.val.cell? ⟨w2.heap.size, 1, none⟩ = some (.int .i64 0) := fun u => (u.cell lKm).trans cKm1
  have uKm2 : ∀ u : Up w4, u.val.cell? ⟨w2.heap.size, 2, none⟩ = some (.int .i64 0) := fun u => (u.cell lKm).trans cKm2
  have uKm3 : ∀ u : Up w4, u.val.cell? ⟨w2.heap.size, 3, none⟩ = some (.int .i64 0) := fun u => (u.cell lKm).trans cKm3
  have uKm4 : ∀ u : Up w4, u.val.cell? ⟨w2.heap.size, 4, none⟩ = some (.int .i64 0) := fun u => (u.cell lKm).trans cKm4
  have uKm5 : ∀ u : Up w4, u.val.cell? ⟨w2.heap.size, 5, none⟩ = some (.int .i64 0) := fun u => (u.cell lKm).trans cKm5
  have uKs0 : ∀ u : Up w4, u.val.cell? ⟨w3.heap.size, 0, none⟩ = some (.int .i64 0) := fun u => (u.cell lKs).trans cKs0
  have uKs1 : ∀ u : Up w4, u.val.cell? ⟨w3.heap.size, 1, none⟩ = some (.int .i64 0) := fun u => (u.cell lKs).trans cKs1
  have uKs2 : ∀ u : Up w4, u.val.cell? ⟨w3.heap.size, 2, none⟩ = some (.int .i64 0) := fun u => (u.cell lKs).trans cKs2
  have uKs3 : ∀ u : Up w4, u.val.cell? ⟨w3.heap.size, 3, none⟩ = some (.int .i64 0) := fun u => (u.cell lKs).trans cKs3
  have uKs4 : ∀ u : Up w4, u.val.cell? ⟨w3.heap.size, 4, none⟩ = some (.int .i64 0) := fun u => (u.cell lKs).trans cKs4
  have uKs5 : ∀ u : Up w4, u.val.cell? ⟨w3.heap.size, 5, none⟩ = some (.int .i64 0) := fun u => (u.cell lKs).trans cKs5
  refine wp_region_up (by kernel_rfl) (by kernel_rfl) ?_
  repeat (go_big_quiet_step (fail))
  refine wpQuiet_nil ?_
  rintro _ ⟨uq, rfl⟩
  replace hbw := btrans hbw uq.ok
  replace K0 := K0.below uq.ok lK0
  generalize hwx : uq.val = wy at *
  clear hwx uq Km Ks uKm0 uKs0 cKm0 cKs0 cK00 uKm1 uKs1 cKm1 cKs1 cK01 uKm2 uKs2 cKm2 cKs2 cK02 uKm3 uKs3 cKm3 cKs3 cK03 uKm4 uKs4 cKm4 cKs4 cK04 uKm5 uKs5 cKm5 cKs5 cK05 lK0 lKm lKs
  have lK0 := K0.lt
  have cK00 := K0.cell 0
  have cK01 := K0.cell 1
  have cK02 := K0.cell 2
  have cK03 := K0.cell 3
  have cK04 := K0.cell 4
  have cK05 := K0.cell 5
  simp only [List.getElem?_toArray, List.getElem?_cons_succ, List.getElem?_cons_zero] at cK00 cK01 cK02 cK03 cK04 cK05
  go_wp2_with fail
  refine (H5.out _).mono ?_
  rintro e_ w5 ⟨rfl, hb5⟩
  replace K0 := K0.below hb5 (by first | exact lK0 | (have := lK0; simp; omega))
  replace hbw : Below w.heap.size w w5 := btrans (by (repeat' (first | refine bset ?_ (by first | omega | (simp <;> omega)) _ | refine balloc ?_ _ | refine Below.drew ?_ | refine below_drewN ?_ _ | exact hbw | exact Below.refl _ _))) hb5
  clear hb5 lK0 cK00 cK01 cK02 cK03 cK04 cK05
  have lK0 := K0.lt
  have cK00 := K0.cell 0
  have cK01 := K0.cell 1
  have cK02 := K0.cell 2
  have cK03 := K0.cell 3
  have cK04 := K0.cell 4
  have cK05 := K0.cell 5
  simp only [List.getElem?_toArray, List.getElem?_cons_succ, List.getElem?_cons_zero] at cK00 cK01 cK02 cK03 cK04 cK05
  go_wp2_with fail
  replace K0 := K0.alloc (.cells #[.int .i64 0, .int .i64 0, .int .i64 0, .int .i64 0, .int .i64 0, .int .i64 0] 23)
  have Kd := Blk.new w5 23 #[.int .i64 0, .int .i64 0, .int .i64 0, .int .i64 0, .int .i64 0, .int .i64 0]
  replace hbw : Below w.heap.size w (w5.alloc (.cells #[.int .i64 0, .int .i64 0, .int .i64 0, .int .i64 0, .int .i64 0, .int .i64 0] 23)) := by (repeat' (first | exact hbw | exact Below.refl _ _ | refine balloc ?_ _ | refine Below.drew ?_ | refine below_drewN ?_ _ | refine bset ?_ (by first | omega | (simp <;> omega)) _))
  obtain ⟨Pd, hPd⟩ : ∃ P, w5.heap.size = P := ⟨_, rfl⟩
  rw [hPd] at Kd ⊢
  generalize hwx : (w5.alloc (.cells #[.int .i64 0, .int .i64 0, .int .i64 0, .int .i64 0, .int .i64 0, .int .i64 0] 23)) = wz at *
  clear hwx hPd lK0 cK00 cK01 cK02 cK03 cK04 cK05
  have lK0 := K0.lt
  have cK00 := K0.cell 0
  have cK01 := K0.cell 1
  have cK02 := K0.cell 2
  have cK03 := K0.cell 3
  have cK04 := K0.cell 4
  have cK05 := K0.cell 5
  have lKd := Kd.lt
  have cKd0 := Kd.cell 0
  have cKd1 := Kd.cell 1
  have cKd2 := Kd.cell 2
  have cKd3 := Kd.cell 3
  have cKd4 := Kd.cell 4
  have cKd5 := Kd.cell 5
  simp only [List.getElem?_toArray, List.getElem?_cons_succ, List.getElem?_cons_zero] at cK00 cKd0 cK01 cKd1 cK02 cKd2 cK03 cKd3 cK04 cKd4 cK05 cKd5
  have HU6 := Lib.hid (fun u : Up wz => up_same (u := u) (H6.out u.val))
  have uKd0 : ∀ u : Up wz, u.val.cell? ⟨Pd, 0, none⟩ = some (.int .i64 0) := fun u => (u.cell lKd).trans cKd0
  have uKd1 : ∀ u : Up wz, u.val.cell? ⟨Pd, 1, none⟩ = some (.int .i64 0) := fun u => (u.cell lKd).trans cKd1
  have uKd2 : ∀ u : Up wz, u.val.cell? ⟨Pd, 2, none⟩ = some (.int .i64 0) := fun u => (u.cell lKd).trans cKd2
  have uKd3 : ∀ u : Up wz, u.val.cell? ⟨Pd, 3, none⟩ = some (.int .i64 0) := fun u => (u.cell lKd).trans cKd3
  have uKd4 : ∀ u : Up wz, u.val.cell? ⟨Pd, 4, none⟩ = some (.int .i64 0) := fun u => (u.cell lKd).trans cKd4
  have uKd5 : ∀ u : Up wz, u.val.cell? ⟨Pd, 5, none⟩ = some (.int .i64 0) := fun u => (u.cell lKd).trans cKd5
  refine wp_region_up (by kernel_rfl) (by kernel_rfl) ?_
  repeat (go_big_quiet_step (fail))
  go_big_quiet_step (exact HU6.out _)
  repeat (go_big_quiet_step (fail))
  go_big_quiet_step (exact HU6.out _)
  repeat (go_big_quiet_step (fail))
  refine wpQuiet_nil ?_
  rintro _ ⟨uq, rfl⟩
  replace hbw := btrans hbw uq.ok
  replace K0 := K0.below uq.ok lK0
  generalize hwx : uq.val = wt at *
  clear hwx uq Kd HU6 uKd0 cKd0 cK00 uKd1 cKd1 cK01 uKd2 cKd2 cK02 uKd3 cKd3 cK03 uKd4 cKd4 cK04 uKd5 cKd5 cK05 lK0 lKd
  have lK0 := K0.lt
  have cK00 := K0.cell 0
  have cK01 := K0.cell 1
  have cK02 := K0.cell 2
  have cK03 := K0.cell 3
  have cK04 := K0.cell 4
  have cK05 := K0.cell 5
  simp only [List.getElem?_toArray, List.getElem?_cons_succ, List.getElem?_cons_zero] at cK00 cK01 cK02 cK03 cK04 cK05
  go_wp2_with fail
  refine (H8.out _).mono ?_
  rintro e_ w6 ⟨rfl, hb6⟩
  replace K0 := K0.below hb6 (by first | exact lK0 | (have := lK0; simp; omega))
  replace hbw : Below w.heap.size w w6 := btrans (by (repeat' (first | refine bset ?_ (by first | omega | (simp <;> omega)) _ | refine balloc ?_ _ | refine Below.drew ?_ | refine below_drewN ?_ _ | exact hbw | exact Below.refl _ _))) hb6
  clear hb6 lK0 cK00 cK01 cK02 cK03 cK04 cK05
  have lK0 := K0.lt
  have cK00 := K0.cell 0
  have cK01 := K0.cell 1
  have cK02 := K0.cell 2
  have cK03 := K0.cell 3
  have cK04 := K0.cell 4
  have cK05 := K0.cell 5
  simp only [List.getElem?_toArray, List.getElem?_cons_succ, List.getElem?_cons_zero] at cK00 cK01 cK02 cK03 cK04 cK05
  go_wp2_with fail
  refine (H9.out _).mono ?_
  rintro e_ w7 ⟨rfl, hb7⟩
  replace K0 := K0.below hb7 (by first | exact lK0 | (have := lK0; simp; omega))
  replace hbw : Below w.heap.size w w7 := btrans (by (repeat' (first | refine bset ?_ (by first | omega | (simp <;> omega)) _ | refine balloc ?_ _ | refine Below.drew ?_ | refine below_drewN ?_ _ | exact hbw | exact Below.refl _ _))) hb7
  clear hb7 lK0 cK00 cK01 cK02 cK03 cK04 cK05
  have lK0 := K0.lt
  have cK00 := K0.cell 0
  have cK01 := K0.cell 1
  have cK02 := K0.cell 2
  have cK03 := K0.cell 3
  have cK04 := K0.cell 4
  have cK05 := K0.cell 5
  simp only [List.getElem?_toArray, List.getElem?_cons_succ, List.getElem?_cons_zero] at cK00 cK01 cK02 cK03 cK04 cK05
  go_wp2_with fail
  refine (one_any _).mono ?_
  rintro e_ w8 ⟨rfl, hb8⟩
  replace K0 := K0.below hb8 (by first | exact lK0 | (have := lK0; simp; omega))
  replace hbw : Below w.heap.size w w8 := btrans (by (repeat' (first | refine bset ?_ (by first | omega | (simp <;> omega)) _ | refine balloc ?_ _ | refine Below.drew ?_ | refine below_drewN ?_ _ | exact hbw | exact Below.refl _ _))) hb8
  clear hb8 lK0 cK00 cK01 cK02 cK03 cK04 cK05
  have lK0 := K0.lt
  have cK00 := K0.cell 0
  have cK01 := K0.cell 1
  have cK02 := K0.cell 2
  have cK03 := K0.cell 3
  have cK04 := K0.cell 4
  have cK05 := K0.cell 5
  simp only [List.getElem?_toArray, List.getElem?_cons_succ, List.getElem?_cons_zero] at cK00 cK01 cK02 cK03 cK04 cK05
  go_wp2_with fail
  refine (HWh.out _).mono ?_
  rintro e_ w9 ⟨rfl, hb9⟩
  replace K0 := K0.below hb9 (by first | exact lK0 | (have := lK0; simp; omega))
  replace hbw : Below w.heap.size w w9 := btrans (by (repeat' (first | refine bset ?_ (by first | omega | (simp <;> omega)) _ | refine balloc ?_ _ | refine Below.drew ?_ | refine below_drewN ?_ _ | exact hbw | exact Below.refl _ _))) hb9
  clear hb9 lK0 cK00 cK01 cK02 cK03 cK04 cK05
  have lK0 := K0.lt
  have cK00 := K0.cell 0
  have cK01 := K0.cell 1
  have cK02 := K0.cell 2
  have cK03 := K0.cell 3
  have cK04 := K0.cell 4
  have cK05 := K0.cell 5
  simp only [List.getElem?_toArray, List.getElem?_cons_succ, List.getElem?_cons_zero] at cK00 cK01 cK02 cK03 cK04 cK05
  go_wp2_with fail
  go_ret
  exact ⟨rfl, hbw⟩

set_option maxRecDepth 100000 in
set_option maxHeartbeats 3200000 in
theorem makes_ys (A B C D E F x y F0 s t : Int) (w : World)
    (h1 : ∀ W, Calls Try.prog 16 #[.int .i64 x, .int .i64 y] W fun ed w' => ed = .returned (.tuple #[.agg #[.int .i64 65536, .int .i64 0, .int .i64 0, .int .i64 65536, .int .i64 x, .int .i64 y], .int .i64 0]) ∧ Below W.heap.size W w')
    (h2 : ∀ W, Calls Try.prog 17 #[.int .i64 x, .int .i64 y] W fun ed w' => ed = .returned (.tuple #[.agg #[.int .i64 x, .int .i64 0, .int .i64 0, .int .i64 y, .int .i64 0, .int .i64 0], .int .i64 0]) ∧ Below W.heap.size W w')
    (h3 : ∀ W, Calls Try.prog 18 #[.int .i64 x] W fun ed w' => ed = .returned (.bool true) ∧ W = w')
    (h4 : ∀ W, Calls Try.prog 18 #[.int .i64 y] W fun ed w' => ed = .returned (.bool true) ∧ W = w')
    (h5 : ∀ W, Calls Try.prog 21 #[.int .i64 x] W fun ed w' => ed = .returned (.tuple #[.agg #[.int .i64 1048576, .int .i64 0, .int .i64 0, .int .i64 (-1048576), .int .i64 0, .int .i64 F0], .int .i64 0]) ∧ Below W.heap.size W w')
    (h6 : ∀ W, Calls Try.prog 22 #[.int .i64 x] W fun ed w' => ed = .returned (.bool true) ∧ W = w')
    (h7 : ∀ W, Calls Try.prog 23 #[.int .i64 x] W fun ed w' => ed = .returned (.agg #[.int .i64 1048576, .int .i64 0, .int .i64 0, .int .i64 (-1048576), .int .i64 0, .int .i64 F0]) ∧ Below W.heap.size W w')
    (h8 : ∀ W, Calls Try.prog 24 #[.agg #[.int .i64 A, .int .i64 B, .int .i64 C, .int .i64 D, .int .i64 E, .int .i64 F], .int .i64 y] W fun ed w' => ed = .returned (.tuple #[.int .i64 s, .int .i64 t]) ∧ Below W.heap.size W w') (h9 : ∀ W, Calls Try.prog 25 #[.agg #[.int .i64 A, .int .i64 B, .int .i64 C, .int .i64 D, .int .i64 E, .int .i64 F], .int .i64 y] W fun ed w' => ed = .returned (.tuple #[.int .i64 s, .int .i64 t]) ∧ Below W.heap.size W w') :
    Calls Try.prog 3 #[.agg #[.int .i64 A, .int .i64 B, .int .i64 C, .int .i64 D, .int .i64 E, .int .i64 F], .int .i64 x, .int .i64 y] w fun ed w' => ed = .returned (.bool true) ∧ Below w.heap.size w w' := by
  have H1 := Lib.hid h1
  clear h1
  have H2 := Lib.hid h2
  clear h2
  have H3 := Lib.hid h3
  clear h3
  have H4 := Lib.hid h4
  clear h4
  have H5 := Lib.hid h5
  clear h5
  have H6 := Lib.hid h6
  clear h6
  have H7 := Lib.hid h7
  clear h7
  have H8 := Lib.hid h8
  clear h8
  have H9 := Lib.hid h9
  clear h9
  have HrM := Lib.hid (fun W => rMove_any x y W)
  have HrS := Lib.hid (fun W => rSize_any x y W)
  have HWh := Lib.hid (fun W => show Calls Try.prog 27 #[.int .i64 1, .int .i64 0, .int .i64 0, .int .i64 1, .int .i64 0, .int .i64 0] W fun ed w' => ed = .returned (.agg #[.int .i64 65536, .int .i64 0, .int .i64 0, .int .i64 65536, .int .i64 0, .int .i64 0]) ∧ Below W.heap.size W w' by exact Whole_any 1 0 0 1 0 0 W (by omega) (by omega) (by omega) (by omega) (by omega) (by omega))
  have JG := guard_mat
  have JN := guard_mat_ne
  have J1 : ∀ w, (binOp .neq 23 (.agg #[.int .i64 65536, .int .i64 0, .int .i64 0, .int .i64 65536, .int .i64 x, .int .i64 y]) (.agg #[.int .i64 65536, .int .i64 0, .int .i64 0, .int .i64 65536, .int .i64 x, .int .i64 y])).run Try.prog w = .ok (.bool false) w := fun w => by
    have := ne_mat 65536 0 0 65536 x y 65536 0 0 65536 x y w
    rw [eqB_refl] at this
    exact this
  have J2 : ∀ w, (binOp .neq 23 (.agg #[.int .i64 x, .int .i64 0, .int .i64 0, .int .i64 y, .int .i64 0, .int .i64 0]) (.agg #[.int .i64 x, .int .i64 0, .int .i64 0, .int .i64 y, .int .i64 0, .int .i64 0])).run Try.prog w = .ok (.bool false) w := fun w => by
    have := ne_mat x 0 0 y 0 0 x 0 0 y 0 0 w
    rw [eqB_refl] at this
    exact this
  have J4 : ∀ w, (binOp .neq 23 (.agg #[.int .i64 1048576, .int .i64 0, .int .i64 0, .int .i64 (-1048576), .int .i64 0, .int .i64 F0]) (.agg #[.int .i64 1048576, .int .i64 0, .int .i64 0, .int .i64 (-1048576), .int .i64 0, .int .i64 F0])).run Try.prog w = .ok (.bool false) w := fun w => by
    have := ne_mat 1048576 0 0 (-1048576) 0 F0 1048576 0 0 (-1048576) 0 F0 w
    rw [eqB_refl] at this
    exact this
  have J5 : ∀ w, (binOp .eql 23 (.agg #[.int .i64 65536, .int .i64 0, .int .i64 0, .int .i64 65536, .int .i64 0, .int .i64 0]) (.agg #[.int .i64 65536, .int .i64 0, .int .i64 0, .int .i64 65536, .int .i64 0, .int .i64 0])).run Try.prog w = .ok (.bool true) w := fun w => eq_mat 65536 0 0 65536 0 0 65536 0 0 65536 0 0 w
  go_enter Try.func3, Try.ntmps3
  go_wp2_with fail
  refine (known_any _).mono ?_
  rintro e_ w1 ⟨rfl, hb1⟩
  have K0 := (Blk.new w 23 #[.int .i64 A, .int .i64 B, .int .i64 C, .int .i64 D, .int .i64 E, .int .i64 F]).below hb1 (by simp)
  have hbw : Below w.heap.size w w1 := btrans (by (repeat' (first | exact Below.refl _ _ | exact Below.refl _ _ | refine balloc ?_ _ | refine Below.drew ?_ | refine below_drewN ?_ _ | refine bset ?_ (by first | omega | (simp <;> omega)) _))) hb1
  clear hb1
  have lK0 := K0.lt
  have cK00 := K0.cell 0
  have cK01 := K0.cell 1
  have cK02 := K0.cell 2
  have cK03 := K0.cell 3
  have cK04 := K0.cell 4
  have cK05 := K0.cell 5
  simp only [List.getElem?_toArray, List.getElem?_cons_succ, List.getElem?_cons_zero] at cK00 cK01 cK02 cK03 cK04 cK05
  go_wp2_with fail
  refine (H1.out _).mono ?_
  rintro e_ w2 ⟨rfl, hb2⟩
  replace K0 := K0.below hb2 (by first | exact lK0 | (have := lK0; simp; omega))
  replace hbw : Below w.heap.size w w2 := btrans (by (repeat' (first | refine bset ?_ (by first | omega | (simp <;> omega)) _ | refine balloc ?_ _ | refine Below.drew ?_ | refine below_drewN ?_ _ | exact hbw | exact Below.refl _ _))) hb2
  clear hb2 lK0 cK00 cK01 cK02 cK03 cK04 cK05
  have lK0 := K0.lt
  have cK00 := K0.cell 0
  have cK01 := K0.cell 1
  have cK02 := K0.cell 2
  have cK03 := K0.cell 3
  have cK04 := K0.cell 4
  have cK05 := K0.cell 5
  simp only [List.getElem?_toArray, List.getElem?_cons_succ, List.getElem?_cons_zero] at cK00 cK01 cK02 cK03 cK04 cK05
  go_wp2_with fail
  refine (H2.out _).mono ?_
  rintro e_ w3 ⟨rfl, hb3⟩
  replace K0 := (K0.alloc (.cells #[.int .i64 65536, .int .i64 0, .int .i64 0, .int .i64 65536, .int .i64 x, .int .i64 y] 23)).below hb3 (by first | exact lK0 | (have := lK0; simp; omega))
  have Km := (Blk.new w2 23 #[.int .i64 65536, .int .i64 0, .int .i64 0, .int .i64 65536, .int .i64 x, .int .i64 y]).below hb3 (by simp)
  replace hbw : Below w.heap.size w w3 := btrans (by (repeat' (first | refine bset ?_ (by first | omega | (simp <;> omega)) _ | refine balloc ?_ _ | refine Below.drew ?_ | refine below_drewN ?_ _ | exact hbw | exact Below.refl _ _))) hb3
  clear hb3 lK0 cK00 cK01 cK02 cK03 cK04 cK05
  have lK0 := K0.lt
  have cK00 := K0.cell 0
  have cK01 := K0.cell 1
  have cK02 := K0.cell 2
  have cK03 := K0.cell 3
  have cK04 := K0.cell 4
  have cK05 := K0.cell 5
  have lKm := Km.lt
  have cKm0 := Km.cell 0
  have cKm1 := Km.cell 1
  have cKm2 := Km.cell 2
  have cKm3 := Km.cell 3
  have cKm4 := Km.cell 4
  have cKm5 := Km.cell 5
  simp only [List.getElem?_toArray, List.getElem?_cons_succ, List.getElem?_cons_zero] at cK00 cK01 cK02 cK03 cK04 cK05 cKm0 cKm1 cKm2 cKm3 cKm4 cKm5
  go_wp2_with fail
  refine (H3.out _).mono ?_
  rintro e_ w4 ⟨rfl, hsame4⟩
  have hb4 : Below (w3.alloc (.cells #[.int .i64 x, .int .i64 0, .int .i64 0, .int .i64 y, .int .i64 0, .int .i64 0] 23)).heap.size (w3.alloc (.cells #[.int .i64 x, .int .i64 0, .int .i64 0, .int .i64 y, .int .i64 0, .int .i64 0] 23)) w4 := by rw [hsame4]; exact Below.refl _ _
  clear hsame4
  replace K0 := (K0.alloc (.cells #[.int .i64 x, .int .i64 0, .int .i64 0, .int .i64 y, .int .i64 0, .int .i64 0] 23)).below hb4 (by first | exact lK0 | (have := lK0; simp; omega))
  replace Km := (Km.alloc (.cells #[.int .i64 x, .int .i64 0, .int .i64 0, .int .i64 y, .int .i64 0, .int .i64 0] 23)).below hb4 (by first | exact lKm | (have := lKm; simp; omega))
  have Ks := (Blk.new w3 23 #[.int .i64 x, .int .i64 0, .int .i64 0, .int .i64 y, .int .i64 0, .int .i64 0]).below hb4 (by simp)
  replace hbw : Below w.heap.size w w4 := btrans (by (repeat' (first | refine bset ?_ (by first | omega | (simp <;> omega)) _ | refine balloc ?_ _ | refine Below.drew ?_ | refine below_drewN ?_ _ | exact hbw | exact Below.refl _ _))) hb4
  clear hb4 lK0 cK00 cK01 cK02 cK03 cK04 cK05 lKm cKm0 cKm1 cKm2 cKm3 cKm4 cKm5
  have lK0 := K0.lt
  have cK00 := K0.cell 0
  have cK01 := K0.cell 1
  have cK02 := K0.cell 2
  have cK03 := K0.cell 3
  have cK04 := K0.cell 4
  have cK05 := K0.cell 5
  have lKm := Km.lt
  have cKm0 := Km.cell 0
  have cKm1 := Km.cell 1
  have cKm2 := Km.cell 2
  have cKm3 := Km.cell 3
  have cKm4 := Km.cell 4
  have cKm5 := Km.cell 5
  have lKs := Ks.lt
  have cKs0 := Ks.cell 0
  have cKs1 := Ks.cell 1
  have cKs2 := Ks.cell 2
  have cKs3 := Ks.cell 3
  have cKs4 := Ks.cell 4
  have cKs5 := Ks.cell 5
  simp only [List.getElem?_toArray, List.getElem?_cons_succ, List.getElem?_cons_zero] at cK00 cK01 cK02 cK03 cK04 cK05 cKm0 cKm1 cKm2 cKm3 cKm4 cKm5 cKs0 cKs1 cKs2 cKs3 cKs4 cKs5
  go_wp2_with fail
  refine (H4.out _).mono ?_
  rintro e_ w_ ⟨rfl, rfl⟩
  go_wp2_with fail
  have HUM := Lib.hid (fun u : Up w4 => up_of (u := u) (HrM.out u.val))
  have HUS := Lib.hid (fun u : Up w4 => up_of (u := u) (HrS.out u.val))
  have uKm0 : ∀ u : Up w4, u.val.cell? ⟨w2.heap.size, 0, none⟩ = some (.int .i64 65536) := fun u => (u.cell lKm).trans cKm0
  have uKm1 : ∀ u : Up w4, u.val.cell? ⟨w2.heap.size, 1, none⟩ = some (.int .i64 0) := fun u => (u.cell lKm).trans cKm1
  have uKm2 : ∀ u : Up w4, u.val.cell? ⟨w2.heap.size, 2, none⟩ = some (.int .i64 0) := fun u => (u.cell lKm).trans cKm2
  have uKm3 : ∀ u : Up w4, u.val.cell? ⟨w2.heap.size, 3, none⟩ = some (.int .i64 65536) := fun u => (u.cell lKm).trans cKm3
  have uKm4 : ∀ u : Up w4, u.val.cell? ⟨w2.heap.size, 4, none⟩ = some (.int .i64 x) := fun u => (u.cell lKm).trans cKm4
  have uKm5 : ∀ u : Up w4, u.val.cell? ⟨w2.heap.size, 5, none⟩ = some (.int .i64 y) := fun u => (u.cell lKm).trans cKm5
  have uKs0 : ∀ u : Up w4, u.val.cell? ⟨w3.heap.size, 0, none⟩ = some (.int .i64 x) := fun u => (u.cell lKs).trans cKs0
  have uKs1 : ∀ u : Up w4, u.val.cell? ⟨w3.heap.size, 1, none⟩ = some (.int .i64 0) := fun u => (u.cell lKs).trans cKs1
  have uKs2 : ∀ u : Up w4, u.val.cell? ⟨w3.heap.size, 2, none⟩ = some (.int .i64 0) := fun u => (u.cell lKs).trans cKs2
  have uKs3 : ∀ u : Up w4, u.val.cell? ⟨w3.heap.size, 3, none⟩ = some (.int .i64 y) := fun u => (u.cell lKs).trans cKs3
  have uKs4 : ∀ u : Up w4, u.val.cell? ⟨w3.heap.size, 4, none⟩ = some (.int .i64 0) := fun u => (u.cell lKs).trans cKs4
  have uKs5 : ∀ u : Up w4, u.val.cell? ⟨w3.heap.size, 5, none⟩ = some (.int .i64 0) := fun u => (u.cell lKs).trans cKs5
  refine wp_region_up (by kernel_rfl) (by kernel_rfl) ?_
  repeat (go_big_quiet_step (fail))
  go_big_quiet_step (exact HUM.out _)
  repeat (go_big_quiet_step (fail))
  go_big_quiet_step (exact HUS.out _)
  repeat (go_big_quiet_step (fail))
  refine wpQuiet_nil ?_
  rintro _ ⟨uq, rfl⟩
  replace hbw := btrans hbw uq.ok
  clear HUM HUS
  replace K0 := K0.below uq.ok lK0
  generalize hwx : uq.val = wy at *
  clear hwx uq Km Ks uKm0 uKs0 cKm0 cKs0 cK00 uKm1 uKs1 cKm1 cKs1 cK01 uKm2 uKs2 cKm2 cKs2 cK02 uKm3 uKs3 cKm3 cKs3 cK03 uKm4 uKs4 cKm4 cKs4 cK04 uKm5 uKs5 cKm5 cKs5 cK05 lK0 lKm lKs
  have lK0 := K0.lt
  have cK00 := K0.cell 0
  have cK01 := K0.cell 1
  have cK02 := K0.cell 2
  have cK03 := K0.cell 3
  have cK04 := K0.cell 4
  have cK05 := K0.cell 5
  simp only [List.getElem?_toArray, List.getElem?_cons_succ, List.getElem?_cons_zero] at cK00 cK01 cK02 cK03 cK04 cK05
  go_wp2_with fail
  refine (H5.out _).mono ?_
  rintro e_ w5 ⟨rfl, hb5⟩
  replace K0 := K0.below hb5 (by first | exact lK0 | (have := lK0; simp; omega))
  replace hbw : Below w.heap.size w w5 := btrans (by (repeat' (first | refine bset ?_ (by first | omega | (simp <;> omega)) _ | refine balloc ?_ _ | refine Below.drew ?_ | refine below_drewN ?_ _ | exact hbw | exact Below.refl _ _))) hb5
  clear hb5 lK0 cK00 cK01 cK02 cK03 cK04 cK05
  have lK0 := K0.lt
  have cK00 := K0.cell 0
  have cK01 := K0.cell 1
  have cK02 := K0.cell 2
  have cK03 := K0.cell 3
  have cK04 := K0.cell 4
  have cK05 := K0.cell 5
  simp only [List.getElem?_toArray, List.getElem?_cons_succ, List.getElem?_cons_zero] at cK00 cK01 cK02 cK03 cK04 cK05
  go_wp2_with fail
  replace K0 := K0.alloc (.cells #[.int .i64 1048576, .int .i64 0, .int .i64 0, .int .i64 (-1048576), .int .i64 0, .int .i64 F0] 23)
  have Kd := Blk.new w5 23 #[.int .i64 1048576, .int .i64 0, .int .i64 0, .int .i64 (-1048576), .int .i64 0, .int .i64 F0]
  replace hbw : Below w.heap.size w (w5.alloc (.cells #[.int .i64 1048576, .int .i64 0, .int .i64 0, .int .i64 (-1048576), .int .i64 0, .int .i64 F0] 23)) := by (repeat' (first | exact hbw | exact Below.refl _ _ | refine balloc ?_ _ | refine Below.drew ?_ | refine below_drewN ?_ _ | refine bset ?_ (by first | omega | (simp <;> omega)) _))
  obtain ⟨Pd, hPd⟩ : ∃ P, w5.heap.size = P := ⟨_, rfl⟩
  rw [hPd] at Kd ⊢
  generalize hwx : (w5.alloc (.cells #[.int .i64 1048576, .int .i64 0, .int .i64 0, .int .i64 (-1048576), .int .i64 0, .int .i64 F0] 23)) = wz at *
  clear hwx hPd lK0 cK00 cK01 cK02 cK03 cK04 cK05
  have lK0 := K0.lt
  have cK00 := K0.cell 0
  have cK01 := K0.cell 1
  have cK02 := K0.cell 2
  have cK03 := K0.cell 3
  have cK04 := K0.cell 4
  have cK05 := K0.cell 5
  have lKd := Kd.lt
  have cKd0 := Kd.cell 0
  have cKd1 := Kd.cell 1
  have cKd2 := Kd.cell 2
  have cKd3 := Kd.cell 3
  have cKd4 := Kd.cell 4
  have cKd5 := Kd.cell 5
  simp only [List.getElem?_toArray, List.getElem?_cons_succ, List.getElem?_cons_zero] at cK00 cKd0 cK01 cKd1 cK02 cKd2 cK03 cKd3 cK04 cKd4 cK05 cKd5
  have HU6 := Lib.hid (fun u : Up wz => up_same (u := u) (H6.out u.val))
  have HU7 := Lib.hid (fun u : Up wz => up_of (u := u) (H7.out u.val))
  have uKd0 : ∀ u : Up wz, u.val.cell? ⟨Pd, 0, none⟩ = some (.int .i64 1048576) := fun u => (u.cell lKd).trans cKd0
  have uKd1 : ∀ u : Up wz, u.val.cell? ⟨Pd, 1, none⟩ = some (.int .i64 0) := fun u => (u.cell lKd).trans cKd1
  have uKd2 : ∀ u : Up wz, u.val.cell? ⟨Pd, 2, none⟩ = some (.int .i64 0) := fun u => (u.cell lKd).trans cKd2
  have uKd3 : ∀ u : Up wz, u.val.cell? ⟨Pd, 3, none⟩ = some (.int .i64 (-1048576)) := fun u => (u.cell lKd).trans cKd3
  have uKd4 : ∀ u : Up wz, u.val.cell? ⟨Pd, 4, none⟩ = some (.int .i64 0) := fun u => (u.cell lKd).trans cKd4
  have uKd5 : ∀ u : Up wz, u.val.cell? ⟨Pd, 5, none⟩ = some (.int .i64 F0) := fun u => (u.cell lKd).trans cKd5
  refine wp_region_up (by kernel_rfl) (by kernel_rfl) ?_
  repeat (go_big_quiet_step (fail))
  go_big_quiet_step (exact HU6.out _)
  repeat (go_big_quiet_step (fail))
  go_big_quiet_step (exact HU7.out _)
  repeat (go_big_quiet_step (fail))
  go_big_quiet_step (exact HU6.out _)
  repeat (go_big_quiet_step (fail))
  refine wpQuiet_nil ?_
  rintro _ ⟨uq, rfl⟩
  replace hbw := btrans hbw uq.ok
  replace K0 := K0.below uq.ok lK0
  generalize hwx : uq.val = wt at *
  clear hwx uq Kd HU6 HU7 uKd0 cKd0 cK00 uKd1 cKd1 cK01 uKd2 cKd2 cK02 uKd3 cKd3 cK03 uKd4 cKd4 cK04 uKd5 cKd5 cK05 lK0 lKd
  have lK0 := K0.lt
  have cK00 := K0.cell 0
  have cK01 := K0.cell 1
  have cK02 := K0.cell 2
  have cK03 := K0.cell 3
  have cK04 := K0.cell 4
  have cK05 := K0.cell 5
  simp only [List.getElem?_toArray, List.getElem?_cons_succ, List.getElem?_cons_zero] at cK00 cK01 cK02 cK03 cK04 cK05
  go_wp2_with fail
  refine (H8.out _).mono ?_
  rintro e_ w6 ⟨rfl, hb6⟩
  replace K0 := K0.below hb6 (by first | exact lK0 | (have := lK0; simp; omega))
  replace hbw : Below w.heap.size w w6 := btrans (by (repeat' (first | refine bset ?_ (by first | omega | (simp <;> omega)) _ | refine balloc ?_ _ | refine Below.drew ?_ | refine below_drewN ?_ _ | exact hbw | exact Below.refl _ _))) hb6
  clear hb6 lK0 cK00 cK01 cK02 cK03 cK04 cK05
  have lK0 := K0.lt
  have cK00 := K0.cell 0
  have cK01 := K0.cell 1
  have cK02 := K0.cell 2
  have cK03 := K0.cell 3
  have cK04 := K0.cell 4
  have cK05 := K0.cell 5
  simp only [List.getElem?_toArray, List.getElem?_cons_succ, List.getElem?_cons_zero] at cK00 cK01 cK02 cK03 cK04 cK05
  go_wp2_with fail
  refine (H9.out _).mono ?_
  rintro e_ w7 ⟨rfl, hb7⟩
  replace K0 := K0.below hb7 (by first | exact lK0 | (have := lK0; simp; omega))
  replace hbw : Below w.heap.size w w7 := btrans (by (repeat' (first | refine bset ?_ (by first | omega | (simp <;> omega)) _ | refine balloc ?_ _ | refine Below.drew ?_ | refine below_drewN ?_ _ | exact hbw | exact Below.refl _ _))) hb7
  clear hb7 lK0 cK00 cK01 cK02 cK03 cK04 cK05
  have lK0 := K0.lt
  have cK00 := K0.cell 0
  have cK01 := K0.cell 1
  have cK02 := K0.cell 2
  have cK03 := K0.cell 3
  have cK04 := K0.cell 4
  have cK05 := K0.cell 5
  simp only [List.getElem?_toArray, List.getElem?_cons_succ, List.getElem?_cons_zero] at cK00 cK01 cK02 cK03 cK04 cK05
  go_wp2_with fail
  refine (one_any _).mono ?_
  rintro e_ w8 ⟨rfl, hb8⟩
  replace K0 := K0.below hb8 (by first | exact lK0 | (have := lK0; simp; omega))
  replace hbw : Below w.heap.size w w8 := btrans (by (repeat' (first | refine bset ?_ (by first | omega | (simp <;> omega)) _ | refine balloc ?_ _ | refine Below.drew ?_ | refine below_drewN ?_ _ | exact hbw | exact Below.refl _ _))) hb8
  clear hb8 lK0 cK00 cK01 cK02 cK03 cK04 cK05
  have lK0 := K0.lt
  have cK00 := K0.cell 0
  have cK01 := K0.cell 1
  have cK02 := K0.cell 2
  have cK03 := K0.cell 3
  have cK04 := K0.cell 4
  have cK05 := K0.cell 5
  simp only [List.getElem?_toArray, List.getElem?_cons_succ, List.getElem?_cons_zero] at cK00 cK01 cK02 cK03 cK04 cK05
  go_wp2_with fail
  refine (HWh.out _).mono ?_
  rintro e_ w9 ⟨rfl, hb9⟩
  replace K0 := K0.below hb9 (by first | exact lK0 | (have := lK0; simp; omega))
  replace hbw : Below w.heap.size w w9 := btrans (by (repeat' (first | refine bset ?_ (by first | omega | (simp <;> omega)) _ | refine balloc ?_ _ | refine Below.drew ?_ | refine below_drewN ?_ _ | exact hbw | exact Below.refl _ _))) hb9
  clear hb9 lK0 cK00 cK01 cK02 cK03 cK04 cK05
  have lK0 := K0.lt
  have cK00 := K0.cell 0
  have cK01 := K0.cell 1
  have cK02 := K0.cell 2
  have cK03 := K0.cell 3
  have cK04 := K0.cell 4
  have cK05 := K0.cell 5
  simp only [List.getElem?_toArray, List.getElem?_cons_succ, List.getElem?_cons_zero] at cK00 cK01 cK02 cK03 cK04 cK05
  go_wp2_with fail
  go_ret
  exact ⟨rfl, hbw⟩

set_option maxRecDepth 100000 in
set_option maxHeartbeats 3200000 in
theorem makes_yo (A B C D E F x y F0 s t : Int) (w : World)
    (h1 : ∀ W, Calls Try.prog 16 #[.int .i64 x, .int .i64 y] W fun ed w' => ed = .returned (.tuple #[.agg #[.int .i64 65536, .int .i64 0, .int .i64 0, .int .i64 65536, .int .i64 x, .int .i64 y], .int .i64 0]) ∧ Below W.heap.size W w')
    (h2 : ∀ W, Calls Try.prog 17 #[.int .i64 x, .int .i64 y] W fun ed w' => ed = .returned (.tuple #[.agg #[.int .i64 x, .int .i64 0, .int .i64 0, .int .i64 y, .int .i64 0, .int .i64 0], .int .i64 0]) ∧ Below W.heap.size W w')
    (h3 : ∀ W, Calls Try.prog 18 #[.int .i64 x] W fun ed w' => ed = .returned (.bool true) ∧ W = w')
    (h4 : ∀ W, Calls Try.prog 18 #[.int .i64 y] W fun ed w' => ed = .returned (.bool true) ∧ W = w')
    (h5 : ∀ W, Calls Try.prog 21 #[.int .i64 x] W fun ed w' => ed = .returned (.tuple #[.agg #[.int .i64 0, .int .i64 0, .int .i64 0, .int .i64 0, .int .i64 0, .int .i64 0], .int .i64 1]) ∧ Below W.heap.size W w')
    (h6 : ∀ W, Calls Try.prog 22 #[.int .i64 x] W fun ed w' => ed = .returned (.bool false) ∧ W = w')
    
    (h8 : ∀ W, Calls Try.prog 24 #[.agg #[.int .i64 A, .int .i64 B, .int .i64 C, .int .i64 D, .int .i64 E, .int .i64 F], .int .i64 y] W fun ed w' => ed = .returned (.tuple #[.int .i64 s, .int .i64 t]) ∧ Below W.heap.size W w') (h9 : ∀ W, Calls Try.prog 25 #[.agg #[.int .i64 A, .int .i64 B, .int .i64 C, .int .i64 D, .int .i64 E, .int .i64 F], .int .i64 y] W fun ed w' => ed = .returned (.tuple #[.int .i64 s, .int .i64 t]) ∧ Below W.heap.size W w') :
    Calls Try.prog 3 #[.agg #[.int .i64 A, .int .i64 B, .int .i64 C, .int .i64 D, .int .i64 E, .int .i64 F], .int .i64 x, .int .i64 y] w fun ed w' => ed = .returned (.bool true) ∧ Below w.heap.size w w' := by
  have H1 := Lib.hid h1
  clear h1
  have H2 := Lib.hid h2
  clear h2
  have H3 := Lib.hid h3
  clear h3
  have H4 := Lib.hid h4
  clear h4
  have H5 := Lib.hid h5
  clear h5
  have H6 := Lib.hid h6
  clear h6
  have H8 := Lib.hid h8
  clear h8
  have H9 := Lib.hid h9
  clear h9
  have HrM := Lib.hid (fun W => rMove_any x y W)
  have HrS := Lib.hid (fun W => rSize_any x y W)
  have HWh := Lib.hid (fun W => show Calls Try.prog 27 #[.int .i64 1, .int .i64 0, .int .i64 0, .int .i64 1, .int .i64 0, .int .i64 0] W fun ed w' => ed = .returned (.agg #[.int .i64 65536, .int .i64 0, .int .i64 0, .int .i64 65536, .int .i64 0, .int .i64 0]) ∧ Below W.heap.size W w' by exact Whole_any 1 0 0 1 0 0 W (by omega) (by omega) (by omega) (by omega) (by omega) (by omega))
  have JG := guard_mat
  have JN := guard_mat_ne
  have J1 : ∀ w, (binOp .neq 23 (.agg #[.int .i64 65536, .int .i64 0, .int .i64 0, .int .i64 65536, .int .i64 x, .int .i64 y]) (.agg #[.int .i64 65536, .int .i64 0, .int .i64 0, .int .i64 65536, .int .i64 x, .int .i64 y])).run Try.prog w = .ok (.bool false) w := fun w => by
    have := ne_mat 65536 0 0 65536 x y 65536 0 0 65536 x y w
    rw [eqB_refl] at this
    exact this
  have J2 : ∀ w, (binOp .neq 23 (.agg #[.int .i64 x, .int .i64 0, .int .i64 0, .int .i64 y, .int .i64 0, .int .i64 0]) (.agg #[.int .i64 x, .int .i64 0, .int .i64 0, .int .i64 y, .int .i64 0, .int .i64 0])).run Try.prog w = .ok (.bool false) w := fun w => by
    have := ne_mat x 0 0 y 0 0 x 0 0 y 0 0 w
    rw [eqB_refl] at this
    exact this
  have J3 : ∀ w, (binOp .neq 23 (.agg #[.int .i64 0, .int .i64 0, .int .i64 0, .int .i64 0, .int .i64 0, .int .i64 0]) (.agg #[.int .i64 0, .int .i64 0, .int .i64 0, .int .i64 0, .int .i64 0, .int .i64 0])).run Try.prog w = .ok (.bool false) w := fun w => by
    have := ne_mat 0 0 0 0 0 0 0 0 0 0 0 0 w
    rw [eqB_refl] at this
    exact this
  have J5 : ∀ w, (binOp .eql 23 (.agg #[.int .i64 65536, .int .i64 0, .int .i64 0, .int .i64 65536, .int .i64 0, .int .i64 0]) (.agg #[.int .i64 65536, .int .i64 0, .int .i64 0, .int .i64 65536, .int .i64 0, .int .i64 0])).run Try.prog w = .ok (.bool true) w := fun w => eq_mat 65536 0 0 65536 0 0 65536 0 0 65536 0 0 w
  go_enter Try.func3, Try.ntmps3
  go_wp2_with fail
  refine (known_any _).mono ?_
  rintro e_ w1 ⟨rfl, hb1⟩
  have K0 := (Blk.new w 23 #[.int .i64 A, .int .i64 B, .int .i64 C, .int .i64 D, .int .i64 E, .int .i64 F]).below hb1 (by simp)
  have hbw : Below w.heap.size w w1 := btrans (by (repeat' (first | exact Below.refl _ _ | exact Below.refl _ _ | refine balloc ?_ _ | refine Below.drew ?_ | refine below_drewN ?_ _ | refine bset ?_ (by first | omega | (simp <;> omega)) _))) hb1
  clear hb1
  have lK0 := K0.lt
  have cK00 := K0.cell 0
  have cK01 := K0.cell 1
  have cK02 := K0.cell 2
  have cK03 := K0.cell 3
  have cK04 := K0.cell 4
  have cK05 := K0.cell 5
  simp only [List.getElem?_toArray, List.getElem?_cons_succ, List.getElem?_cons_zero] at cK00 cK01 cK02 cK03 cK04 cK05
  go_wp2_with fail
  refine (H1.out _).mono ?_
  rintro e_ w2 ⟨rfl, hb2⟩
  replace K0 := K0.below hb2 (by first | exact lK0 | (have := lK0; simp; omega))
  replace hbw : Below w.heap.size w w2 := btrans (by (repeat' (first | refine bset ?_ (by first | omega | (simp <;> omega)) _ | refine balloc ?_ _ | refine Below.drew ?_ | refine below_drewN ?_ _ | exact hbw | exact Below.refl _ _))) hb2
  clear hb2 lK0 cK00 cK01 cK02 cK03 cK04 cK05
  have lK0 := K0.lt
  have cK00 := K0.cell 0
  have cK01 := K0.cell 1
  have cK02 := K0.cell 2
  have cK03 := K0.cell 3
  have cK04 := K0.cell 4
  have cK05 := K0.cell 5
  simp only [List.getElem?_toArray, List.getElem?_cons_succ, List.getElem?_cons_zero] at cK00 cK01 cK02 cK03 cK04 cK05
  go_wp2_with fail
  refine (H2.out _).mono ?_
  rintro e_ w3 ⟨rfl, hb3⟩
  replace K0 := (K0.alloc (.cells #[.int .i64 65536, .int .i64 0, .int .i64 0, .int .i64 65536, .int .i64 x, .int .i64 y] 23)).below hb3 (by first | exact lK0 | (have := lK0; simp; omega))
  have Km := (Blk.new w2 23 #[.int .i64 65536, .int .i64 0, .int .i64 0, .int .i64 65536, .int .i64 x, .int .i64 y]).below hb3 (by simp)
  replace hbw : Below w.heap.size w w3 := btrans (by (repeat' (first | refine bset ?_ (by first | omega | (simp <;> omega)) _ | refine balloc ?_ _ | refine Below.drew ?_ | refine below_drewN ?_ _ | exact hbw | exact Below.refl _ _))) hb3
  clear hb3 lK0 cK00 cK01 cK02 cK03 cK04 cK05
  have lK0 := K0.lt
  have cK00 := K0.cell 0
  have cK01 := K0.cell 1
  have cK02 := K0.cell 2
  have cK03 := K0.cell 3
  have cK04 := K0.cell 4
  have cK05 := K0.cell 5
  have lKm := Km.lt
  have cKm0 := Km.cell 0
  have cKm1 := Km.cell 1
  have cKm2 := Km.cell 2
  have cKm3 := Km.cell 3
  have cKm4 := Km.cell 4
  have cKm5 := Km.cell 5
  simp only [List.getElem?_toArray, List.getElem?_cons_succ, List.getElem?_cons_zero] at cK00 cK01 cK02 cK03 cK04 cK05 cKm0 cKm1 cKm2 cKm3 cKm4 cKm5
  go_wp2_with fail
  refine (H3.out _).mono ?_
  rintro e_ w4 ⟨rfl, hsame4⟩
  have hb4 : Below (w3.alloc (.cells #[.int .i64 x, .int .i64 0, .int .i64 0, .int .i64 y, .int .i64 0, .int .i64 0] 23)).heap.size (w3.alloc (.cells #[.int .i64 x, .int .i64 0, .int .i64 0, .int .i64 y, .int .i64 0, .int .i64 0] 23)) w4 := by rw [hsame4]; exact Below.refl _ _
  clear hsame4
  replace K0 := (K0.alloc (.cells #[.int .i64 x, .int .i64 0, .int .i64 0, .int .i64 y, .int .i64 0, .int .i64 0] 23)).below hb4 (by first | exact lK0 | (have := lK0; simp; omega))
  replace Km := (Km.alloc (.cells #[.int .i64 x, .int .i64 0, .int .i64 0, .int .i64 y, .int .i64 0, .int .i64 0] 23)).below hb4 (by first | exact lKm | (have := lKm; simp; omega))
  have Ks := (Blk.new w3 23 #[.int .i64 x, .int .i64 0, .int .i64 0, .int .i64 y, .int .i64 0, .int .i64 0]).below hb4 (by simp)
  replace hbw : Below w.heap.size w w4 := btrans (by (repeat' (first | refine bset ?_ (by first | omega | (simp <;> omega)) _ | refine balloc ?_ _ | refine Below.drew ?_ | refine below_drewN ?_ _ | exact hbw | exact Below.refl _ _))) hb4
  clear hb4 lK0 cK00 cK01 cK02 cK03 cK04 cK05 lKm cKm0 cKm1 cKm2 cKm3 cKm4 cKm5
  have lK0 := K0.lt
  have cK00 := K0.cell 0
  have cK01 := K0.cell 1
  have cK02 := K0.cell 2
  have cK03 := K0.cell 3
  have cK04 := K0.cell 4
  have cK05 := K0.cell 5
  have lKm := Km.lt
  have cKm0 := Km.cell 0
  have cKm1 := Km.cell 1
  have cKm2 := Km.cell 2
  have cKm3 := Km.cell 3
  have cKm4 := Km.cell 4
  have cKm5 := Km.cell 5
  have lKs := Ks.lt
  have cKs0 := Ks.cell 0
  have cKs1 := Ks.cell 1
  have cKs2 := Ks.cell 2
  have cKs3 := Ks.cell 3
  have cKs4 := Ks.cell 4
  have cKs5 := Ks.cell 5
  simp only [List.getElem?_toArray, List.getElem?_cons_succ, List.getElem?_cons_zero] at cK00 cK01 cK02 cK03 cK04 cK05 cKm0 cKm1 cKm2 cKm3 cKm4 cKm5 cKs0 cKs1 cKs2 cKs3 cKs4 cKs5
  go_wp2_with fail
  refine (H4.out _).mono ?_
  rintro e_ w_ ⟨rfl, rfl⟩
  go_wp2_with fail
  have HUM := Lib.hid (fun u : Up w4 => up_of (u := u) (HrM.out u.val))
  have HUS := Lib.hid (fun u : Up w4 => up_of (u := u) (HrS.out u.val))
  have uKm0 : ∀ u : Up w4, u.val.cell? ⟨w2.heap.size, 0, none⟩ = some (.int .i64 65536) := fun u => (u.cell lKm).trans cKm0
  have uKm1 : ∀ u : Up w4, u.val.cell? ⟨w2.heap.size, 1, none⟩ = some (.int .i64 0) := fun u => (u.cell lKm).trans cKm1
  have uKm2 : ∀ u : Up w4, u.val.cell? ⟨w2.heap.size, 2, none⟩ = some (.int .i64 0) := fun u => (u.cell lKm).trans cKm2
  have uKm3 : ∀ u : Up w4, u.val.cell? ⟨w2.heap.size, 3, none⟩ = some (.int .i64 65536) := fun u => (u.cell lKm).trans cKm3
  have uKm4 : ∀ u : Up w4, u.val.cell? ⟨w2.heap.size, 4, none⟩ = some (.int .i64 x) := fun u => (u.cell lKm).trans cKm4
  have uKm5 : ∀ u : Up w4, u.val.cell? ⟨w2.heap.size, 5, none⟩ = some (.int .i64 y) := fun u => (u.cell lKm).trans cKm5
  have uKs0 : ∀ u : Up w4, u.val.cell? ⟨w3.heap.size, 0, none⟩ = some (.int .i64 x) := fun u => (u.cell lKs).trans cKs0
  have uKs1 : ∀ u : Up w4, u.val.cell? ⟨w3.heap.size, 1, none⟩ = some (.int .i64 0) := fun u => (u.cell lKs).trans cKs1
  have uKs2 : ∀ u : Up w4, u.val.cell? ⟨w3.heap.size, 2, none⟩ = some (.int .i64 0) := fun u => (u.cell lKs).trans cKs2
  have uKs3 : ∀ u : Up w4, u.val.cell? ⟨w3.heap.size, 3, none⟩ = some (.int .i64 y) := fun u => (u.cell lKs).trans cKs3
  have uKs4 : ∀ u : Up w4, u.val.cell? ⟨w3.heap.size, 4, none⟩ = some (.int .i64 0) := fun u => (u.cell lKs).trans cKs4
  have uKs5 : ∀ u : Up w4, u.val.cell? ⟨w3.heap.size, 5, none⟩ = some (.int .i64 0) := fun u => (u.cell lKs).trans cKs5
  refine wp_region_up (by kernel_rfl) (by kernel_rfl) ?_
  repeat (go_big_quiet_step (fail))
  go_big_quiet_step (exact HUM.out _)
  repeat (go_big_quiet_step (fail))
  go_big_quiet_step (exact HUS.out _)
  repeat (go_big_quiet_step (fail))
  refine wpQuiet_nil ?_
  rintro _ ⟨uq, rfl⟩
  replace hbw := btrans hbw uq.ok
  clear HUM HUS
  replace K0 := K0.below uq.ok lK0
  generalize hwx : uq.val = wy at *
  clear hwx uq Km Ks uKm0 uKs0 cKm0 cKs0 cK00 uKm1 uKs1 cKm1 cKs1 cK01 uKm2 uKs2 cKm2 cKs2 cK02 uKm3 uKs3 cKm3 cKs3 cK03 uKm4 uKs4 cKm4 cKs4 cK04 uKm5 uKs5 cKm5 cKs5 cK05 lK0 lKm lKs
  have lK0 := K0.lt
  have cK00 := K0.cell 0
  have cK01 := K0.cell 1
  have cK02 := K0.cell 2
  have cK03 := K0.cell 3
  have cK04 := K0.cell 4
  have cK05 := K0.cell 5
  simp only [List.getElem?_toArray, List.getElem?_cons_succ, List.getElem?_cons_zero] at cK00 cK01 cK02 cK03 cK04 cK05
  go_wp2_with fail
  refine (H5.out _).mono ?_
  rintro e_ w5 ⟨rfl, hb5⟩
  replace K0 := K0.below hb5 (by first | exact lK0 | (have := lK0; simp; omega))
  replace hbw : Below w.heap.size w w5 := btrans (by (repeat' (first | refine bset ?_ (by first | omega | (simp <;> omega)) _ | refine balloc ?_ _ | refine Below.drew ?_ | refine below_drewN ?_ _ | exact hbw | exact Below.refl _ _))) hb5
  clear hb5 lK0 cK00 cK01 cK02 cK03 cK04 cK05
  have lK0 := K0.lt
  have cK00 := K0.cell 0
  have cK01 := K0.cell 1
  have cK02 := K0.cell 2
  have cK03 := K0.cell 3
  have cK04 := K0.cell 4
  have cK05 := K0.cell 5
  simp only [List.getElem?_toArray, List.getElem?_cons_succ, List.getElem?_cons_zero] at cK00 cK01 cK02 cK03 cK04 cK05
  go_wp2_with fail
  replace K0 := K0.alloc (.cells #[.int .i64 0, .int .i64 0, .int .i64 0, .int .i64 0, .int .i64 0, .int .i64 0] 23)
  have Kd := Blk.new w5 23 #[.int .i64 0, .int .i64 0, .int .i64 0, .int .i64 0, .int .i64 0, .int .i64 0]
  replace hbw : Below w.heap.size w (w5.alloc (.cells #[.int .i64 0, .int .i64 0, .int .i64 0, .int .i64 0, .int .i64 0, .int .i64 0] 23)) := by (repeat' (first | exact hbw | exact Below.refl _ _ | refine balloc ?_ _ | refine Below.drew ?_ | refine below_drewN ?_ _ | refine bset ?_ (by first | omega | (simp <;> omega)) _))
  obtain ⟨Pd, hPd⟩ : ∃ P, w5.heap.size = P := ⟨_, rfl⟩
  rw [hPd] at Kd ⊢
  generalize hwx : (w5.alloc (.cells #[.int .i64 0, .int .i64 0, .int .i64 0, .int .i64 0, .int .i64 0, .int .i64 0] 23)) = wz at *
  clear hwx hPd lK0 cK00 cK01 cK02 cK03 cK04 cK05
  have lK0 := K0.lt
  have cK00 := K0.cell 0
  have cK01 := K0.cell 1
  have cK02 := K0.cell 2
  have cK03 := K0.cell 3
  have cK04 := K0.cell 4
  have cK05 := K0.cell 5
  have lKd := Kd.lt
  have cKd0 := Kd.cell 0
  have cKd1 := Kd.cell 1
  have cKd2 := Kd.cell 2
  have cKd3 := Kd.cell 3
  have cKd4 := Kd.cell 4
  have cKd5 := Kd.cell 5
  simp only [List.getElem?_toArray, List.getElem?_cons_succ, List.getElem?_cons_zero] at cK00 cKd0 cK01 cKd1 cK02 cKd2 cK03 cKd3 cK04 cKd4 cK05 cKd5
  have HU6 := Lib.hid (fun u : Up wz => up_same (u := u) (H6.out u.val))
  have uKd0 : ∀ u : Up wz, u.val.cell? ⟨Pd, 0, none⟩ = some (.int .i64 0) := fun u => (u.cell lKd).trans cKd0
  have uKd1 : ∀ u : Up wz, u.val.cell? ⟨Pd, 1, none⟩ = some (.int .i64 0) := fun u => (u.cell lKd).trans cKd1
  have uKd2 : ∀ u : Up wz, u.val.cell? ⟨Pd, 2, none⟩ = some (.int .i64 0) := fun u => (u.cell lKd).trans cKd2
  have uKd3 : ∀ u : Up wz, u.val.cell? ⟨Pd, 3, none⟩ = some (.int .i64 0) := fun u => (u.cell lKd).trans cKd3
  have uKd4 : ∀ u : Up wz, u.val.cell? ⟨Pd, 4, none⟩ = some (.int .i64 0) := fun u => (u.cell lKd).trans cKd4
  have uKd5 : ∀ u : Up wz, u.val.cell? ⟨Pd, 5, none⟩ = some (.int .i64 0) := fun u => (u.cell lKd).trans cKd5
  refine wp_region_up (by kernel_rfl) (by kernel_rfl) ?_
  repeat (go_big_quiet_step (fail))
  go_big_quiet_step (exact HU6.out _)
  repeat (go_big_quiet_step (fail))
  go_big_quiet_step (exact HU6.out _)
  repeat (go_big_quiet_step (fail))
  refine wpQuiet_nil ?_
  rintro _ ⟨uq, rfl⟩
  replace hbw := btrans hbw uq.ok
  replace K0 := K0.below uq.ok lK0
  generalize hwx : uq.val = wt at *
  clear hwx uq Kd HU6 uKd0 cKd0 cK00 uKd1 cKd1 cK01 uKd2 cKd2 cK02 uKd3 cKd3 cK03 uKd4 cKd4 cK04 uKd5 cKd5 cK05 lK0 lKd
  have lK0 := K0.lt
  have cK00 := K0.cell 0
  have cK01 := K0.cell 1
  have cK02 := K0.cell 2
  have cK03 := K0.cell 3
  have cK04 := K0.cell 4
  have cK05 := K0.cell 5
  simp only [List.getElem?_toArray, List.getElem?_cons_succ, List.getElem?_cons_zero] at cK00 cK01 cK02 cK03 cK04 cK05
  go_wp2_with fail
  refine (H8.out _).mono ?_
  rintro e_ w6 ⟨rfl, hb6⟩
  replace K0 := K0.below hb6 (by first | exact lK0 | (have := lK0; simp; omega))
  replace hbw : Below w.heap.size w w6 := btrans (by (repeat' (first | refine bset ?_ (by first | omega | (simp <;> omega)) _ | refine balloc ?_ _ | refine Below.drew ?_ | refine below_drewN ?_ _ | exact hbw | exact Below.refl _ _))) hb6
  clear hb6 lK0 cK00 cK01 cK02 cK03 cK04 cK05
  have lK0 := K0.lt
  have cK00 := K0.cell 0
  have cK01 := K0.cell 1
  have cK02 := K0.cell 2
  have cK03 := K0.cell 3
  have cK04 := K0.cell 4
  have cK05 := K0.cell 5
  simp only [List.getElem?_toArray, List.getElem?_cons_succ, List.getElem?_cons_zero] at cK00 cK01 cK02 cK03 cK04 cK05
  go_wp2_with fail
  refine (H9.out _).mono ?_
  rintro e_ w7 ⟨rfl, hb7⟩
  replace K0 := K0.below hb7 (by first | exact lK0 | (have := lK0; simp; omega))
  replace hbw : Below w.heap.size w w7 := btrans (by (repeat' (first | refine bset ?_ (by first | omega | (simp <;> omega)) _ | refine balloc ?_ _ | refine Below.drew ?_ | refine below_drewN ?_ _ | exact hbw | exact Below.refl _ _))) hb7
  clear hb7 lK0 cK00 cK01 cK02 cK03 cK04 cK05
  have lK0 := K0.lt
  have cK00 := K0.cell 0
  have cK01 := K0.cell 1
  have cK02 := K0.cell 2
  have cK03 := K0.cell 3
  have cK04 := K0.cell 4
  have cK05 := K0.cell 5
  simp only [List.getElem?_toArray, List.getElem?_cons_succ, List.getElem?_cons_zero] at cK00 cK01 cK02 cK03 cK04 cK05
  go_wp2_with fail
  refine (one_any _).mono ?_
  rintro e_ w8 ⟨rfl, hb8⟩
  replace K0 := K0.below hb8 (by first | exact lK0 | (have := lK0; simp; omega))
  replace hbw : Below w.heap.size w w8 := btrans (by (repeat' (first | refine bset ?_ (by first | omega | (simp <;> omega)) _ | refine balloc ?_ _ | refine Below.drew ?_ | refine below_drewN ?_ _ | exact hbw | exact Below.refl _ _))) hb8
  clear hb8 lK0 cK00 cK01 cK02 cK03 cK04 cK05
  have lK0 := K0.lt
  have cK00 := K0.cell 0
  have cK01 := K0.cell 1
  have cK02 := K0.cell 2
  have cK03 := K0.cell 3
  have cK04 := K0.cell 4
  have cK05 := K0.cell 5
  simp only [List.getElem?_toArray, List.getElem?_cons_succ, List.getElem?_cons_zero] at cK00 cK01 cK02 cK03 cK04 cK05
  go_wp2_with fail
  refine (HWh.out _).mono ?_
  rintro e_ w9 ⟨rfl, hb9⟩
  replace K0 := K0.below hb9 (by first | exact lK0 | (have := lK0; simp; omega))
  replace hbw : Below w.heap.size w w9 := btrans (by (repeat' (first | refine bset ?_ (by first | omega | (simp <;> omega)) _ | refine balloc ?_ _ | refine Below.drew ?_ | refine below_drewN ?_ _ | exact hbw | exact Below.refl _ _))) hb9
  clear hb9 lK0 cK00 cK01 cK02 cK03 cK04 cK05
  have lK0 := K0.lt
  have cK00 := K0.cell 0
  have cK01 := K0.cell 1
  have cK02 := K0.cell 2
  have cK03 := K0.cell 3
  have cK04 := K0.cell 4
  have cK05 := K0.cell 5
  simp only [List.getElem?_toArray, List.getElem?_cons_succ, List.getElem?_cons_zero] at cK00 cK01 cK02 cK03 cK04 cK05
  go_wp2_with fail
  go_ret
  exact ⟨rfl, hbw⟩

theorem makes_law (A B C D E F x y : Int) (w : World) (_hA : -9223372036854775808 ≤ A ∧ A ≤ 9223372036854775807) (_hB : -9223372036854775808 ≤ B ∧ B ≤ 9223372036854775807) (_hC : -9223372036854775808 ≤ C ∧ C ≤ 9223372036854775807) (_hD : -9223372036854775808 ≤ D ∧ D ≤ 9223372036854775807) (_hE : -9223372036854775808 ≤ E ∧ E ≤ 9223372036854775807) (_hF : -9223372036854775808 ≤ F ∧ F ≤ 9223372036854775807) (hx_ : -9223372036854775808 ≤ x ∧ x ≤ 9223372036854775807) (hy_ : -9223372036854775808 ≤ y ∧ y ≤ 9223372036854775807) : Calls Try.prog 3 #[.agg #[.int .i64 A, .int .i64 B, .int .i64 C, .int .i64 D, .int .i64 E, .int .i64 F], .int .i64 x, .int .i64 y] w fun ed w' => ed = .returned (.bool true) ∧ Below w.heap.size w w' := by
  obtain ⟨s, t, h8, h9⟩ := wide_both A B C D E F y
  have h6 := fun W => side_any x W
  have h3 := fun W => rfix_any x W
  have h4 := fun W => rfix_any y W
  cases hs : sideB x with
  | false =>
    rw [hs] at h6
    have h5 : ∀ W, Calls Try.prog 21 #[.int .i64 x] W fun ed w' => ed = .returned (.tuple #[.agg #[.int .i64 0, .int .i64 0, .int .i64 0, .int .i64 0, .int .i64 0, .int .i64 0], .int .i64 1]) ∧ Below W.heap.size W w' := fun W => by
      rcases Int.lt_or_le x 1 with a | a
      · exact Device_no1 x W a
      · refine Device_no2 x W ?_
        unfold sideB at hs
        rw [decide_eq_true (show 1 ≤ x from a)] at hs
        simp at hs
        omega
    cases hx : fixB x with
    | false =>
      rw [hx] at h3
      exact makes_no A B C D E F x y 0 s t w (fun W => Move_no1 x y W hx) (fun W => Size_no1 x y W hx) h3 h5 h6 h8 h9
    | true =>
      rw [hx] at h3
      cases hy : fixB y with
      | false =>
        rw [hy] at h4
        exact makes_mo A B C D E F x y 0 s t w (fun W => Move_no2 x y W hx hy) (fun W => Size_no2 x y W hx hy) h3 h4 h5 h6 h8 h9
      | true =>
        rw [hy] at h4
        exact makes_yo A B C D E F x y 0 s t w (fun W => Move_yes x y W hx hy) (fun W => Size_yes x y W hx hy) h3 h4 h5 h6 h8 h9
  | true =>
    rw [hs] at h6
    have hb : 1 ≤ x ∧ x ≤ 64 := by unfold sideB at hs; simpa using hs
    have h5 := fun W => Device_yes x W hb.1 hb.2
    have h7 := fun W => rDevice_any x W hb.1 hb.2
    cases hx : fixB x with
    | false =>
      rw [hx] at h3
      exact makes_ns A B C D E F x y (16 * x * 65536) s t w (fun W => Move_no1 x y W hx) (fun W => Size_no1 x y W hx) h3 h5 h6 h7 h8 h9
    | true =>
      rw [hx] at h3
      cases hy : fixB y with
      | false =>
        rw [hy] at h4
        exact makes_ms A B C D E F x y (16 * x * 65536) s t w (fun W => Move_no2 x y W hx hy) (fun W => Size_no2 x y W hx hy) h3 h4 h5 h6 h7 h8 h9
      | true =>
        rw [hy] at h4
        exact makes_ys A B C D E F x y (16 * x * 65536) s t w (fun W => Move_yes x y W hx hy) (fun W => Size_yes x y W hx hy) h3 h4 h5 h6 h7 h8 h9

end Go.Proofs.Ytaephahcohdbpaa.mt
