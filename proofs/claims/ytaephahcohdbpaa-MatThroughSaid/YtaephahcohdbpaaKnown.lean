/-
  Layer 24: the document's examples hold (known).
-/
import Derived.Test.YtaephahcohdbpaaMakes
import Derived.Test.YtaephahcohdbpaaPts
import Derived.Test.YtaephahcohdbpaaBack
import Derived.Test.YtaephahcohdbpaaWide
namespace Go.Proofs.Ytaephahcohdbpaa.mt
set_option linter.unusedVariables false
set_option linter.unusedSimpArgs false
open Go.RowKit bs

set_option maxRecDepth 100000 in
set_option maxHeartbeats 3200000 in
theorem known_any (w : World) : Calls Try.prog 15 #[] w fun e w' => e = .returned (.bool true) ∧ Below w.heap.size w w' := by
  have H1 := Lib.hid (fun W => show Calls Try.prog 21 #[.int .i64 10] W fun ed w' => ed = .returned (.tuple #[.agg #[.int .i64 1048576, .int .i64 0, .int .i64 0, .int .i64 (-1048576), .int .i64 0, .int .i64 10485760], .int .i64 0]) ∧ Below W.heap.size W w' by exact Device_yes 10 W (by omega) (by omega))
  have H2 := Lib.hid (fun W => show Calls Try.prog 17 #[.int .i64 131072, .int .i64 196608] W fun ed w' => ed = .returned (.tuple #[.agg #[.int .i64 131072, .int .i64 0, .int .i64 0, .int .i64 196608, .int .i64 0, .int .i64 0], .int .i64 0]) ∧ Below W.heap.size W w' by exact Size_yes 131072 196608 W (by decide) (by decide))
  have H3 := Lib.hid (fun W => show Calls Try.prog 16 #[.int .i64 65536, .int .i64 65536] W fun ed w' => ed = .returned (.tuple #[.agg #[.int .i64 65536, .int .i64 0, .int .i64 0, .int .i64 65536, .int .i64 65536, .int .i64 65536], .int .i64 0]) ∧ Below W.heap.size W w' by exact Move_yes 65536 65536 W (by decide) (by decide))
  have H4 := Lib.hid (fun W => show Calls Try.prog 29 #[.agg #[.int .i64 131072, .int .i64 0, .int .i64 0, .int .i64 196608, .int .i64 0, .int .i64 0], .agg #[.int .i64 65536, .int .i64 0, .int .i64 0, .int .i64 65536, .int .i64 65536, .int .i64 65536]] W fun ed w' => ed = .returned (.tuple #[.agg #[.int .i64 131072, .int .i64 0, .int .i64 0, .int .i64 196608, .int .i64 65536, .int .i64 65536], .int .i64 0]) ∧ Below W.heap.size W w' by exact mul_may 131072 0 0 196608 0 0 65536 0 0 65536 65536 65536 W (by decide) (by decide))
  have H5 := Lib.hid (fun W => show Calls Try.prog 34 #[.agg #[.int .i64 1048576, .int .i64 0, .int .i64 0, .int .i64 (-1048576), .int .i64 0, .int .i64 10485760], .int .i64 65536, .int .i64 65536] W fun ed w' => ed = .returned (.tuple #[.int .i64 16, .int .i64 144, .int .i64 0]) ∧ Below W.heap.size W w' by exact Point_yes 1048576 0 0 (-1048576) 0 10485760 65536 65536 W (by decide))
  have H6 := Lib.hid (fun W => show Calls Try.prog 35 #[.agg #[.int .i64 1048576, .int .i64 0, .int .i64 0, .int .i64 (-1048576), .int .i64 0, .int .i64 10485760], .int .i64 16, .int .i64 144] W fun ed w' => ed = .returned (.tuple #[.int .i64 65536, .int .i64 65536, .int .i64 0]) ∧ Below W.heap.size W w' by exact Back_yes 1048576 0 0 (-1048576) 0 10485760 16 144 65536 65536 W (by decide) (by decide) (by decide) (by decide) (by decide))
  have H7 := Lib.hid (fun W => show Calls Try.prog 24 #[.agg #[.int .i64 1048576, .int .i64 0, .int .i64 0, .int .i64 (-1048576), .int .i64 0, .int .i64 10485760], .int .i64 131072] W fun ed w' => ed = .returned (.tuple #[.int .i64 32, .int .i64 0]) ∧ Below W.heap.size W w' by have := Wide_yes 1048576 0 0 (-1048576) 0 10485760 131072 W (by decide) (by decide) (by decide); rw [show wideV (1048576 * -1048576 - 0 * 0) 131072 = 32 by unfold wideV; rw [show ((1048576 * -1048576 - 0 * 0 : Int)).natAbs = 1099511627776 by decide, isq_eq (r := 1048576) (by decide) (by decide)]; rfl] at this; exact this)
  have H8 := Lib.hid (fun W => show Calls Try.prog 27 #[.int .i64 2, .int .i64 0, .int .i64 0, .int .i64 3, .int .i64 1, .int .i64 1] W fun ed w' => ed = .returned (.agg #[.int .i64 131072, .int .i64 0, .int .i64 0, .int .i64 196608, .int .i64 65536, .int .i64 65536]) ∧ Below W.heap.size W w' by exact Whole_any 2 0 0 3 1 1 W (by omega) (by omega) (by omega) (by omega) (by omega) (by omega))
  have JG := guard_mat
  have JE : ∀ w, (binOp .eql 23 (.agg #[.int .i64 131072, .int .i64 0, .int .i64 0, .int .i64 196608, .int .i64 65536, .int .i64 65536]) (.agg #[.int .i64 131072, .int .i64 0, .int .i64 0, .int .i64 196608, .int .i64 65536, .int .i64 65536])).run Try.prog w = .ok (.bool true) w := fun w => eq_mat 131072 0 0 196608 65536 65536 131072 0 0 196608 65536 65536 w
  go_enter Try.func15, Try.ntmps15
  go_wp2_with fail
  refine (H1.out _).mono ?_
  rintro e_ w1 ⟨rfl, hb1⟩
  have hbw : Below w.heap.size w w1 := btrans (by (repeat' (first | exact Below.refl _ _ | exact Below.refl _ _ | refine balloc ?_ _ | refine Below.drew ?_ | refine below_drewN ?_ _ | refine bset ?_ (by first | omega | (simp <;> omega)) _))) hb1
  clear hb1
  go_wp2_with fail
  refine (H2.out _).mono ?_
  rintro e_ w2 ⟨rfl, hb2⟩
  have Kd := (Blk.new w1 23 #[.int .i64 1048576, .int .i64 0, .int .i64 0, .int .i64 (-1048576), .int .i64 0, .int .i64 10485760]).below hb2 (by simp)
  replace hbw : Below w.heap.size w w2 := btrans (by (repeat' (first | refine bset ?_ (by first | omega | (simp <;> omega)) _ | refine balloc ?_ _ | refine Below.drew ?_ | refine below_drewN ?_ _ | exact hbw | exact Below.refl _ _))) hb2
  clear hb2
  have lKd := Kd.lt
  have cKd0 := Kd.cell 0
  have cKd1 := Kd.cell 1
  have cKd2 := Kd.cell 2
  have cKd3 := Kd.cell 3
  have cKd4 := Kd.cell 4
  have cKd5 := Kd.cell 5
  simp only [List.getElem?_toArray, List.getElem?_cons_succ, List.getElem?_cons_zero] at cKd0 cKd1 cKd2 cKd3 cKd4 cKd5
  go_wp2_with fail
  refine (H3.out _).mono ?_
  rintro e_ w3 ⟨rfl, hb3⟩
  replace Kd := (Kd.alloc (.cells #[.int .i64 131072, .int .i64 0, .int .i64 0, .int .i64 196608, .int .i64 0, .int .i64 0] 23)).below hb3 (by first | exact lKd | (have := lKd; simp; omega))
  have Ks := (Blk.new w2 23 #[.int .i64 131072, .int .i64 0, .int .i64 0, .int .i64 196608, .int .i64 0, .int .i64 0]).below hb3 (by simp)
  replace hbw : Below w.heap.size w w3 := btrans (by (repeat' (first | refine bset ?_ (by first | omega | (simp <;> omega)) _ | refine balloc ?_ _ | refine Below.drew ?_ | refine below_drewN ?_ _ | exact hbw | exact Below.refl _ _))) hb3
  clear hb3 lKd cKd0 cKd1 cKd2 cKd3 cKd4 cKd5
  have lKd := Kd.lt
  have cKd0 := Kd.cell 0
  have cKd1 := Kd.cell 1
  have cKd2 := Kd.cell 2
  have cKd3 := Kd.cell 3
  have cKd4 := Kd.cell 4
  have cKd5 := Kd.cell 5
  have lKs := Ks.lt
  have cKs0 := Ks.cell 0
  have cKs1 := Ks.cell 1
  have cKs2 := Ks.cell 2
  have cKs3 := Ks.cell 3
  have cKs4 := Ks.cell 4
  have cKs5 := Ks.cell 5
  simp only [List.getElem?_toArray, List.getElem?_cons_succ, List.getElem?_cons_zero] at cKd0 cKd1 cKd2 cKd3 cKd4 cKd5 cKs0 cKs1 cKs2 cKs3 cKs4 cKs5
  go_wp2_with fail
  refine (H4.out _).mono ?_
  rintro e_ w4 ⟨rfl, hb4⟩
  replace Kd := (Kd.alloc (.cells #[.int .i64 65536, .int .i64 0, .int .i64 0, .int .i64 65536, .int .i64 65536, .int .i64 65536] 23)).below hb4 (by first | exact lKd | (have := lKd; simp; omega))
  replace Ks := (Ks.alloc (.cells #[.int .i64 65536, .int .i64 0, .int .i64 0, .int .i64 65536, .int .i64 65536, .int .i64 65536] 23)).below hb4 (by first | exact lKs | (have := lKs; simp; omega))
  have Kt := (Blk.new w3 23 #[.int .i64 65536, .int .i64 0, .int .i64 0, .int .i64 65536, .int .i64 65536, .int .i64 65536]).below hb4 (by simp)
  replace hbw : Below w.heap.size w w4 := btrans (by (repeat' (first | refine bset ?_ (by first | omega | (simp <;> omega)) _ | refine balloc ?_ _ | refine Below.drew ?_ | refine below_drewN ?_ _ | exact hbw | exact Below.refl _ _))) hb4
  clear hb4 lKd cKd0 cKd1 cKd2 cKd3 cKd4 cKd5 lKs cKs0 cKs1 cKs2 cKs3 cKs4 cKs5
  have lKd := Kd.lt
  have cKd0 := Kd.cell 0
  have cKd1 := Kd.cell 1
  have cKd2 := Kd.cell 2
  have cKd3 := Kd.cell 3
  have cKd4 := Kd.cell 4
  have cKd5 := Kd.cell 5
  have lKs := Ks.lt
  have cKs0 := Ks.cell 0
  have cKs1 := Ks.cell 1
  have cKs2 := Ks.cell 2
  have cKs3 := Ks.cell 3
  have cKs4 := Ks.cell 4
  have cKs5 := Ks.cell 5
  have lKt := Kt.lt
  have cKt0 := Kt.cell 0
  have cKt1 := Kt.cell 1
  have cKt2 := Kt.cell 2
  have cKt3 := Kt.cell 3
  have cKt4 := Kt.cell 4
  have cKt5 := Kt.cell 5
  simp only [List.getElem?_toArray, List.getElem?_cons_succ, List.getElem?_cons_zero] at cKd0 cKd1 cKd2 cKd3 cKd4 cKd5 cKs0 cKs1 cKs2 cKs3 cKs4 cKs5 cKt0 cKt1 cKt2 cKt3 cKt4 cKt5
  go_wp2_with fail
  refine (H5.out _).mono ?_
  rintro e_ w5 ⟨rfl, hb5⟩
  replace Kd := (Kd.alloc (.cells #[.int .i64 131072, .int .i64 0, .int .i64 0, .int .i64 196608, .int .i64 65536, .int .i64 65536] 23)).below hb5 (by first | exact lKd | (have := lKd; simp; omega))
  replace Ks := (Ks.alloc (.cells #[.int .i64 131072, .int .i64 0, .int .i64 0, .int .i64 196608, .int .i64 65536, .int .i64 65536] 23)).below hb5 (by first | exact lKs | (have := lKs; simp; omega))
  replace Kt := (Kt.alloc (.cells #[.int .i64 131072, .int .i64 0, .int .i64 0, .int .i64 196608, .int .i64 65536, .int .i64 65536] 23)).below hb5 (by first | exact lKt | (have := lKt; simp; omega))
  have Km := (Blk.new w4 23 #[.int .i64 131072, .int .i64 0, .int .i64 0, .int .i64 196608, .int .i64 65536, .int .i64 65536]).below hb5 (by simp)
  replace hbw : Below w.heap.size w w5 := btrans (by (repeat' (first | refine bset ?_ (by first | omega | (simp <;> omega)) _ | refine balloc ?_ _ | refine Below.drew ?_ | refine below_drewN ?_ _ | exact hbw | exact Below.refl _ _))) hb5
  clear hb5 lKd cKd0 cKd1 cKd2 cKd3 cKd4 cKd5 lKs cKs0 cKs1 cKs2 cKs3 cKs4 cKs5 lKt cKt0 cKt1 cKt2 cKt3 cKt4 cKt5 Ks Kt
  have lKd := Kd.lt
  have cKd0 := Kd.cell 0
  have cKd1 := Kd.cell 1
  have cKd2 := Kd.cell 2
  have cKd3 := Kd.cell 3
  have cKd4 := Kd.cell 4
  have cKd5 := Kd.cell 5
  have lKm := Km.lt
  have cKm0 := Km.cell 0
  have cKm1 := Km.cell 1
  have cKm2 := Km.cell 2
  have cKm3 := Km.cell 3
  have cKm4 := Km.cell 4
  have cKm5 := Km.cell 5
  simp only [List.getElem?_toArray, List.getElem?_cons_succ, List.getElem?_cons_zero] at cKd0 cKd1 cKd2 cKd3 cKd4 cKd5 cKm0 cKm1 cKm2 cKm3 cKm4 cKm5
  go_wp2_with fail
  refine (H6.out _).mono ?_
  rintro e_ w6 ⟨rfl, hb6⟩
  replace Kd := Kd.below hb6 (by first | exact lKd | (have := lKd; simp; omega))
  replace Km := Km.below hb6 (by first | exact lKm | (have := lKm; simp; omega))
  replace hbw : Below w.heap.size w w6 := btrans (by (repeat' (first | refine bset ?_ (by first | omega | (simp <;> omega)) _ | refine balloc ?_ _ | refine Below.drew ?_ | refine below_drewN ?_ _ | exact hbw | exact Below.refl _ _))) hb6
  clear hb6 lKd cKd0 cKd1 cKd2 cKd3 cKd4 cKd5 lKm cKm0 cKm1 cKm2 cKm3 cKm4 cKm5
  have lKd := Kd.lt
  have cKd0 := Kd.cell 0
  have cKd1 := Kd.cell 1
  have cKd2 := Kd.cell 2
  have cKd3 := Kd.cell 3
  have cKd4 := Kd.cell 4
  have cKd5 := Kd.cell 5
  have lKm := Km.lt
  have cKm0 := Km.cell 0
  have cKm1 := Km.cell 1
  have cKm2 := Km.cell 2
  have cKm3 := Km.cell 3
  have cKm4 := Km.cell 4
  have cKm5 := Km.cell 5
  simp only [List.getElem?_toArray, List.getElem?_cons_succ, List.getElem?_cons_zero] at cKd0 cKd1 cKd2 cKd3 cKd4 cKd5 cKm0 cKm1 cKm2 cKm3 cKm4 cKm5
  go_wp2_with fail
  refine (H7.out _).mono ?_
  rintro e_ w7 ⟨rfl, hb7⟩
  replace Kd := Kd.below hb7 (by first | exact lKd | (have := lKd; simp; omega))
  replace Km := Km.below hb7 (by first | exact lKm | (have := lKm; simp; omega))
  replace hbw : Below w.heap.size w w7 := btrans (by (repeat' (first | refine bset ?_ (by first | omega | (simp <;> omega)) _ | refine balloc ?_ _ | refine Below.drew ?_ | refine below_drewN ?_ _ | exact hbw | exact Below.refl _ _))) hb7
  clear hb7 lKd cKd0 cKd1 cKd2 cKd3 cKd4 cKd5 lKm cKm0 cKm1 cKm2 cKm3 cKm4 cKm5
  have lKd := Kd.lt
  have cKd0 := Kd.cell 0
  have cKd1 := Kd.cell 1
  have cKd2 := Kd.cell 2
  have cKd3 := Kd.cell 3
  have cKd4 := Kd.cell 4
  have cKd5 := Kd.cell 5
  have lKm := Km.lt
  have cKm0 := Km.cell 0
  have cKm1 := Km.cell 1
  have cKm2 := Km.cell 2
  have cKm3 := Km.cell 3
  have cKm4 := Km.cell 4
  have cKm5 := Km.cell 5
  simp only [List.getElem?_toArray, List.getElem?_cons_succ, List.getElem?_cons_zero] at cKd0 cKd1 cKd2 cKd3 cKd4 cKd5 cKm0 cKm1 cKm2 cKm3 cKm4 cKm5
  go_wp2_with fail
  have HU := Lib.hid (fun u : Up w7 => up_of (u := u) (H8.out u.val))
  have uKm0 : ∀ u : Up w7, u.val.cell? ⟨w4.heap.size, 0, none⟩ = some (.int .i64 131072) := fun u => (u.cell lKm).trans cKm0
  have uKm1 : ∀ u : Up w7, u.val.cell? ⟨w4.heap.size, 1, none⟩ = some (.int .i64 0) := fun u => (u.cell lKm).trans cKm1
  have uKm2 : ∀ u : Up w7, u.val.cell? ⟨w4.heap.size, 2, none⟩ = some (.int .i64 0) := fun u => (u.cell lKm).trans cKm2
  have uKm3 : ∀ u : Up w7, u.val.cell? ⟨w4.heap.size, 3, none⟩ = some (.int .i64 196608) := fun u => (u.cell lKm).trans cKm3
  have uKm4 : ∀ u : Up w7, u.val.cell? ⟨w4.heap.size, 4, none⟩ = some (.int .i64 65536) := fun u => (u.cell lKm).trans cKm4
  have uKm5 : ∀ u : Up w7, u.val.cell? ⟨w4.heap.size, 5, none⟩ = some (.int .i64 65536) := fun u => (u.cell lKm).trans cKm5
  refine wp_region_up (by kernel_rfl) (by kernel_rfl) ?_
  repeat (go_big_quiet_step (fail))
  go_big_quiet_step (exact HU.out _)
  repeat (go_big_quiet_step (fail))
  refine wpQuiet_nil ?_
  rintro _ ⟨uq, rfl⟩
  replace hbw := btrans hbw uq.ok
  go_wp2_with fail
  go_ret
  exact ⟨rfl, hbw⟩

end Go.Proofs.Ytaephahcohdbpaa.mt
