/-
  MatMoves: moves add up.
-/
import Derived.Test.YtaephahcohdbpaaMovesP
namespace Go.Proofs.Ytaephahcohdbpaa.mt
set_option linter.unusedVariables false
set_option linter.unusedSimpArgs false
open Go.RowKit bs

set_option maxRecDepth 100000 in
set_option maxHeartbeats 6400000 in
theorem moves_no (A B C D E F a0 a1 a2 a3 p q r s : Int) (w : World) (ep : a0 % 536870911 - 268435455 = p) (eq : a1 % 536870911 - 268435455 = q) (er : a2 % 536870911 - 268435455 = r) (es : a3 % 536870911 - 268435455 = s) (hm : mayB A B C D E F = false) : Calls Try.prog 4 #[.agg #[.int .i64 A, .int .i64 B, .int .i64 C, .int .i64 D, .int .i64 E, .int .i64 F], .agg #[.int .i64 a0, .int .i64 a1, .int .i64 a2, .int .i64 a3]] w fun ed w' => ed = .returned (.bool true) ∧ Below w.heap.size w w' := by
  have bp : -268435455 ≤ p ∧ p ≤ 268435455 := by omega
  have HFp := Lib.hid (fun W => show Calls Try.prog 28 #[.int .i64 a0] W fun ed w' => ed = .returned (.int .i64 p) ∧ W = w' by have := fixed_any a0 W; rw [ep] at this; exact this)
  have bq : -268435455 ≤ q ∧ q ≤ 268435455 := by omega
  have HFq := Lib.hid (fun W => show Calls Try.prog 28 #[.int .i64 a1] W fun ed w' => ed = .returned (.int .i64 q) ∧ W = w' by have := fixed_any a1 W; rw [eq] at this; exact this)
  have br : -268435455 ≤ r ∧ r ≤ 268435455 := by omega
  have HFr := Lib.hid (fun W => show Calls Try.prog 28 #[.int .i64 a2] W fun ed w' => ed = .returned (.int .i64 r) ∧ W = w' by have := fixed_any a2 W; rw [er] at this; exact this)
  have bs : -268435455 ≤ s ∧ s ≤ 268435455 := by omega
  have HFs := Lib.hid (fun W => show Calls Try.prog 28 #[.int .i64 a3] W fun ed w' => ed = .returned (.int .i64 s) ∧ W = w' by have := fixed_any a3 W; rw [es] at this; exact this)
  have HM1 := Lib.hid (fun W => Move_yes p q W (fixB_true (by omega)) (fixB_true (by omega)))
  have HM2 := Lib.hid (fun W => Move_yes r s W (fixB_true (by omega)) (fixB_true (by omega)))
  have HX := Lib.hid (fun W => mul_move 65536 0 0 65536 p q r s W (mayB_true (by omega) (by omega) (by omega) (by omega) (by omega) (by omega)) (by omega) (by omega) (by omega) (by omega))
  have HY := Lib.hid (fun W => show Calls Try.prog 30 #[.agg #[.int .i64 A, .int .i64 B, .int .i64 C, .int .i64 D, .int .i64 E, .int .i64 F]] W fun ed w' => ed = .returned (.bool false) ∧ Below W.heap.size W w' by have := may_any A B C D E F W; rw [hm] at this; exact this)
  have HT := Lib.hid (fun W => mul_no1 A B C D E F 65536 0 0 65536 p q W hm)
  clear hm ep eq er es
  obtain ⟨bp0, bp1⟩ := bp
  obtain ⟨bq0, bq1⟩ := bq
  obtain ⟨br0, br1⟩ := br
  obtain ⟨bs0, bs1⟩ := bs
  have Km := (Blk.new w 23 #[.int .i64 A, .int .i64 B, .int .i64 C, .int .i64 D, .int .i64 E, .int .i64 F]).alloc (.cells #[.int .i64 a0, .int .i64 a1, .int .i64 a2, .int .i64 a3] 39)
  have Ka := Blk.new (w.alloc (.cells #[.int .i64 A, .int .i64 B, .int .i64 C, .int .i64 D, .int .i64 E, .int .i64 F] 23)) 39 #[.int .i64 a0, .int .i64 a1, .int .i64 a2, .int .i64 a3]
  have s1 : (w.alloc (.cells #[.int .i64 A, .int .i64 B, .int .i64 C, .int .i64 D, .int .i64 E, .int .i64 F] 23)).heap.size = w.heap.size + 1 := by simp
  rw [s1] at Ka
  clear s1
  go_enter Try.func4, Try.ntmps4
  go_wp2_with fail
  refine (known_any _).mono ?_
  rintro e_ w1 ⟨rfl, hb1⟩
  replace Km := Km.below hb1 (by simp; omega)
  replace Ka := Ka.below hb1 (by simp)
  have hbw : Below w.heap.size w w1 := btrans (by (repeat' (first | exact Below.refl _ _ | exact Below.refl _ _ | refine balloc ?_ _ | refine Below.drew ?_ | refine below_drewN ?_ _ | refine bset ?_ (by first | omega | (simp <;> omega)) _))) hb1
  clear hb1

  have lKm := Km.lt
  have cKm0 := Km.cell 0
  have cKm1 := Km.cell 1
  have cKm2 := Km.cell 2
  have cKm3 := Km.cell 3
  have cKm4 := Km.cell 4
  have cKm5 := Km.cell 5
  have lKa := Ka.lt
  have cKa0 := Ka.cell 0
  have cKa1 := Ka.cell 1
  have cKa2 := Ka.cell 2
  have cKa3 := Ka.cell 3
  simp only [List.getElem?_toArray, List.getElem?_cons_succ, List.getElem?_cons_zero] at cKm0 cKm1 cKm2 cKm3 cKm4 cKm5 cKa0 cKa1 cKa2 cKa3
  go_wp2_with fail
  refine wp_region_alloc1 10 [9] (.cells #[.int .i64 0, .int .i64 0, .int .i64 0, .int .i64 0, .int .i64 0, .int .i64 0] 23) _ (by kernel_rfl) (by kernel_rfl) (fun d _ _ _ _ h => by cases d <;> exact h) rfl (fun ρ w => alloc_mat _ _ _ _ _ ρ w) ?_
  intro u0
  have uKa0 : ∀ u : Up u0.val, u.val.cell? ⟨(w.heap.size + 1), 0, none⟩ = some (.int .i64 a0) := fun u => ((u.cell (Nat.lt_of_lt_of_le lKa u0.ok.size)).trans (u0.cell lKa)).trans cKa0
  have uKa1 : ∀ u : Up u0.val, u.val.cell? ⟨(w.heap.size + 1), 1, none⟩ = some (.int .i64 a1) := fun u => ((u.cell (Nat.lt_of_lt_of_le lKa u0.ok.size)).trans (u0.cell lKa)).trans cKa1
  have uKa2 : ∀ u : Up u0.val, u.val.cell? ⟨(w.heap.size + 1), 2, none⟩ = some (.int .i64 a2) := fun u => ((u.cell (Nat.lt_of_lt_of_le lKa u0.ok.size)).trans (u0.cell lKa)).trans cKa2
  have uKa3 : ∀ u : Up u0.val, u.val.cell? ⟨(w.heap.size + 1), 3, none⟩ = some (.int .i64 a3) := fun u => ((u.cell (Nat.lt_of_lt_of_le lKa u0.ok.size)).trans (u0.cell lKa)).trans cKa3
  have HU1 := Lib.hid (fun u : Up u0.val => up_same (u := u) (HFp.out u.val))
  have HU2 := Lib.hid (fun u : Up u0.val => up_same (u := u) (HFq.out u.val))
  have HU3 := Lib.hid (fun u : Up u0.val => up_of (u := u) (HM1.out u.val))
  simp only [List.take_succ_cons, List.take_zero, List.drop_succ_cons, List.drop_zero]
  repeat (go_big_quiet_step (fail))
  go_big_quiet_step (exact HU1.out _)
  repeat (go_big_quiet_step (fail))
  go_big_quiet_step (exact HU2.out _)
  repeat (go_big_quiet_step (fail))
  go_big_quiet_step (exact HU3.out _)
  repeat (go_big_quiet_step (fail))
  refine wpQuiet_nil ?_
  rintro _ ⟨uq, rfl⟩ Pp hl_Pp hm_Pp Kp
  replace Kp : Blk uq.val Pp 23 #[.int .i64 0, .int .i64 0, .int .i64 0, .int .i64 0, .int .i64 0, .int .i64 0] := Kp
  replace Km := Km.below uq.ok lKm
  replace Ka := Ka.below uq.ok lKa
  have hd_KmPp : w.heap.size ≠ Pp := by have := lKm; omega
  have hd_KaPp : (w.heap.size + 1) ≠ Pp := by have := lKa; omega
  have hs_w2 := hbw.size
  replace hbw := btrans hbw uq.ok
  simp only [Act.put]
  generalize hwx : uq.val = w2 at *
  clear hwx uq u0 uKa0 uKa1 uKa2 uKa3 HU1 HU2 HU3 lKm cKm0 cKm1 cKm2 cKm3 cKm4 cKm5 lKa cKa0 cKa1 cKa2 cKa3
  have zKp0 := Kp.cell 0
  have zfKp0 := Kp.frozen 0
  have zKp1 := Kp.cell 1
  have zfKp1 := Kp.frozen 1
  have zKp2 := Kp.cell 2
  have zfKp2 := Kp.frozen 2
  have zKp3 := Kp.cell 3
  have zfKp3 := Kp.frozen 3
  have zKp4 := Kp.cell 4
  have zfKp4 := Kp.frozen 4
  have zKp5 := Kp.cell 5
  have zfKp5 := Kp.frozen 5
  simp only [List.getElem?_toArray, List.getElem?_cons_succ, List.getElem?_cons_zero] at zKp0 zKp1 zKp2 zKp3 zKp4 zKp5
  refine wpList_stop fun Kx HKx => ?_
  go_wp2_with fail
  replace Km := ((((((Km.far (p := ⟨Pp, 0, none⟩) hd_KmPp (.int .i64 65536)).far (p := ⟨Pp, 1, none⟩) hd_KmPp (.int .i64 0)).far (p := ⟨Pp, 2, none⟩) hd_KmPp (.int .i64 0)).far (p := ⟨Pp, 3, none⟩) hd_KmPp (.int .i64 65536)).far (p := ⟨Pp, 4, none⟩) hd_KmPp (.int .i64 p)).far (p := ⟨Pp, 5, none⟩) hd_KmPp (.int .i64 q))
  replace Ka := ((((((Ka.far (p := ⟨Pp, 0, none⟩) hd_KaPp (.int .i64 65536)).far (p := ⟨Pp, 1, none⟩) hd_KaPp (.int .i64 0)).far (p := ⟨Pp, 2, none⟩) hd_KaPp (.int .i64 0)).far (p := ⟨Pp, 3, none⟩) hd_KaPp (.int .i64 65536)).far (p := ⟨Pp, 4, none⟩) hd_KaPp (.int .i64 p)).far (p := ⟨Pp, 5, none⟩) hd_KaPp (.int .i64 q))
  replace Kp : Blk _ Pp 23 #[.int .i64 65536, .int .i64 0, .int .i64 0, .int .i64 65536, .int .i64 p, .int .i64 q] := ((((((Kp.set_ 0 (.int .i64 65536)).set_ 1 (.int .i64 0)).set_ 2 (.int .i64 0)).set_ 3 (.int .i64 65536)).set_ 4 (.int .i64 p)).set_ 5 (.int .i64 q))
  have hq_Pp : w.heap.size ≤ Pp := by omega
  replace hbw : Below w.heap.size w ((((((w2.setCell ⟨Pp, 0, none⟩ (.int .i64 65536)).setCell ⟨Pp, 1, none⟩ (.int .i64 0)).setCell ⟨Pp, 2, none⟩ (.int .i64 0)).setCell ⟨Pp, 3, none⟩ (.int .i64 65536)).setCell ⟨Pp, 4, none⟩ (.int .i64 p)).setCell ⟨Pp, 5, none⟩ (.int .i64 q)) := by (repeat' (first | refine bset ?_ (by first | omega | (simp <;> omega)) _ | refine balloc ?_ _ | refine Below.drew ?_ | refine below_drewN ?_ _ | exact hbw | exact Below.refl _ _))
  generalize hwx : ((((((w2.setCell ⟨Pp, 0, none⟩ (.int .i64 65536)).setCell ⟨Pp, 1, none⟩ (.int .i64 0)).setCell ⟨Pp, 2, none⟩ (.int .i64 0)).setCell ⟨Pp, 3, none⟩ (.int .i64 65536)).setCell ⟨Pp, 4, none⟩ (.int .i64 p)).setCell ⟨Pp, 5, none⟩ (.int .i64 q)) = w3 at *
  clear hwx zKp0 zfKp0 zKp1 zfKp1 zKp2 zfKp2 zKp3 zfKp3 zKp4 zfKp4 zKp5 zfKp5 hs_w2 hl_Pp hm_Pp
  have lKm := Km.lt
  have cKm0 := Km.cell 0
  have cKm1 := Km.cell 1
  have cKm2 := Km.cell 2
  have cKm3 := Km.cell 3
  have cKm4 := Km.cell 4
  have cKm5 := Km.cell 5
  have lKa := Ka.lt
  have cKa0 := Ka.cell 0
  have cKa1 := Ka.cell 1
  have cKa2 := Ka.cell 2
  have cKa3 := Ka.cell 3
  have lKp := Kp.lt
  have cKp0 := Kp.cell 0
  have cKp1 := Kp.cell 1
  have cKp2 := Kp.cell 2
  have cKp3 := Kp.cell 3
  have cKp4 := Kp.cell 4
  have cKp5 := Kp.cell 5
  simp only [List.getElem?_toArray, List.getElem?_cons_succ, List.getElem?_cons_zero] at cKm0 cKm1 cKm2 cKm3 cKm4 cKm5 cKa0 cKa1 cKa2 cKa3 cKp0 cKp1 cKp2 cKp3 cKp4 cKp5
  refine HKx.out _ _ ?_
  clear HKx Kx
  go_wp2_with fail
  refine wp_region_alloc1 10 [9] (.cells #[.int .i64 0, .int .i64 0, .int .i64 0, .int .i64 0, .int .i64 0, .int .i64 0] 23) _ (by kernel_rfl) (by kernel_rfl) (fun d _ _ _ _ h => by cases d <;> exact h) rfl (fun ρ w => alloc_mat _ _ _ _ _ ρ w) ?_
  intro u0
  have uKa0 : ∀ u : Up u0.val, u.val.cell? ⟨(w.heap.size + 1), 0, none⟩ = some (.int .i64 a0) := fun u => ((u.cell (Nat.lt_of_lt_of_le lKa u0.ok.size)).trans (u0.cell lKa)).trans cKa0
  have uKa1 : ∀ u : Up u0.val, u.val.cell? ⟨(w.heap.size + 1), 1, none⟩ = some (.int .i64 a1) := fun u => ((u.cell (Nat.lt_of_lt_of_le lKa u0.ok.size)).trans (u0.cell lKa)).trans cKa1
  have uKa2 : ∀ u : Up u0.val, u.val.cell? ⟨(w.heap.size + 1), 2, none⟩ = some (.int .i64 a2) := fun u => ((u.cell (Nat.lt_of_lt_of_le lKa u0.ok.size)).trans (u0.cell lKa)).trans cKa2
  have uKa3 : ∀ u : Up u0.val, u.val.cell? ⟨(w.heap.size + 1), 3, none⟩ = some (.int .i64 a3) := fun u => ((u.cell (Nat.lt_of_lt_of_le lKa u0.ok.size)).trans (u0.cell lKa)).trans cKa3
  have HU1 := Lib.hid (fun u : Up u0.val => up_same (u := u) (HFr.out u.val))
  have HU2 := Lib.hid (fun u : Up u0.val => up_same (u := u) (HFs.out u.val))
  have HU3 := Lib.hid (fun u : Up u0.val => up_of (u := u) (HM2.out u.val))
  simp only [List.take_succ_cons, List.take_zero, List.drop_succ_cons, List.drop_zero]
  repeat (go_big_quiet_step (fail))
  go_big_quiet_step (exact HU1.out _)
  repeat (go_big_quiet_step (fail))
  go_big_quiet_step (exact HU2.out _)
  repeat (go_big_quiet_step (fail))
  go_big_quiet_step (exact HU3.out _)
  repeat (go_big_quiet_step (fail))
  refine wpQuiet_nil ?_
  rintro _ ⟨uq, rfl⟩ Pq hl_Pq hm_Pq Kq
  replace Kq : Blk uq.val Pq 23 #[.int .i64 0, .int .i64 0, .int .i64 0, .int .i64 0, .int .i64 0, .int .i64 0] := Kq
  replace Km := Km.below uq.ok lKm
  replace Ka := Ka.below uq.ok lKa
  replace Kp := Kp.below uq.ok lKp
  have hd_KmPq : w.heap.size ≠ Pq := by have := lKm; omega
  have hd_KaPq : (w.heap.size + 1) ≠ Pq := by have := lKa; omega
  have hd_KpPq : Pp ≠ Pq := by have := lKp; omega
  have hs_w4 := hbw.size
  replace hbw := btrans hbw uq.ok
  simp only [Act.put]
  generalize hwx : uq.val = w4 at *
  clear hwx uq u0 uKa0 uKa1 uKa2 uKa3 HU1 HU2 HU3 lKm cKm0 cKm1 cKm2 cKm3 cKm4 cKm5 lKa cKa0 cKa1 cKa2 cKa3 lKp cKp0 cKp1 cKp2 cKp3 cKp4 cKp5
  have zKq0 := Kq.cell 0
  have zfKq0 := Kq.frozen 0
  have zKq1 := Kq.cell 1
  have zfKq1 := Kq.frozen 1
  have zKq2 := Kq.cell 2
  have zfKq2 := Kq.frozen 2
  have zKq3 := Kq.cell 3
  have zfKq3 := Kq.frozen 3
  have zKq4 := Kq.cell 4
  have zfKq4 := Kq.frozen 4
  have zKq5 := Kq.cell 5
  have zfKq5 := Kq.frozen 5
  simp only [List.getElem?_toArray, List.getElem?_cons_succ, List.getElem?_cons_zero] at zKq0 zKq1 zKq2 zKq3 zKq4 zKq5
  refine wpList_stop fun Kx HKx => ?_
  go_wp2_with fail
  replace Km := ((((((Km.far (p := ⟨Pq, 0, none⟩) hd_KmPq (.int .i64 65536)).far (p := ⟨Pq, 1, none⟩) hd_KmPq (.int .i64 0)).far (p := ⟨Pq, 2, none⟩) hd_KmPq (.int .i64 0)).far (p := ⟨Pq, 3, none⟩) hd_KmPq (.int .i64 65536)).far (p := ⟨Pq, 4, none⟩) hd_KmPq (.int .i64 r)).far (p := ⟨Pq, 5, none⟩) hd_KmPq (.int .i64 s))
  replace Ka := ((((((Ka.far (p := ⟨Pq, 0, none⟩) hd_KaPq (.int .i64 65536)).far (p := ⟨Pq, 1, none⟩) hd_KaPq (.int .i64 0)).far (p := ⟨Pq, 2, none⟩) hd_KaPq (.int .i64 0)).far (p := ⟨Pq, 3, none⟩) hd_KaPq (.int .i64 65536)).far (p := ⟨Pq, 4, none⟩) hd_KaPq (.int .i64 r)).far (p := ⟨Pq, 5, none⟩) hd_KaPq (.int .i64 s))
  replace Kp := ((((((Kp.far (p := ⟨Pq, 0, none⟩) hd_KpPq (.int .i64 65536)).far (p := ⟨Pq, 1, none⟩) hd_KpPq (.int .i64 0)).far (p := ⟨Pq, 2, none⟩) hd_KpPq (.int .i64 0)).far (p := ⟨Pq, 3, none⟩) hd_KpPq (.int .i64 65536)).far (p := ⟨Pq, 4, none⟩) hd_KpPq (.int .i64 r)).far (p := ⟨Pq, 5, none⟩) hd_KpPq (.int .i64 s))
  replace Kq : Blk _ Pq 23 #[.int .i64 65536, .int .i64 0, .int .i64 0, .int .i64 65536, .int .i64 r, .int .i64 s] := ((((((Kq.set_ 0 (.int .i64 65536)).set_ 1 (.int .i64 0)).set_ 2 (.int .i64 0)).set_ 3 (.int .i64 65536)).set_ 4 (.int .i64 r)).set_ 5 (.int .i64 s))
  have hq_Pq : w.heap.size ≤ Pq := by omega
  replace hbw : Below w.heap.size w ((((((w4.setCell ⟨Pq, 0, none⟩ (.int .i64 65536)).setCell ⟨Pq, 1, none⟩ (.int .i64 0)).setCell ⟨Pq, 2, none⟩ (.int .i64 0)).setCell ⟨Pq, 3, none⟩ (.int .i64 65536)).setCell ⟨Pq, 4, none⟩ (.int .i64 r)).setCell ⟨Pq, 5, none⟩ (.int .i64 s)) := by (repeat' (first | refine bset ?_ (by first | omega | (simp <;> omega)) _ | refine balloc ?_ _ | refine Below.drew ?_ | refine below_drewN ?_ _ | exact hbw | exact Below.refl _ _))
  generalize hwx : ((((((w4.setCell ⟨Pq, 0, none⟩ (.int .i64 65536)).setCell ⟨Pq, 1, none⟩ (.int .i64 0)).setCell ⟨Pq, 2, none⟩ (.int .i64 0)).setCell ⟨Pq, 3, none⟩ (.int .i64 65536)).setCell ⟨Pq, 4, none⟩ (.int .i64 r)).setCell ⟨Pq, 5, none⟩ (.int .i64 s)) = w5 at *
  clear hwx zKq0 zfKq0 zKq1 zfKq1 zKq2 zfKq2 zKq3 zfKq3 zKq4 zfKq4 zKq5 zfKq5 hs_w4 hl_Pq hm_Pq
  have lKm := Km.lt
  have cKm0 := Km.cell 0
  have cKm1 := Km.cell 1
  have cKm2 := Km.cell 2
  have cKm3 := Km.cell 3
  have cKm4 := Km.cell 4
  have cKm5 := Km.cell 5
  have lKa := Ka.lt
  have cKa0 := Ka.cell 0
  have cKa1 := Ka.cell 1
  have cKa2 := Ka.cell 2
  have cKa3 := Ka.cell 3
  have lKp := Kp.lt
  have cKp0 := Kp.cell 0
  have cKp1 := Kp.cell 1
  have cKp2 := Kp.cell 2
  have cKp3 := Kp.cell 3
  have cKp4 := Kp.cell 4
  have cKp5 := Kp.cell 5
  have lKq := Kq.lt
  have cKq0 := Kq.cell 0
  have cKq1 := Kq.cell 1
  have cKq2 := Kq.cell 2
  have cKq3 := Kq.cell 3
  have cKq4 := Kq.cell 4
  have cKq5 := Kq.cell 5
  simp only [List.getElem?_toArray, List.getElem?_cons_succ, List.getElem?_cons_zero] at cKm0 cKm1 cKm2 cKm3 cKm4 cKm5 cKa0 cKa1 cKa2 cKa3 cKp0 cKp1 cKp2 cKp3 cKp4 cKp5 cKq0 cKq1 cKq2 cKq3 cKq4 cKq5
  refine HKx.out _ _ ?_
  clear HKx Kx
  go_wp2_with fail
  refine (HX.out _).mono ?_
  rintro e_ w6 ⟨rfl, hb6⟩
  replace Km := Km.below hb6 (by first | exact lKm | (have := lKm; simp; omega))
  replace Ka := Ka.below hb6 (by first | exact lKa | (have := lKa; simp; omega))
  replace Kp := Kp.below hb6 (by first | exact lKp | (have := lKp; simp; omega))
  replace Kq := Kq.below hb6 (by first | exact lKq | (have := lKq; simp; omega))
  replace hbw : Below w.heap.size w w6 := btrans (by (repeat' (first | refine bset ?_ (by first | omega | (simp <;> omega)) _ | refine balloc ?_ _ | refine Below.drew ?_ | refine below_drewN ?_ _ | exact hbw | exact Below.refl _ _))) hb6
  clear hb6 lKm cKm0 cKm1 cKm2 cKm3 cKm4 cKm5 lKa cKa0 cKa1 cKa2 cKa3 lKp cKp0 cKp1 cKp2 cKp3 cKp4 cKp5 lKq cKq0 cKq1 cKq2 cKq3 cKq4 cKq5 Ka
  have lKm := Km.lt
  have cKm0 := Km.cell 0
  have cKm1 := Km.cell 1
  have cKm2 := Km.cell 2
  have cKm3 := Km.cell 3
  have cKm4 := Km.cell 4
  have cKm5 := Km.cell 5
  have lKp := Kp.lt
  have cKp0 := Kp.cell 0
  have cKp1 := Kp.cell 1
  have cKp2 := Kp.cell 2
  have cKp3 := Kp.cell 3
  have cKp4 := Kp.cell 4
  have cKp5 := Kp.cell 5
  have lKq := Kq.lt
  have cKq0 := Kq.cell 0
  have cKq1 := Kq.cell 1
  have cKq2 := Kq.cell 2
  have cKq3 := Kq.cell 3
  have cKq4 := Kq.cell 4
  have cKq5 := Kq.cell 5
  simp only [List.getElem?_toArray, List.getElem?_cons_succ, List.getElem?_cons_zero] at cKm0 cKm1 cKm2 cKm3 cKm4 cKm5 cKp0 cKp1 cKp2 cKp3 cKp4 cKp5 cKq0 cKq1 cKq2 cKq3 cKq4 cKq5
  go_wp2_with fail
  refine (HY.out _).mono ?_
  rintro e_ w7 ⟨rfl, hb7⟩
  replace Km := (Km.alloc (.cells #[.int .i64 65536, .int .i64 0, .int .i64 0, .int .i64 65536, .int .i64 (p + r), .int .i64 (q + s)] 23)).below hb7 (by first | exact lKm | (have := lKm; simp; omega))
  replace Kp := (Kp.alloc (.cells #[.int .i64 65536, .int .i64 0, .int .i64 0, .int .i64 65536, .int .i64 (p + r), .int .i64 (q + s)] 23)).below hb7 (by first | exact lKp | (have := lKp; simp; omega))
  replace Kq := (Kq.alloc (.cells #[.int .i64 65536, .int .i64 0, .int .i64 0, .int .i64 65536, .int .i64 (p + r), .int .i64 (q + s)] 23)).below hb7 (by first | exact lKq | (have := lKq; simp; omega))
  have Ks := (Blk.new w6 23 #[.int .i64 65536, .int .i64 0, .int .i64 0, .int .i64 65536, .int .i64 (p + r), .int .i64 (q + s)]).below hb7 (by simp)
  replace hbw : Below w.heap.size w w7 := btrans (by (repeat' (first | refine bset ?_ (by first | omega | (simp <;> omega)) _ | refine balloc ?_ _ | refine Below.drew ?_ | refine below_drewN ?_ _ | exact hbw | exact Below.refl _ _))) hb7
  clear hb7 lKm cKm0 cKm1 cKm2 cKm3 cKm4 cKm5 lKp cKp0 cKp1 cKp2 cKp3 cKp4 cKp5 lKq cKq0 cKq1 cKq2 cKq3 cKq4 cKq5 Kq
  have lKm := Km.lt
  have cKm0 := Km.cell 0
  have cKm1 := Km.cell 1
  have cKm2 := Km.cell 2
  have cKm3 := Km.cell 3
  have cKm4 := Km.cell 4
  have cKm5 := Km.cell 5
  have lKp := Kp.lt
  have cKp0 := Kp.cell 0
  have cKp1 := Kp.cell 1
  have cKp2 := Kp.cell 2
  have cKp3 := Kp.cell 3
  have cKp4 := Kp.cell 4
  have cKp5 := Kp.cell 5
  have lKs := Ks.lt
  have cKs0 := Ks.cell 0
  have cKs1 := Ks.cell 1
  have cKs2 := Ks.cell 2
  have cKs3 := Ks.cell 3
  have cKs4 := Ks.cell 4
  have cKs5 := Ks.cell 5
  simp only [List.getElem?_toArray, List.getElem?_cons_succ, List.getElem?_cons_zero] at cKm0 cKm1 cKm2 cKm3 cKm4 cKm5 cKp0 cKp1 cKp2 cKp3 cKp4 cKp5 cKs0 cKs1 cKs2 cKs3 cKs4 cKs5
  go_wp2_with fail
  refine (HT.out _).mono ?_
  rintro e_ w8 ⟨rfl, hb8⟩
  replace Km := Km.below hb8 (by first | exact lKm | (have := lKm; simp; omega))
  replace Kp := Kp.below hb8 (by first | exact lKp | (have := lKp; simp; omega))
  replace Ks := Ks.below hb8 (by first | exact lKs | (have := lKs; simp; omega))
  replace hbw : Below w.heap.size w w8 := btrans (by (repeat' (first | refine bset ?_ (by first | omega | (simp <;> omega)) _ | refine balloc ?_ _ | refine Below.drew ?_ | refine below_drewN ?_ _ | exact hbw | exact Below.refl _ _))) hb8
  clear hb8 lKm cKm0 cKm1 cKm2 cKm3 cKm4 cKm5 lKp cKp0 cKp1 cKp2 cKp3 cKp4 cKp5 lKs cKs0 cKs1 cKs2 cKs3 cKs4 cKs5 Ks
  have lKm := Km.lt
  have cKm0 := Km.cell 0
  have cKm1 := Km.cell 1
  have cKm2 := Km.cell 2
  have cKm3 := Km.cell 3
  have cKm4 := Km.cell 4
  have cKm5 := Km.cell 5
  have lKp := Kp.lt
  have cKp0 := Kp.cell 0
  have cKp1 := Kp.cell 1
  have cKp2 := Kp.cell 2
  have cKp3 := Kp.cell 3
  have cKp4 := Kp.cell 4
  have cKp5 := Kp.cell 5
  simp only [List.getElem?_toArray, List.getElem?_cons_succ, List.getElem?_cons_zero] at cKm0 cKm1 cKm2 cKm3 cKm4 cKm5 cKp0 cKp1 cKp2 cKp3 cKp4 cKp5
  go_wp2_with fail
  go_ret
  exact ⟨rfl, by (repeat' (first | refine bset ?_ (by first | omega | (simp <;> omega)) _ | refine balloc ?_ _ | refine Below.drew ?_ | refine below_drewN ?_ _ | exact hbw | exact Below.refl _ _))⟩

set_option maxRecDepth 100000 in
set_option maxHeartbeats 6400000 in
theorem moves_yes (A B C D E F a0 a1 a2 a3 p q r s : Int) (w : World) (ep : a0 % 536870911 - 268435455 = p) (eq : a1 % 536870911 - 268435455 = q) (er : a2 % 536870911 - 268435455 = r) (es : a3 % 536870911 - 268435455 = s) (hm : mayB A B C D E F = true) : Calls Try.prog 4 #[.agg #[.int .i64 A, .int .i64 B, .int .i64 C, .int .i64 D, .int .i64 E, .int .i64 F], .agg #[.int .i64 a0, .int .i64 a1, .int .i64 a2, .int .i64 a3]] w fun ed w' => ed = .returned (.bool true) ∧ Below w.heap.size w w' := by
  have bp : -268435455 ≤ p ∧ p ≤ 268435455 := by omega
  have HFp := Lib.hid (fun W => show Calls Try.prog 28 #[.int .i64 a0] W fun ed w' => ed = .returned (.int .i64 p) ∧ W = w' by have := fixed_any a0 W; rw [ep] at this; exact this)
  have bq : -268435455 ≤ q ∧ q ≤ 268435455 := by omega
  have HFq := Lib.hid (fun W => show Calls Try.prog 28 #[.int .i64 a1] W fun ed w' => ed = .returned (.int .i64 q) ∧ W = w' by have := fixed_any a1 W; rw [eq] at this; exact this)
  have br : -268435455 ≤ r ∧ r ≤ 268435455 := by omega
  have HFr := Lib.hid (fun W => show Calls Try.prog 28 #[.int .i64 a2] W fun ed w' => ed = .returned (.int .i64 r) ∧ W = w' by have := fixed_any a2 W; rw [er] at this; exact this)
  have bs : -268435455 ≤ s ∧ s ≤ 268435455 := by omega
  have HFs := Lib.hid (fun W => show Calls Try.prog 28 #[.int .i64 a3] W fun ed w' => ed = .returned (.int .i64 s) ∧ W = w' by have := fixed_any a3 W; rw [es] at this; exact this)
  have HM1 := Lib.hid (fun W => Move_yes p q W (fixB_true (by omega)) (fixB_true (by omega)))
  have HM2 := Lib.hid (fun W => Move_yes r s W (fixB_true (by omega)) (fixB_true (by omega)))
  have HX := Lib.hid (fun W => mul_move 65536 0 0 65536 p q r s W (mayB_true (by omega) (by omega) (by omega) (by omega) (by omega) (by omega)) (by omega) (by omega) (by omega) (by omega))
  have HY := Lib.hid (fun W => show Calls Try.prog 30 #[.agg #[.int .i64 A, .int .i64 B, .int .i64 C, .int .i64 D, .int .i64 E, .int .i64 F]] W fun ed w' => ed = .returned (.bool true) ∧ Below W.heap.size W w' by have := may_any A B C D E F W; rw [hm] at this; exact this)
  obtain ⟨hA, hB, hC, hD, hE, hF⟩ := mayB_bd hm
  obtain ⟨e, he⟩ : ∃ e, E.tdiv 4 = e := ⟨_, rfl⟩
  obtain ⟨f, hf⟩ : ∃ f, F.tdiv 4 = f := ⟨_, rfl⟩
  have be : -268435456 ≤ e ∧ e ≤ 268435456 := by rw [← he]; rcases Int.le_total 0 E with h | h <;> (try rw [Int.tdiv_eq_ediv_of_nonneg h]) <;> (try (have := Int.neg_tdiv E 4; have := Int.tdiv_eq_ediv_of_nonneg (a := -E) (b := 4) (by omega))) <;> omega
  have bf : -268435456 ≤ f ∧ f ≤ 268435456 := by rw [← hf]; rcases Int.le_total 0 F with h | h <;> (try rw [Int.tdiv_eq_ediv_of_nonneg h]) <;> (try (have := Int.neg_tdiv F 4; have := Int.tdiv_eq_ediv_of_nonneg (a := -F) (b := 4) (by omega))) <;> omega
  have hm2 : mayB A B C D e f = true := mayB_true hA hB hC hD (by omega) (by omega)
  have HT := Lib.hid (fun W => mul_move A B C D e f p q W hm2 (by omega) (by omega) (by omega) (by omega))
  have HO := Lib.hid (fun W => mul_one A B C D e f W hm2)
  have HP := Lib.hid (fun W => one_mul A B C D e f W hm2)
  have JG := guard_mat
  have JE : ∀ w, (binOp .eql 23 (.agg #[.int .i64 A, .int .i64 B, .int .i64 C, .int .i64 D, .int .i64 e, .int .i64 f]) (.agg #[.int .i64 A, .int .i64 B, .int .i64 C, .int .i64 D, .int .i64 e, .int .i64 f])).run Try.prog w = .ok (.bool true) w := fun w => by
    have := eq_mat A B C D e f A B C D e f w
    rw [show eqB A B C D e f A B C D e f = true by unfold eqB; simp] at this
    exact this
  clear hm2 hA hB hC hD hE hF
  obtain ⟨be0, be1⟩ := be
  obtain ⟨bf0, bf1⟩ := bf
  clear hm ep eq er es
  obtain ⟨bp0, bp1⟩ := bp
  obtain ⟨bq0, bq1⟩ := bq
  obtain ⟨br0, br1⟩ := br
  obtain ⟨bs0, bs1⟩ := bs
  have Km := (Blk.new w 23 #[.int .i64 A, .int .i64 B, .int .i64 C, .int .i64 D, .int .i64 E, .int .i64 F]).alloc (.cells #[.int .i64 a0, .int .i64 a1, .int .i64 a2, .int .i64 a3] 39)
  have Ka := Blk.new (w.alloc (.cells #[.int .i64 A, .int .i64 B, .int .i64 C, .int .i64 D, .int .i64 E, .int .i64 F] 23)) 39 #[.int .i64 a0, .int .i64 a1, .int .i64 a2, .int .i64 a3]
  have s1 : (w.alloc (.cells #[.int .i64 A, .int .i64 B, .int .i64 C, .int .i64 D, .int .i64 E, .int .i64 F] 23)).heap.size = w.heap.size + 1 := by simp
  rw [s1] at Ka
  clear s1
  go_enter Try.func4, Try.ntmps4
  go_wp2_with fail
  refine (known_any _).mono ?_
  rintro e_ w1 ⟨rfl, hb1⟩
  replace Km := Km.below hb1 (by simp; omega)
  replace Ka := Ka.below hb1 (by simp)
  have hbw : Below w.heap.size w w1 := btrans (by (repeat' (first | exact Below.refl _ _ | exact Below.refl _ _ | refine balloc ?_ _ | refine Below.drew ?_ | refine below_drewN ?_ _ | refine bset ?_ (by first | omega | (simp <;> omega)) _))) hb1
  clear hb1

  have lKm := Km.lt
  have cKm0 := Km.cell 0
  have cKm1 := Km.cell 1
  have cKm2 := Km.cell 2
  have cKm3 := Km.cell 3
  have cKm4 := Km.cell 4
  have cKm5 := Km.cell 5
  have lKa := Ka.lt
  have cKa0 := Ka.cell 0
  have cKa1 := Ka.cell 1
  have cKa2 := Ka.cell 2
  have cKa3 := Ka.cell 3
  simp only [List.getElem?_toArray, List.getElem?_cons_succ, List.getElem?_cons_zero] at cKm0 cKm1 cKm2 cKm3 cKm4 cKm5 cKa0 cKa1 cKa2 cKa3
  go_wp2_with fail
  refine wp_region_alloc1 10 [9] (.cells #[.int .i64 0, .int .i64 0, .int .i64 0, .int .i64 0, .int .i64 0, .int .i64 0] 23) _ (by kernel_rfl) (by kernel_rfl) (fun d _ _ _ _ h => by cases d <;> exact h) rfl (fun ρ w => alloc_mat _ _ _ _ _ ρ w) ?_
  intro u0
  have uKa0 : ∀ u : Up u0.val, u.val.cell? ⟨(w.heap.size + 1), 0, none⟩ = some (.int .i64 a0) := fun u => ((u.cell (Nat.lt_of_lt_of_le lKa u0.ok.size)).trans (u0.cell lKa)).trans cKa0
  have uKa1 : ∀ u : Up u0.val, u.val.cell? ⟨(w.heap.size + 1), 1, none⟩ = some (.int .i64 a1) := fun u => ((u.cell (Nat.lt_of_lt_of_le lKa u0.ok.size)).trans (u0.cell lKa)).trans cKa1
  have uKa2 : ∀ u : Up u0.val, u.val.cell? ⟨(w.heap.size + 1), 2, none⟩ = some (.int .i64 a2) := fun u => ((u.cell (Nat.lt_of_lt_of_le lKa u0.ok.size)).trans (u0.cell lKa)).trans cKa2
  have uKa3 : ∀ u : Up u0.val, u.val.cell? ⟨(w.heap.size + 1), 3, none⟩ = some (.int .i64 a3) := fun u => ((u.cell (Nat.lt_of_lt_of_le lKa u0.ok.size)).trans (u0.cell lKa)).trans cKa3
  have HU1 := Lib.hid (fun u : Up u0.val => up_same (u := u) (HFp.out u.val))
  have HU2 := Lib.hid (fun u : Up u0.val => up_same (u := u) (HFq.out u.val))
  have HU3 := Lib.hid (fun u : Up u0.val => up_of (u := u) (HM1.out u.val))
  simp only [List.take_succ_cons, List.take_zero, List.drop_succ_cons, List.drop_zero]
  repeat (go_big_quiet_step (fail))
  go_big_quiet_step (exact HU1.out _)
  repeat (go_big_quiet_step (fail))
  go_big_quiet_step (exact HU2.out _)
  repeat (go_big_quiet_step (fail))
  go_big_quiet_step (exact HU3.out _)
  repeat (go_big_quiet_step (fail))
  refine wpQuiet_nil ?_
  rintro _ ⟨uq, rfl⟩ Pp hl_Pp hm_Pp Kp
  replace Kp : Blk uq.val Pp 23 #[.int .i64 0, .int .i64 0, .int .i64 0, .int .i64 0, .int .i64 0, .int .i64 0] := Kp
  replace Km := Km.below uq.ok lKm
  replace Ka := Ka.below uq.ok lKa
  have hd_KmPp : w.heap.size ≠ Pp := by have := lKm; omega
  have hd_KaPp : (w.heap.size + 1) ≠ Pp := by have := lKa; omega
  have hs_w2 := hbw.size
  replace hbw := btrans hbw uq.ok
  simp only [Act.put]
  generalize hwx : uq.val = w2 at *
  clear hwx uq u0 uKa0 uKa1 uKa2 uKa3 HU1 HU2 HU3 lKm cKm0 cKm1 cKm2 cKm3 cKm4 cKm5 lKa cKa0 cKa1 cKa2 cKa3
  have zKp0 := Kp.cell 0
  have zfKp0 := Kp.frozen 0
  have zKp1 := Kp.cell 1
  have zfKp1 := Kp.frozen 1
  have zKp2 := Kp.cell 2
  have zfKp2 := Kp.frozen 2
  have zKp3 := Kp.cell 3
  have zfKp3 := Kp.frozen 3
  have zKp4 := Kp.cell 4
  have zfKp4 := Kp.frozen 4
  have zKp5 := Kp.cell 5
  have zfKp5 := Kp.frozen 5
  simp only [List.getElem?_toArray, List.getElem?_cons_succ, List.getElem?_cons_zero] at zKp0 zKp1 zKp2 zKp3 zKp4 zKp5
  refine wpList_stop fun Kx HKx => ?_
  go_wp2_with fail
  replace Km := ((((((Km.far (p := ⟨Pp, 0, none⟩) hd_KmPp (.int .i64 65536)).far (p := ⟨Pp, 1, none⟩) hd_KmPp (.int .i64 0)).far (p := ⟨Pp, 2, none⟩) hd_KmPp (.int .i64 0)).far (p := ⟨Pp, 3, none⟩) hd_KmPp (.int .i64 65536)).far (p := ⟨Pp, 4, none⟩) hd_KmPp (.int .i64 p)).far (p := ⟨Pp, 5, none⟩) hd_KmPp (.int .i64 q))
  replace Ka := ((((((Ka.far (p := ⟨Pp, 0, none⟩) hd_KaPp (.int .i64 65536)).far (p := ⟨Pp, 1, none⟩) hd_KaPp (.int .i64 0)).far (p := ⟨Pp, 2, none⟩) hd_KaPp (.int .i64 0)).far (p := ⟨Pp, 3, none⟩) hd_KaPp (.int .i64 65536)).far (p := ⟨Pp, 4, none⟩) hd_KaPp (.int .i64 p)).far (p := ⟨Pp, 5, none⟩) hd_KaPp (.int .i64 q))
  replace Kp : Blk _ Pp 23 #[.int .i64 65536, .int .i64 0, .int .i64 0, .int .i64 65536, .int .i64 p, .int .i64 q] := ((((((Kp.set_ 0 (.int .i64 65536)).set_ 1 (.int .i64 0)).set_ 2 (.int .i64 0)).set_ 3 (.int .i64 65536)).set_ 4 (.int .i64 p)).set_ 5 (.int .i64 q))
  have hq_Pp : w.heap.size ≤ Pp := by omega
  replace hbw : Below w.heap.size w ((((((w2.setCell ⟨Pp, 0, none⟩ (.int .i64 65536)).setCell ⟨Pp, 1, none⟩ (.int .i64 0)).setCell ⟨Pp, 2, none⟩ (.int .i64 0)).setCell ⟨Pp, 3, none⟩ (.int .i64 65536)).setCell ⟨Pp, 4, none⟩ (.int .i64 p)).setCell ⟨Pp, 5, none⟩ (.int .i64 q)) := by (repeat' (first | refine bset ?_ (by first | omega | (simp <;> omega)) _ | refine balloc ?_ _ | refine Below.drew ?_ | refine below_drewN ?_ _ | exact hbw | exact Below.refl _ _))
  generalize hwx : ((((((w2.setCell ⟨Pp, 0, none⟩ (.int .i64 65536)).setCell ⟨Pp, 1, none⟩ (.int .i64 0)).setCell ⟨Pp, 2, none⟩ (.int .i64 0)).setCell ⟨Pp, 3, none⟩ (.int .i64 65536)).setCell ⟨Pp, 4, none⟩ (.int .i64 p)).setCell ⟨Pp, 5, none⟩ (.int .i64 q)) = w3 at *
  clear hwx zKp0 zfKp0 zKp1 zfKp1 zKp2 zfKp2 zKp3 zfKp3 zKp4 zfKp4 zKp5 zfKp5 hs_w2 hl_Pp hm_Pp
  have lKm := Km.lt
  have cKm0 := Km.cell 0
  have cKm1 := Km.cell 1
  have cKm2 := Km.cell 2
  have cKm3 := Km.cell 3
  have cKm4 := Km.cell 4
  have cKm5 := Km.cell 5
  have lKa := Ka.lt
  have cKa0 := Ka.cell 0
  have cKa1 := Ka.cell 1
  have cKa2 := Ka.cell 2
  have cKa3 := Ka.cell 3
  have lKp := Kp.lt
  have cKp0 := Kp.cell 0
  have cKp1 := Kp.cell 1
  have cKp2 := Kp.cell 2
  have cKp3 := Kp.cell 3
  have cKp4 := Kp.cell 4
  have cKp5 := Kp.cell 5
  simp only [List.getElem?_toArray, List.getElem?_cons_succ, List.getElem?_cons_zero] at cKm0 cKm1 cKm2 cKm3 cKm4 cKm5 cKa0 cKa1 cKa2 cKa3 cKp0 cKp1 cKp2 cKp3 cKp4 cKp5
  refine HKx.out _ _ ?_
  clear HKx Kx
  go_wp2_with fail
  refine wp_region_alloc1 10 [9] (.cells #[.int .i64 0, .int .i64 0, .int .i64 0, .int .i64 0, .int .i64 0, .int .i64 0] 23) _ (by kernel_rfl) (by kernel_rfl) (fun d _ _ _ _ h => by cases d <;> exact h) rfl (fun ρ w => alloc_mat _ _ _ _ _ ρ w) ?_
  intro u0
  have uKa0 : ∀ u : Up u0.val, u.val.cell? ⟨(w.heap.size + 1), 0, none⟩ = some (.int .i64 a0) := fun u => ((u.cell (Nat.lt_of_lt_of_le lKa u0.ok.size)).trans (u0.cell lKa)).trans cKa0
  have uKa1 : ∀ u : Up u0.val, u.val.cell? ⟨(w.heap.size + 1), 1, none⟩ = some (.int .i64 a1) := fun u => ((u.cell (Nat.lt_of_lt_of_le lKa u0.ok.size)).trans (u0.cell lKa)).trans cKa1
  have uKa2 : ∀ u : Up u0.val, u.val.cell? ⟨(w.heap.size + 1), 2, none⟩ = some (.int .i64 a2) := fun u => ((u.cell (Nat.lt_of_lt_of_le lKa u0.ok.size)).trans (u0.cell lKa)).trans cKa2
  have uKa3 : ∀ u : Up u0.val, u.val.cell? ⟨(w.heap.size + 1), 3, none⟩ = some (.int .i64 a3) := fun u => ((u.cell (Nat.lt_of_lt_of_le lKa u0.ok.size)).trans (u0.cell lKa)).trans cKa3
  have HU1 := Lib.hid (fun u : Up u0.val => up_same (u := u) (HFr.out u.val))
  have HU2 := Lib.hid (fun u : Up u0.val => up_same (u := u) (HFs.out u.val))
  have HU3 := Lib.hid (fun u : Up u0.val => up_of (u := u) (HM2.out u.val))
  simp only [List.take_succ_cons, List.take_zero, List.drop_succ_cons, List.drop_zero]
  repeat (go_big_quiet_step (fail))
  go_big_quiet_step (exact HU1.out _)
  repeat (go_big_quiet_step (fail))
  go_big_quiet_step (exact HU2.out _)
  repeat (go_big_quiet_step (fail))
  go_big_quiet_step (exact HU3.out _)
  repeat (go_big_quiet_step (fail))
  refine wpQuiet_nil ?_
  rintro _ ⟨uq, rfl⟩ Pq hl_Pq hm_Pq Kq
  replace Kq : Blk uq.val Pq 23 #[.int .i64 0, .int .i64 0, .int .i64 0, .int .i64 0, .int .i64 0, .int .i64 0] := Kq
  replace Km := Km.below uq.ok lKm
  replace Ka := Ka.below uq.ok lKa
  replace Kp := Kp.below uq.ok lKp
  have hd_KmPq : w.heap.size ≠ Pq := by have := lKm; omega
  have hd_KaPq : (w.heap.size + 1) ≠ Pq := by have := lKa; omega
  have hd_KpPq : Pp ≠ Pq := by have := lKp; omega
  have hs_w4 := hbw.size
  replace hbw := btrans hbw uq.ok
  simp only [Act.put]
  generalize hwx : uq.val = w4 at *
  clear hwx uq u0 uKa0 uKa1 uKa2 uKa3 HU1 HU2 HU3 lKm cKm0 cKm1 cKm2 cKm3 cKm4 cKm5 lKa cKa0 cKa1 cKa2 cKa3 lKp cKp0 cKp1 cKp2 cKp3 cKp4 cKp5
  have zKq0 := Kq.cell 0
  have zfKq0 := Kq.frozen 0
  have zKq1 := Kq.cell 1
  have zfKq1 := Kq.frozen 1
  have zKq2 := Kq.cell 2
  have zfKq2 := Kq.frozen 2
  have zKq3 := Kq.cell 3
  have zfKq3 := Kq.frozen 3
  have zKq4 := Kq.cell 4
  have zfKq4 := Kq.frozen 4
  have zKq5 := Kq.cell 5
  have zfKq5 := Kq.frozen 5
  simp only [List.getElem?_toArray, List.getElem?_cons_succ, List.getElem?_cons_zero] at zKq0 zKq1 zKq2 zKq3 zKq4 zKq5
  refine wpList_stop fun Kx HKx => ?_
  go_wp2_with fail
  replace Km := ((((((Km.far (p := ⟨Pq, 0, none⟩) hd_KmPq (.int .i64 65536)).far (p := ⟨Pq, 1, none⟩) hd_KmPq (.int .i64 0)).far (p := ⟨Pq, 2, none⟩) hd_KmPq (.int .i64 0)).far (p := ⟨Pq, 3, none⟩) hd_KmPq (.int .i64 65536)).far (p := ⟨Pq, 4, none⟩) hd_KmPq (.int .i64 r)).far (p := ⟨Pq, 5, none⟩) hd_KmPq (.int .i64 s))
  replace Ka := ((((((Ka.far (p := ⟨Pq, 0, none⟩) hd_KaPq (.int .i64 65536)).far (p := ⟨Pq, 1, none⟩) hd_KaPq (.int .i64 0)).far (p := ⟨Pq, 2, none⟩) hd_KaPq (.int .i64 0)).far (p := ⟨Pq, 3, none⟩) hd_KaPq (.int .i64 65536)).far (p := ⟨Pq, 4, none⟩) hd_KaPq (.int .i64 r)).far (p := ⟨Pq, 5, none⟩) hd_KaPq (.int .i64 s))
  replace Kp := ((((((Kp.far (p := ⟨Pq, 0, none⟩) hd_KpPq (.int .i64 65536)).far (p := ⟨Pq, 1, none⟩) hd_KpPq (.int .i64 0)).far (p := ⟨Pq, 2, none⟩) hd_KpPq (.int .i64 0)).far (p := ⟨Pq, 3, none⟩) hd_KpPq (.int .i64 65536)).far (p := ⟨Pq, 4, none⟩) hd_KpPq (.int .i64 r)).far (p := ⟨Pq, 5, none⟩) hd_KpPq (.int .i64 s))
  replace Kq : Blk _ Pq 23 #[.int .i64 65536, .int .i64 0, .int .i64 0, .int .i64 65536, .int .i64 r, .int .i64 s] := ((((((Kq.set_ 0 (.int .i64 65536)).set_ 1 (.int .i64 0)).set_ 2 (.int .i64 0)).set_ 3 (.int .i64 65536)).set_ 4 (.int .i64 r)).set_ 5 (.int .i64 s))
  have hq_Pq : w.heap.size ≤ Pq := by omega
  replace hbw : Below w.heap.size w ((((((w4.setCell ⟨Pq, 0, none⟩ (.int .i64 65536)).setCell ⟨Pq, 1, none⟩ (.int .i64 0)).setCell ⟨Pq, 2, none⟩ (.int .i64 0)).setCell ⟨Pq, 3, none⟩ (.int .i64 65536)).setCell ⟨Pq, 4, none⟩ (.int .i64 r)).setCell ⟨Pq, 5, none⟩ (.int .i64 s)) := by (repeat' (first | refine bset ?_ (by first | omega | (simp <;> omega)) _ | refine balloc ?_ _ | refine Below.drew ?_ | refine below_drewN ?_ _ | exact hbw | exact Below.refl _ _))
  generalize hwx : ((((((w4.setCell ⟨Pq, 0, none⟩ (.int .i64 65536)).setCell ⟨Pq, 1, none⟩ (.int .i64 0)).setCell ⟨Pq, 2, none⟩ (.int .i64 0)).setCell ⟨Pq, 3, none⟩ (.int .i64 65536)).setCell ⟨Pq, 4, none⟩ (.int .i64 r)).setCell ⟨Pq, 5, none⟩ (.int .i64 s)) = w5 at *
  clear hwx zKq0 zfKq0 zKq1 zfKq1 zKq2 zfKq2 zKq3 zfKq3 zKq4 zfKq4 zKq5 zfKq5 hs_w4 hl_Pq hm_Pq
  have lKm := Km.lt
  have cKm0 := Km.cell 0
  have cKm1 := Km.cell 1
  have cKm2 := Km.cell 2
  have cKm3 := Km.cell 3
  have cKm4 := Km.cell 4
  have cKm5 := Km.cell 5
  have lKa := Ka.lt
  have cKa0 := Ka.cell 0
  have cKa1 := Ka.cell 1
  have cKa2 := Ka.cell 2
  have cKa3 := Ka.cell 3
  have lKp := Kp.lt
  have cKp0 := Kp.cell 0
  have cKp1 := Kp.cell 1
  have cKp2 := Kp.cell 2
  have cKp3 := Kp.cell 3
  have cKp4 := Kp.cell 4
  have cKp5 := Kp.cell 5
  have lKq := Kq.lt
  have cKq0 := Kq.cell 0
  have cKq1 := Kq.cell 1
  have cKq2 := Kq.cell 2
  have cKq3 := Kq.cell 3
  have cKq4 := Kq.cell 4
  have cKq5 := Kq.cell 5
  simp only [List.getElem?_toArray, List.getElem?_cons_succ, List.getElem?_cons_zero] at cKm0 cKm1 cKm2 cKm3 cKm4 cKm5 cKa0 cKa1 cKa2 cKa3 cKp0 cKp1 cKp2 cKp3 cKp4 cKp5 cKq0 cKq1 cKq2 cKq3 cKq4 cKq5
  refine HKx.out _ _ ?_
  clear HKx Kx
  go_wp2_with fail
  refine (HX.out _).mono ?_
  rintro e_ w6 ⟨rfl, hb6⟩
  replace Km := Km.below hb6 (by first | exact lKm | (have := lKm; simp; omega))
  replace Ka := Ka.below hb6 (by first | exact lKa | (have := lKa; simp; omega))
  replace Kp := Kp.below hb6 (by first | exact lKp | (have := lKp; simp; omega))
  replace Kq := Kq.below hb6 (by first | exact lKq | (have := lKq; simp; omega))
  replace hbw : Below w.heap.size w w6 := btrans (by (repeat' (first | refine bset ?_ (by first | omega | (simp <;> omega)) _ | refine balloc ?_ _ | refine Below.drew ?_ | refine below_drewN ?_ _ | exact hbw | exact Below.refl _ _))) hb6
  clear hb6 lKm cKm0 cKm1 cKm2 cKm3 cKm4 cKm5 lKa cKa0 cKa1 cKa2 cKa3 lKp cKp0 cKp1 cKp2 cKp3 cKp4 cKp5 lKq cKq0 cKq1 cKq2 cKq3 cKq4 cKq5 Ka
  have lKm := Km.lt
  have cKm0 := Km.cell 0
  have cKm1 := Km.cell 1
  have cKm2 := Km.cell 2
  have cKm3 := Km.cell 3
  have cKm4 := Km.cell 4
  have cKm5 := Km.cell 5
  have lKp := Kp.lt
  have cKp0 := Kp.cell 0
  have cKp1 := Kp.cell 1
  have cKp2 := Kp.cell 2
  have cKp3 := Kp.cell 3
  have cKp4 := Kp.cell 4
  have cKp5 := Kp.cell 5
  have lKq := Kq.lt
  have cKq0 := Kq.cell 0
  have cKq1 := Kq.cell 1
  have cKq2 := Kq.cell 2
  have cKq3 := Kq.cell 3
  have cKq4 := Kq.cell 4
  have cKq5 := Kq.cell 5
  simp only [List.getElem?_toArray, List.getElem?_cons_succ, List.getElem?_cons_zero] at cKm0 cKm1 cKm2 cKm3 cKm4 cKm5 cKp0 cKp1 cKp2 cKp3 cKp4 cKp5 cKq0 cKq1 cKq2 cKq3 cKq4 cKq5
  go_wp2_with fail
  refine (HY.out _).mono ?_
  rintro e_ w7 ⟨rfl, hb7⟩
  replace Km := (Km.alloc (.cells #[.int .i64 65536, .int .i64 0, .int .i64 0, .int .i64 65536, .int .i64 (p + r), .int .i64 (q + s)] 23)).below hb7 (by first | exact lKm | (have := lKm; simp; omega))
  replace Kp := (Kp.alloc (.cells #[.int .i64 65536, .int .i64 0, .int .i64 0, .int .i64 65536, .int .i64 (p + r), .int .i64 (q + s)] 23)).below hb7 (by first | exact lKp | (have := lKp; simp; omega))
  replace Kq := (Kq.alloc (.cells #[.int .i64 65536, .int .i64 0, .int .i64 0, .int .i64 65536, .int .i64 (p + r), .int .i64 (q + s)] 23)).below hb7 (by first | exact lKq | (have := lKq; simp; omega))
  have Ks := (Blk.new w6 23 #[.int .i64 65536, .int .i64 0, .int .i64 0, .int .i64 65536, .int .i64 (p + r), .int .i64 (q + s)]).below hb7 (by simp)
  replace hbw : Below w.heap.size w w7 := btrans (by (repeat' (first | refine bset ?_ (by first | omega | (simp <;> omega)) _ | refine balloc ?_ _ | refine Below.drew ?_ | refine below_drewN ?_ _ | exact hbw | exact Below.refl _ _))) hb7
  clear hb7 lKm cKm0 cKm1 cKm2 cKm3 cKm4 cKm5 lKp cKp0 cKp1 cKp2 cKp3 cKp4 cKp5 lKq cKq0 cKq1 cKq2 cKq3 cKq4 cKq5 Kq Ks
  have lKm := Km.lt
  have cKm0 := Km.cell 0
  have cKm1 := Km.cell 1
  have cKm2 := Km.cell 2
  have cKm3 := Km.cell 3
  have cKm4 := Km.cell 4
  have cKm5 := Km.cell 5
  have lKp := Kp.lt
  have cKp0 := Kp.cell 0
  have cKp1 := Kp.cell 1
  have cKp2 := Kp.cell 2
  have cKp3 := Kp.cell 3
  have cKp4 := Kp.cell 4
  have cKp5 := Kp.cell 5
  simp only [List.getElem?_toArray, List.getElem?_cons_succ, List.getElem?_cons_zero] at cKm0 cKm1 cKm2 cKm3 cKm4 cKm5 cKp0 cKp1 cKp2 cKp3 cKp4 cKp5
  have fKm4 := Km.frozen 4
  have fKm5 := Km.frozen 5
  go_wp2_with fail
  clear fKm4 fKm5
  replace Km : Blk _ w.heap.size 23 #[.int .i64 A, .int .i64 B, .int .i64 C, .int .i64 D, .int .i64 e, .int .i64 f] := ((Km.set_ 4 (.int .i64 e)).set_ 5 (.int .i64 f))
  replace Kp := ((Kp.far (p := ⟨w.heap.size, 4, none⟩) (show Pp ≠ w.heap.size by omega) (.int .i64 e)).far (p := ⟨w.heap.size, 5, none⟩) (show Pp ≠ w.heap.size by omega) (.int .i64 f))
  replace hbw : Below w.heap.size w ((w7.setCell ⟨w.heap.size, 4, none⟩ (.int .i64 e)).setCell ⟨w.heap.size, 5, none⟩ (.int .i64 f)) := by (repeat' (first | refine bset ?_ (by first | omega | (simp <;> omega)) _ | refine balloc ?_ _ | refine Below.drew ?_ | refine below_drewN ?_ _ | exact hbw | exact Below.refl _ _))
  generalize hwx : ((w7.setCell ⟨w.heap.size, 4, none⟩ (.int .i64 e)).setCell ⟨w.heap.size, 5, none⟩ (.int .i64 f)) = w8 at *
  clear hwx lKm cKm0 cKm1 cKm2 cKm3 cKm4 cKm5 lKp cKp0 cKp1 cKp2 cKp3 cKp4 cKp5
  have lKm := Km.lt
  have cKm0 := Km.cell 0
  have cKm1 := Km.cell 1
  have cKm2 := Km.cell 2
  have cKm3 := Km.cell 3
  have cKm4 := Km.cell 4
  have cKm5 := Km.cell 5
  have lKp := Kp.lt
  have cKp0 := Kp.cell 0
  have cKp1 := Kp.cell 1
  have cKp2 := Kp.cell 2
  have cKp3 := Kp.cell 3
  have cKp4 := Kp.cell 4
  have cKp5 := Kp.cell 5
  simp only [List.getElem?_toArray, List.getElem?_cons_succ, List.getElem?_cons_zero] at cKm0 cKm1 cKm2 cKm3 cKm4 cKm5 cKp0 cKp1 cKp2 cKp3 cKp4 cKp5
  refine (HT.out _).mono ?_
  rintro e_ w9 ⟨rfl, hb9⟩
  replace Km := Km.below hb9 (by first | exact lKm | (have := lKm; simp; omega))
  replace Kp := Kp.below hb9 (by first | exact lKp | (have := lKp; simp; omega))
  replace hbw : Below w.heap.size w w9 := btrans (by (repeat' (first | refine bset ?_ (by first | omega | (simp <;> omega)) _ | refine balloc ?_ _ | refine Below.drew ?_ | refine below_drewN ?_ _ | exact hbw | exact Below.refl _ _))) hb9
  clear hb9 lKm cKm0 cKm1 cKm2 cKm3 cKm4 cKm5 lKp cKp0 cKp1 cKp2 cKp3 cKp4 cKp5
  have lKm := Km.lt
  have cKm0 := Km.cell 0
  have cKm1 := Km.cell 1
  have cKm2 := Km.cell 2
  have cKm3 := Km.cell 3
  have cKm4 := Km.cell 4
  have cKm5 := Km.cell 5
  have lKp := Kp.lt
  have cKp0 := Kp.cell 0
  have cKp1 := Kp.cell 1
  have cKp2 := Kp.cell 2
  have cKp3 := Kp.cell 3
  have cKp4 := Kp.cell 4
  have cKp5 := Kp.cell 5
  simp only [List.getElem?_toArray, List.getElem?_cons_succ, List.getElem?_cons_zero] at cKm0 cKm1 cKm2 cKm3 cKm4 cKm5 cKp0 cKp1 cKp2 cKp3 cKp4 cKp5
  go_wp2_with fail
  replace Km := Km.alloc (.cells #[.int .i64 A, .int .i64 B, .int .i64 C, .int .i64 D, .int .i64 (e + p), .int .i64 (f + q)] 23)
  replace Kp := Kp.alloc (.cells #[.int .i64 A, .int .i64 B, .int .i64 C, .int .i64 D, .int .i64 (e + p), .int .i64 (f + q)] 23)
  have Kt := Blk.new w9 23 #[.int .i64 A, .int .i64 B, .int .i64 C, .int .i64 D, .int .i64 (e + p), .int .i64 (f + q)]
  replace hbw : Below w.heap.size w (w9.alloc (.cells #[.int .i64 A, .int .i64 B, .int .i64 C, .int .i64 D, .int .i64 (e + p), .int .i64 (f + q)] 23)) := by (repeat' (first | refine bset ?_ (by first | omega | (simp <;> omega)) _ | refine balloc ?_ _ | refine Below.drew ?_ | refine below_drewN ?_ _ | exact hbw | exact Below.refl _ _))
  obtain ⟨Pt, hPt⟩ : ∃ P, w9.heap.size = P := ⟨_, rfl⟩
  rw [hPt] at Kt ⊢
  generalize hwx : (w9.alloc (.cells #[.int .i64 A, .int .i64 B, .int .i64 C, .int .i64 D, .int .i64 (e + p), .int .i64 (f + q)] 23)) = wz at *
  clear hwx hPt lKm cKm0 cKm1 cKm2 cKm3 cKm4 cKm5 lKp cKp0 cKp1 cKp2 cKp3 cKp4 cKp5
  have lKm := Km.lt
  have cKm0 := Km.cell 0
  have cKm1 := Km.cell 1
  have cKm2 := Km.cell 2
  have cKm3 := Km.cell 3
  have cKm4 := Km.cell 4
  have cKm5 := Km.cell 5
  have lKp := Kp.lt
  have cKp0 := Kp.cell 0
  have cKp1 := Kp.cell 1
  have cKp2 := Kp.cell 2
  have cKp3 := Kp.cell 3
  have cKp4 := Kp.cell 4
  have cKp5 := Kp.cell 5
  have lKt := Kt.lt
  have cKt0 := Kt.cell 0
  have cKt1 := Kt.cell 1
  have cKt2 := Kt.cell 2
  have cKt3 := Kt.cell 3
  have cKt4 := Kt.cell 4
  have cKt5 := Kt.cell 5
  simp only [List.getElem?_toArray, List.getElem?_cons_succ, List.getElem?_cons_zero] at cKm0 cKm1 cKm2 cKm3 cKm4 cKm5 cKp0 cKp1 cKp2 cKp3 cKp4 cKp5 cKt0 cKt1 cKt2 cKt3 cKt4 cKt5
  refine wp_region_alloc1 6 [5] (.cells #[.int .i64 0, .int .i64 0, .int .i64 0, .int .i64 0, .int .i64 0, .int .i64 0] 23) _ (by kernel_rfl) (by kernel_rfl) (fun d _ _ _ _ h => by cases d <;> exact h) rfl (fun ρ w => alloc_mat _ _ _ _ _ ρ w) ?_
  intro u0
  have uKm0 : ∀ u : Up u0.val, u.val.cell? ⟨w.heap.size, 0, none⟩ = some (.int .i64 A) := fun u => ((u.cell (Nat.lt_of_lt_of_le lKm u0.ok.size)).trans (u0.cell lKm)).trans cKm0
  have uKm1 : ∀ u : Up u0.val, u.val.cell? ⟨w.heap.size, 1, none⟩ = some (.int .i64 B) := fun u => ((u.cell (Nat.lt_of_lt_of_le lKm u0.ok.size)).trans (u0.cell lKm)).trans cKm1
  have uKm2 : ∀ u : Up u0.val, u.val.cell? ⟨w.heap.size, 2, none⟩ = some (.int .i64 C) := fun u => ((u.cell (Nat.lt_of_lt_of_le lKm u0.ok.size)).trans (u0.cell lKm)).trans cKm2
  have uKm3 : ∀ u : Up u0.val, u.val.cell? ⟨w.heap.size, 3, none⟩ = some (.int .i64 D) := fun u => ((u.cell (Nat.lt_of_lt_of_le lKm u0.ok.size)).trans (u0.cell lKm)).trans cKm3
  have uKm4 : ∀ u : Up u0.val, u.val.cell? ⟨w.heap.size, 4, none⟩ = some (.int .i64 e) := fun u => ((u.cell (Nat.lt_of_lt_of_le lKm u0.ok.size)).trans (u0.cell lKm)).trans cKm4
  have uKm5 : ∀ u : Up u0.val, u.val.cell? ⟨w.heap.size, 5, none⟩ = some (.int .i64 f) := fun u => ((u.cell (Nat.lt_of_lt_of_le lKm u0.ok.size)).trans (u0.cell lKm)).trans cKm5
  have HU1 := Lib.hid (fun u : Up u0.val => up_of (u := u) (one_any u.val))
  have HU2 := Lib.hid (fun u : Up u0.val => up_of (u := u) (HO.out u.val))
  simp only [List.take_succ_cons, List.take_zero, List.drop_succ_cons, List.drop_zero]
  repeat (go_big_quiet_step (fail))
  go_big_quiet_step (exact HU1.out _)
  repeat (go_big_quiet_step (fail))
  go_big_quiet_step (exact HU2.out _)
  repeat (go_big_quiet_step (fail))
  refine wpQuiet_nil ?_
  rintro _ ⟨uq, rfl⟩ Pu hl_Pu hm_Pu Ku
  replace Ku : Blk uq.val Pu 23 #[.int .i64 0, .int .i64 0, .int .i64 0, .int .i64 0, .int .i64 0, .int .i64 0] := Ku
  replace Km := Km.below uq.ok lKm
  replace Kp := Kp.below uq.ok lKp
  replace Kt := Kt.below uq.ok lKt
  have hd_KmPu : w.heap.size ≠ Pu := by have := lKm; omega
  have hd_KpPu : Pp ≠ Pu := by have := lKp; omega
  have hd_KtPu : Pt ≠ Pu := by have := lKt; omega
  have hs_w10 := hbw.size
  replace hbw := btrans hbw uq.ok
  simp only [Act.put]
  generalize hwx : uq.val = w10 at *
  clear hwx uq u0 uKm0 uKm1 uKm2 uKm3 uKm4 uKm5 HU1 HU2 lKm cKm0 cKm1 cKm2 cKm3 cKm4 cKm5 lKp cKp0 cKp1 cKp2 cKp3 cKp4 cKp5 lKt cKt0 cKt1 cKt2 cKt3 cKt4 cKt5
  have zKu0 := Ku.cell 0
  have zfKu0 := Ku.frozen 0
  have zKu1 := Ku.cell 1
  have zfKu1 := Ku.frozen 1
  have zKu2 := Ku.cell 2
  have zfKu2 := Ku.frozen 2
  have zKu3 := Ku.cell 3
  have zfKu3 := Ku.frozen 3
  have zKu4 := Ku.cell 4
  have zfKu4 := Ku.frozen 4
  have zKu5 := Ku.cell 5
  have zfKu5 := Ku.frozen 5
  simp only [List.getElem?_toArray, List.getElem?_cons_succ, List.getElem?_cons_zero] at zKu0 zKu1 zKu2 zKu3 zKu4 zKu5
  refine wpList_stop fun Kx HKx => ?_
  go_wp2_with fail
  replace Km := ((((((Km.far (p := ⟨Pu, 0, none⟩) hd_KmPu (.int .i64 A)).far (p := ⟨Pu, 1, none⟩) hd_KmPu (.int .i64 B)).far (p := ⟨Pu, 2, none⟩) hd_KmPu (.int .i64 C)).far (p := ⟨Pu, 3, none⟩) hd_KmPu (.int .i64 D)).far (p := ⟨Pu, 4, none⟩) hd_KmPu (.int .i64 e)).far (p := ⟨Pu, 5, none⟩) hd_KmPu (.int .i64 f))
  replace Kp := ((((((Kp.far (p := ⟨Pu, 0, none⟩) hd_KpPu (.int .i64 A)).far (p := ⟨Pu, 1, none⟩) hd_KpPu (.int .i64 B)).far (p := ⟨Pu, 2, none⟩) hd_KpPu (.int .i64 C)).far (p := ⟨Pu, 3, none⟩) hd_KpPu (.int .i64 D)).far (p := ⟨Pu, 4, none⟩) hd_KpPu (.int .i64 e)).far (p := ⟨Pu, 5, none⟩) hd_KpPu (.int .i64 f))
  replace Kt := ((((((Kt.far (p := ⟨Pu, 0, none⟩) hd_KtPu (.int .i64 A)).far (p := ⟨Pu, 1, none⟩) hd_KtPu (.int .i64 B)).far (p := ⟨Pu, 2, none⟩) hd_KtPu (.int .i64 C)).far (p := ⟨Pu, 3, none⟩) hd_KtPu (.int .i64 D)).far (p := ⟨Pu, 4, none⟩) hd_KtPu (.int .i64 e)).far (p := ⟨Pu, 5, none⟩) hd_KtPu (.int .i64 f))
  replace Ku : Blk _ Pu 23 #[.int .i64 A, .int .i64 B, .int .i64 C, .int .i64 D, .int .i64 e, .int .i64 f] := ((((((Ku.set_ 0 (.int .i64 A)).set_ 1 (.int .i64 B)).set_ 2 (.int .i64 C)).set_ 3 (.int .i64 D)).set_ 4 (.int .i64 e)).set_ 5 (.int .i64 f))
  have hq_Pu : w.heap.size ≤ Pu := by omega
  replace hbw : Below w.heap.size w ((((((w10.setCell ⟨Pu, 0, none⟩ (.int .i64 A)).setCell ⟨Pu, 1, none⟩ (.int .i64 B)).setCell ⟨Pu, 2, none⟩ (.int .i64 C)).setCell ⟨Pu, 3, none⟩ (.int .i64 D)).setCell ⟨Pu, 4, none⟩ (.int .i64 e)).setCell ⟨Pu, 5, none⟩ (.int .i64 f)) := by (repeat' (first | refine bset ?_ (by first | omega | (simp <;> omega)) _ | refine balloc ?_ _ | refine Below.drew ?_ | refine below_drewN ?_ _ | exact hbw | exact Below.refl _ _))
  generalize hwx : ((((((w10.setCell ⟨Pu, 0, none⟩ (.int .i64 A)).setCell ⟨Pu, 1, none⟩ (.int .i64 B)).setCell ⟨Pu, 2, none⟩ (.int .i64 C)).setCell ⟨Pu, 3, none⟩ (.int .i64 D)).setCell ⟨Pu, 4, none⟩ (.int .i64 e)).setCell ⟨Pu, 5, none⟩ (.int .i64 f)) = w11 at *
  clear hwx zKu0 zfKu0 zKu1 zfKu1 zKu2 zfKu2 zKu3 zfKu3 zKu4 zfKu4 zKu5 zfKu5 hs_w10 hl_Pu hm_Pu
  have lKm := Km.lt
  have cKm0 := Km.cell 0
  have cKm1 := Km.cell 1
  have cKm2 := Km.cell 2
  have cKm3 := Km.cell 3
  have cKm4 := Km.cell 4
  have cKm5 := Km.cell 5
  have lKp := Kp.lt
  have cKp0 := Kp.cell 0
  have cKp1 := Kp.cell 1
  have cKp2 := Kp.cell 2
  have cKp3 := Kp.cell 3
  have cKp4 := Kp.cell 4
  have cKp5 := Kp.cell 5
  have lKt := Kt.lt
  have cKt0 := Kt.cell 0
  have cKt1 := Kt.cell 1
  have cKt2 := Kt.cell 2
  have cKt3 := Kt.cell 3
  have cKt4 := Kt.cell 4
  have cKt5 := Kt.cell 5
  have lKu := Ku.lt
  have cKu0 := Ku.cell 0
  have cKu1 := Ku.cell 1
  have cKu2 := Ku.cell 2
  have cKu3 := Ku.cell 3
  have cKu4 := Ku.cell 4
  have cKu5 := Ku.cell 5
  simp only [List.getElem?_toArray, List.getElem?_cons_succ, List.getElem?_cons_zero] at cKm0 cKm1 cKm2 cKm3 cKm4 cKm5 cKp0 cKp1 cKp2 cKp3 cKp4 cKp5 cKt0 cKt1 cKt2 cKt3 cKt4 cKt5 cKu0 cKu1 cKu2 cKu3 cKu4 cKu5
  refine HKx.out _ _ ?_
  clear HKx Kx
  go_wp2_with fail
  refine wp_region_alloc1 6 [5] (.cells #[.int .i64 0, .int .i64 0, .int .i64 0, .int .i64 0, .int .i64 0, .int .i64 0] 23) _ (by kernel_rfl) (by kernel_rfl) (fun d _ _ _ _ h => by cases d <;> exact h) rfl (fun ρ w => alloc_mat _ _ _ _ _ ρ w) ?_
  intro u0
  have uKm0 : ∀ u : Up u0.val, u.val.cell? ⟨w.heap.size, 0, none⟩ = some (.int .i64 A) := fun u => ((u.cell (Nat.lt_of_lt_of_le lKm u0.ok.size)).trans (u0.cell lKm)).trans cKm0
  have uKm1 : ∀ u : Up u0.val, u.val.cell? ⟨w.heap.size, 1, none⟩ = some (.int .i64 B) := fun u => ((u.cell (Nat.lt_of_lt_of_le lKm u0.ok.size)).trans (u0.cell lKm)).trans cKm1
  have uKm2 : ∀ u : Up u0.val, u.val.cell? ⟨w.heap.size, 2, none⟩ = some (.int .i64 C) := fun u => ((u.cell (Nat.lt_of_lt_of_le lKm u0.ok.size)).trans (u0.cell lKm)).trans cKm2
  have uKm3 : ∀ u : Up u0.val, u.val.cell? ⟨w.heap.size, 3, none⟩ = some (.int .i64 D) := fun u => ((u.cell (Nat.lt_of_lt_of_le lKm u0.ok.size)).trans (u0.cell lKm)).trans cKm3
  have uKm4 : ∀ u : Up u0.val, u.val.cell? ⟨w.heap.size, 4, none⟩ = some (.int .i64 e) := fun u => ((u.cell (Nat.lt_of_lt_of_le lKm u0.ok.size)).trans (u0.cell lKm)).trans cKm4
  have uKm5 : ∀ u : Up u0.val, u.val.cell? ⟨w.heap.size, 5, none⟩ = some (.int .i64 f) := fun u => ((u.cell (Nat.lt_of_lt_of_le lKm u0.ok.size)).trans (u0.cell lKm)).trans cKm5
  have HU1 := Lib.hid (fun u : Up u0.val => up_of (u := u) (one_any u.val))
  have HU2 := Lib.hid (fun u : Up u0.val => up_of (u := u) (HP.out u.val))
  simp only [List.take_succ_cons, List.take_zero, List.drop_succ_cons, List.drop_zero]
  repeat (go_big_quiet_step (fail))
  go_big_quiet_step (exact HU1.out _)
  repeat (go_big_quiet_step (fail))
  go_big_quiet_step (exact HU2.out _)
  repeat (go_big_quiet_step (fail))
  refine wpQuiet_nil ?_
  rintro _ ⟨uq, rfl⟩ Pv hl_Pv hm_Pv Kv
  replace Kv : Blk uq.val Pv 23 #[.int .i64 0, .int .i64 0, .int .i64 0, .int .i64 0, .int .i64 0, .int .i64 0] := Kv
  replace Km := Km.below uq.ok lKm
  replace Kp := Kp.below uq.ok lKp
  replace Kt := Kt.below uq.ok lKt
  replace Ku := Ku.below uq.ok lKu
  have hd_KmPv : w.heap.size ≠ Pv := by have := lKm; omega
  have hd_KpPv : Pp ≠ Pv := by have := lKp; omega
  have hd_KtPv : Pt ≠ Pv := by have := lKt; omega
  have hd_KuPv : Pu ≠ Pv := by have := lKu; omega
  have hs_w12 := hbw.size
  replace hbw := btrans hbw uq.ok
  simp only [Act.put]
  generalize hwx : uq.val = w12 at *
  clear hwx uq u0 uKm0 uKm1 uKm2 uKm3 uKm4 uKm5 HU1 HU2 lKm cKm0 cKm1 cKm2 cKm3 cKm4 cKm5 lKp cKp0 cKp1 cKp2 cKp3 cKp4 cKp5 lKt cKt0 cKt1 cKt2 cKt3 cKt4 cKt5 lKu cKu0 cKu1 cKu2 cKu3 cKu4 cKu5
  have zKv0 := Kv.cell 0
  have zfKv0 := Kv.frozen 0
  have zKv1 := Kv.cell 1
  have zfKv1 := Kv.frozen 1
  have zKv2 := Kv.cell 2
  have zfKv2 := Kv.frozen 2
  have zKv3 := Kv.cell 3
  have zfKv3 := Kv.frozen 3
  have zKv4 := Kv.cell 4
  have zfKv4 := Kv.frozen 4
  have zKv5 := Kv.cell 5
  have zfKv5 := Kv.frozen 5
  simp only [List.getElem?_toArray, List.getElem?_cons_succ, List.getElem?_cons_zero] at zKv0 zKv1 zKv2 zKv3 zKv4 zKv5
  refine wpList_stop fun Kx HKx => ?_
  go_wp2_with fail
  replace Km := ((((((Km.far (p := ⟨Pv, 0, none⟩) hd_KmPv (.int .i64 A)).far (p := ⟨Pv, 1, none⟩) hd_KmPv (.int .i64 B)).far (p := ⟨Pv, 2, none⟩) hd_KmPv (.int .i64 C)).far (p := ⟨Pv, 3, none⟩) hd_KmPv (.int .i64 D)).far (p := ⟨Pv, 4, none⟩) hd_KmPv (.int .i64 e)).far (p := ⟨Pv, 5, none⟩) hd_KmPv (.int .i64 f))
  replace Kp := ((((((Kp.far (p := ⟨Pv, 0, none⟩) hd_KpPv (.int .i64 A)).far (p := ⟨Pv, 1, none⟩) hd_KpPv (.int .i64 B)).far (p := ⟨Pv, 2, none⟩) hd_KpPv (.int .i64 C)).far (p := ⟨Pv, 3, none⟩) hd_KpPv (.int .i64 D)).far (p := ⟨Pv, 4, none⟩) hd_KpPv (.int .i64 e)).far (p := ⟨Pv, 5, none⟩) hd_KpPv (.int .i64 f))
  replace Kt := ((((((Kt.far (p := ⟨Pv, 0, none⟩) hd_KtPv (.int .i64 A)).far (p := ⟨Pv, 1, none⟩) hd_KtPv (.int .i64 B)).far (p := ⟨Pv, 2, none⟩) hd_KtPv (.int .i64 C)).far (p := ⟨Pv, 3, none⟩) hd_KtPv (.int .i64 D)).far (p := ⟨Pv, 4, none⟩) hd_KtPv (.int .i64 e)).far (p := ⟨Pv, 5, none⟩) hd_KtPv (.int .i64 f))
  replace Ku := ((((((Ku.far (p := ⟨Pv, 0, none⟩) hd_KuPv (.int .i64 A)).far (p := ⟨Pv, 1, none⟩) hd_KuPv (.int .i64 B)).far (p := ⟨Pv, 2, none⟩) hd_KuPv (.int .i64 C)).far (p := ⟨Pv, 3, none⟩) hd_KuPv (.int .i64 D)).far (p := ⟨Pv, 4, none⟩) hd_KuPv (.int .i64 e)).far (p := ⟨Pv, 5, none⟩) hd_KuPv (.int .i64 f))
  replace Kv : Blk _ Pv 23 #[.int .i64 A, .int .i64 B, .int .i64 C, .int .i64 D, .int .i64 e, .int .i64 f] := ((((((Kv.set_ 0 (.int .i64 A)).set_ 1 (.int .i64 B)).set_ 2 (.int .i64 C)).set_ 3 (.int .i64 D)).set_ 4 (.int .i64 e)).set_ 5 (.int .i64 f))
  have hq_Pv : w.heap.size ≤ Pv := by omega
  replace hbw : Below w.heap.size w ((((((w12.setCell ⟨Pv, 0, none⟩ (.int .i64 A)).setCell ⟨Pv, 1, none⟩ (.int .i64 B)).setCell ⟨Pv, 2, none⟩ (.int .i64 C)).setCell ⟨Pv, 3, none⟩ (.int .i64 D)).setCell ⟨Pv, 4, none⟩ (.int .i64 e)).setCell ⟨Pv, 5, none⟩ (.int .i64 f)) := by (repeat' (first | refine bset ?_ (by first | omega | (simp <;> omega)) _ | refine balloc ?_ _ | refine Below.drew ?_ | refine below_drewN ?_ _ | exact hbw | exact Below.refl _ _))
  generalize hwx : ((((((w12.setCell ⟨Pv, 0, none⟩ (.int .i64 A)).setCell ⟨Pv, 1, none⟩ (.int .i64 B)).setCell ⟨Pv, 2, none⟩ (.int .i64 C)).setCell ⟨Pv, 3, none⟩ (.int .i64 D)).setCell ⟨Pv, 4, none⟩ (.int .i64 e)).setCell ⟨Pv, 5, none⟩ (.int .i64 f)) = w13 at *
  clear hwx zKv0 zfKv0 zKv1 zfKv1 zKv2 zfKv2 zKv3 zfKv3 zKv4 zfKv4 zKv5 zfKv5 hs_w12 hl_Pv hm_Pv
  have lKm := Km.lt
  have cKm0 := Km.cell 0
  have cKm1 := Km.cell 1
  have cKm2 := Km.cell 2
  have cKm3 := Km.cell 3
  have cKm4 := Km.cell 4
  have cKm5 := Km.cell 5
  have lKp := Kp.lt
  have cKp0 := Kp.cell 0
  have cKp1 := Kp.cell 1
  have cKp2 := Kp.cell 2
  have cKp3 := Kp.cell 3
  have cKp4 := Kp.cell 4
  have cKp5 := Kp.cell 5
  have lKt := Kt.lt
  have cKt0 := Kt.cell 0
  have cKt1 := Kt.cell 1
  have cKt2 := Kt.cell 2
  have cKt3 := Kt.cell 3
  have cKt4 := Kt.cell 4
  have cKt5 := Kt.cell 5
  have lKu := Ku.lt
  have cKu0 := Ku.cell 0
  have cKu1 := Ku.cell 1
  have cKu2 := Ku.cell 2
  have cKu3 := Ku.cell 3
  have cKu4 := Ku.cell 4
  have cKu5 := Ku.cell 5
  have lKv := Kv.lt
  have cKv0 := Kv.cell 0
  have cKv1 := Kv.cell 1
  have cKv2 := Kv.cell 2
  have cKv3 := Kv.cell 3
  have cKv4 := Kv.cell 4
  have cKv5 := Kv.cell 5
  simp only [List.getElem?_toArray, List.getElem?_cons_succ, List.getElem?_cons_zero] at cKm0 cKm1 cKm2 cKm3 cKm4 cKm5 cKp0 cKp1 cKp2 cKp3 cKp4 cKp5 cKt0 cKt1 cKt2 cKt3 cKt4 cKt5 cKu0 cKu1 cKu2 cKu3 cKu4 cKu5 cKv0 cKv1 cKv2 cKv3 cKv4 cKv5
  refine HKx.out _ _ ?_
  clear HKx Kx
  go_wp2_with fail
  go_ret
  exact ⟨rfl, by (repeat' (first | refine bset ?_ (by first | omega | (simp <;> omega)) _ | refine balloc ?_ _ | refine Below.drew ?_ | refine below_drewN ?_ _ | exact hbw | exact Below.refl _ _))⟩

theorem moves_law (A B C D E F a0 a1 a2 a3 : Int) (w : World) (_h0 : -9223372036854775808 ≤ A ∧ A ≤ 9223372036854775807) (_h1 : -9223372036854775808 ≤ B ∧ B ≤ 9223372036854775807) (_h2 : -9223372036854775808 ≤ C ∧ C ≤ 9223372036854775807) (_h3 : -9223372036854775808 ≤ D ∧ D ≤ 9223372036854775807) (_h4 : -9223372036854775808 ≤ E ∧ E ≤ 9223372036854775807) (_h5 : -9223372036854775808 ≤ F ∧ F ≤ 9223372036854775807) (_h6 : -9223372036854775808 ≤ a0 ∧ a0 ≤ 9223372036854775807) (_h7 : -9223372036854775808 ≤ a1 ∧ a1 ≤ 9223372036854775807) (_h8 : -9223372036854775808 ≤ a2 ∧ a2 ≤ 9223372036854775807) (_h9 : -9223372036854775808 ≤ a3 ∧ a3 ≤ 9223372036854775807) : Calls Try.prog 4 #[.agg #[.int .i64 A, .int .i64 B, .int .i64 C, .int .i64 D, .int .i64 E, .int .i64 F], .agg #[.int .i64 a0, .int .i64 a1, .int .i64 a2, .int .i64 a3]] w fun ed w' => ed = .returned (.bool true) ∧ Below w.heap.size w w' := by
  cases hm : mayB A B C D E F with
  | false => exact moves_no A B C D E F a0 a1 a2 a3 _ _ _ _ w rfl rfl rfl rfl hm
  | true => exact moves_yes A B C D E F a0 a1 a2 a3 _ _ _ _ w rfl rfl rfl rfl hm
end Go.Proofs.Ytaephahcohdbpaa.mt
