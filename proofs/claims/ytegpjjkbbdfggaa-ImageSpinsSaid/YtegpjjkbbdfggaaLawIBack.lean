/-
  ImageBack: what is at a point is the sample of where the point came from.
-/
import Derived.Test.YtegpjjkbbdfggaaBackP
import Derived.Test.YtegpjjkbbdfggaaUpAlloc
namespace Go.Proofs.Ytegpjjkbbdfggaa.im
set_option linter.unusedVariables false
set_option linter.unusedSimpArgs false
open Go.RowKit bs mt op

theorem alloc_img (dst : Option Tmp) (ty : TypeId) (pos : String) (after : Array Edge) (guard : Option (Nat × Bool)) (ρ : Operand → Value) (w : World) :
    (execOp ρ ⟨dst, .alloc 23, ty, pos, after, guard⟩).run Try.prog w = .ok (.value (.pointer (some ⟨w.heap.size, 0, none⟩))) (w.alloc (.cells #[.int .i64 0, .int .i64 0, .int .i64 0, .string ⟨#[]⟩] 23)) := by kernel_rfl
theorem alloc_mat (dst : Option Tmp) (ty : TypeId) (pos : String) (after : Array Edge) (guard : Option (Nat × Bool)) (ρ : Operand → Value) (w : World) :
    (execOp ρ ⟨dst, .alloc 25, ty, pos, after, guard⟩).run Try.prog w = .ok (.value (.pointer (some ⟨w.heap.size, 0, none⟩))) (w.alloc (.cells #[.int .i64 0, .int .i64 0, .int .i64 0, .int .i64 0, .int .i64 0, .int .i64 0] 25)) := by kernel_rfl

set_option maxRecDepth 100000 in
set_option maxHeartbeats 3200000 in
theorem iback_err14 (A : Option Addr) (n c : Nat) (ns : Nat → Int) (bits a0 a1 a2 a3 a4 a5 x0 y0 px py W H B a b c2 d e f fx fy av : Int) (s : ByteArray) (w : World) (hr : Ints w A n c ns)
    (HMd : Hid (∀ W', Ints W' A n c ns → Calls Try.prog 23 #[.slice A n c, .int .i64 bits] W' fun ed w' => ed = .returned (.agg #[.int .i64 W, .int .i64 H, .int .i64 B, .string s]) ∧ Below W'.heap.size W' w'))
    (HTu : Hid (∀ W', Calls Try.prog 24 #[.agg #[.int .i64 a0, .int .i64 a1, .int .i64 a2, .int .i64 a3, .int .i64 a4, .int .i64 a5]] W' fun ed w' => ed = .returned (.agg #[.int .i64 a, .int .i64 b, .int .i64 c2, .int .i64 d, .int .i64 e, .int .i64 f]) ∧ Below W'.heap.size W' w'))
    (HPx : Hid (∀ W', Calls Try.prog 25 #[.int .i64 x0, .int .i64 300] W' fun ed w' => ed = .returned (.int .i64 px) ∧ W' = w'))
    (HPy : Hid (∀ W', Calls Try.prog 25 #[.int .i64 y0, .int .i64 300] W' fun ed w' => ed = .returned (.int .i64 py) ∧ W' = w'))
    (px0 : 0 ≤ px) (px1 : px < 300) (py0 : 0 ≤ py) (py1 : py < 300)
    (HBk : Hid (∀ W', Calls Try.prog 26 #[.agg #[.int .i64 a, .int .i64 b, .int .i64 c2, .int .i64 d, .int .i64 e, .int .i64 f], .int .i64 (px - 40), .int .i64 (py - 40)] W' fun ed w' => ed = .returned (.tuple #[.int .i64 fx, .int .i64 fy, .int .i64 14]) ∧ Below W'.heap.size W' w'))
    (HAt : Hid (∀ W', Calls Try.prog 18 #[.agg #[.int .i64 W, .int .i64 H, .int .i64 B, .string s], .agg #[.int .i64 a, .int .i64 b, .int .i64 c2, .int .i64 d, .int .i64 e, .int .i64 f], .int .i64 (px - 40), .int .i64 (py - 40)] W' fun ed w' => ed = .returned (.int .i64 (-1)) ∧ Below W'.heap.size W' w'))
    : Calls Try.prog 4 #[.slice A n c, .int .i64 bits, .agg #[.int .i64 a0, .int .i64 a1, .int .i64 a2, .int .i64 a3, .int .i64 a4, .int .i64 a5], .int .i64 x0, .int .i64 y0] w fun ed w' => ed = .returned (.bool true) ∧ Below w.heap.size w w' := by
  go_enter Try.func4, Try.ntmps4
  go_wp2_with fail
  refine (known_any _).mono ?_
  rintro e_ w1 ⟨rfl, hb1⟩
  have Ka := (Blk.new w 34 #[.int .i64 a0, .int .i64 a1, .int .i64 a2, .int .i64 a3, .int .i64 a4, .int .i64 a5])
  replace Ka := Ka.below hb1 Ka.lt
  have hbw : Below w.heap.size w w1 := btrans (by (repeat' (first | exact Below.refl _ _ | exact Below.refl _ _ | refine balloc ?_ _ | refine Below.drew ?_ | refine below_drewN ?_ _ | refine bset ?_ (by first | omega | (simp <;> omega)) _))) hb1
  clear hb1 
  have lKa := Ka.lt
  have cKa0 := Ka.cell 0
  have cKa1 := Ka.cell 1
  have cKa2 := Ka.cell 2
  have cKa3 := Ka.cell 3
  have cKa4 := Ka.cell 4
  have cKa5 := Ka.cell 5
  simp only [List.getElem?_toArray, List.getElem?_cons_succ, List.getElem?_cons_zero] at cKa0 cKa1 cKa2 cKa3 cKa4 cKa5
  go_wp2_with fail
  refine wp_region_alloc2 5 [] (.cells #[.int .i64 0, .int .i64 0, .int .i64 0, .string ⟨#[]⟩] 23) (.cells #[.int .i64 0, .int .i64 0, .int .i64 0, .int .i64 0, .int .i64 0, .int .i64 0] 25) _ _ (by kernel_rfl) (by kernel_rfl) (fun d _ _ _ _ h => by cases d <;> exact h) rfl rfl (fun ρ w => alloc_img _ _ _ _ _ ρ w) (fun ρ w => alloc_mat _ _ _ _ _ ρ w) ?_
  intro u0
  have uKa0 : ∀ u : Up u0.val, u.val.cell? ⟨w.heap.size, 0, none⟩ = some (.int .i64 a0) := fun u => ((u.cell (Nat.lt_of_lt_of_le lKa u0.ok.size)).trans (u0.cell lKa)).trans cKa0
  have uKa1 : ∀ u : Up u0.val, u.val.cell? ⟨w.heap.size, 1, none⟩ = some (.int .i64 a1) := fun u => ((u.cell (Nat.lt_of_lt_of_le lKa u0.ok.size)).trans (u0.cell lKa)).trans cKa1
  have uKa2 : ∀ u : Up u0.val, u.val.cell? ⟨w.heap.size, 2, none⟩ = some (.int .i64 a2) := fun u => ((u.cell (Nat.lt_of_lt_of_le lKa u0.ok.size)).trans (u0.cell lKa)).trans cKa2
  have uKa3 : ∀ u : Up u0.val, u.val.cell? ⟨w.heap.size, 3, none⟩ = some (.int .i64 a3) := fun u => ((u.cell (Nat.lt_of_lt_of_le lKa u0.ok.size)).trans (u0.cell lKa)).trans cKa3
  have uKa4 : ∀ u : Up u0.val, u.val.cell? ⟨w.heap.size, 4, none⟩ = some (.int .i64 a4) := fun u => ((u.cell (Nat.lt_of_lt_of_le lKa u0.ok.size)).trans (u0.cell lKa)).trans cKa4
  have uKa5 : ∀ u : Up u0.val, u.val.cell? ⟨w.heap.size, 5, none⟩ = some (.int .i64 a5) := fun u => ((u.cell (Nat.lt_of_lt_of_le lKa u0.ok.size)).trans (u0.cell lKa)).trans cKa5
  have HU1 := Lib.hid (fun u : Up u0.val => up_of (u := u) (HMd.out u.val (hr.below (btrans (btrans hbw u0.ok) u.ok))))
  have HU2 := Lib.hid (fun u : Up u0.val => up_of (u := u) (HTu.out u.val))
  simp only [List.take_succ_cons, List.take_zero, List.drop_succ_cons, List.drop_zero]
  repeat (go_big_quiet_step (fail))
  go_big_quiet_step (exact HU1.out _)
  repeat (go_big_quiet_step (fail))
  go_big_quiet_step (exact HU2.out _)
  repeat (go_big_quiet_step (fail))
  refine wpQuiet_nil ?_
  rintro _ ⟨uq, rfl⟩ Pi Pm ⟨hi0, hi1, Ki⟩ ⟨hm0, hm1, Km⟩ hne
  replace Ki : Blk uq.val Pi 23 #[.int .i64 0, .int .i64 0, .int .i64 0, .string ⟨#[]⟩] := Ki
  replace Km : Blk uq.val Pm 25 #[.int .i64 0, .int .i64 0, .int .i64 0, .int .i64 0, .int .i64 0, .int .i64 0] := Km
  have hs0 := hbw.size
  replace hbw := btrans hbw uq.ok
  simp only [Act.put]
  generalize hwx : uq.val = w2 at *
  clear hwx uq u0 Ka HU1 HU2 HMd HTu uKa0 uKa1 uKa2 uKa3 uKa4 uKa5 lKa cKa0 cKa1 cKa2 cKa3 cKa4 cKa5
  have ci0 := Ki.cell 0
  have fi0 := Ki.frozen 0
  have ci1 := Ki.cell 1
  have fi1 := Ki.frozen 1
  have ci2 := Ki.cell 2
  have fi2 := Ki.frozen 2
  have ci3 := Ki.cell 3
  have fi3 := Ki.frozen 3
  have cm0 := Km.cell 0
  have fm0 := Km.frozen 0
  have cm1 := Km.cell 1
  have fm1 := Km.frozen 1
  have cm2 := Km.cell 2
  have fm2 := Km.frozen 2
  have cm3 := Km.cell 3
  have fm3 := Km.frozen 3
  have cm4 := Km.cell 4
  have fm4 := Km.frozen 4
  have cm5 := Km.cell 5
  have fm5 := Km.frozen 5
  simp only [List.getElem?_toArray, List.getElem?_cons_succ, List.getElem?_cons_zero] at ci0 ci1 ci2 ci3 cm0 cm1 cm2 cm3 cm4 cm5
  refine wpList_stop fun Kx HKx => ?_
  go_wp2_with fail
  replace Ki : Blk _ Pi 23 #[.int .i64 W, .int .i64 H, .int .i64 B, .string s] := blk_cast ((((((((((Ki.set_ 0 (.int .i64 W)).set_ 1 (.int .i64 H)).set_ 2 (.int .i64 B)).set_ 3 (.string s)).far (p := ⟨Pm, 0, none⟩) (show Pi ≠ Pm by omega) (.int .i64 a)).far (p := ⟨Pm, 1, none⟩) (show Pi ≠ Pm by omega) (.int .i64 b)).far (p := ⟨Pm, 2, none⟩) (show Pi ≠ Pm by omega) (.int .i64 c2)).far (p := ⟨Pm, 3, none⟩) (show Pi ≠ Pm by omega) (.int .i64 d)).far (p := ⟨Pm, 4, none⟩) (show Pi ≠ Pm by omega) (.int .i64 e)).far (p := ⟨Pm, 5, none⟩) (show Pi ≠ Pm by omega) (.int .i64 f)) (by kernel_rfl)
  replace Km : Blk _ Pm 25 #[.int .i64 a, .int .i64 b, .int .i64 c2, .int .i64 d, .int .i64 e, .int .i64 f] := blk_cast ((((((((((Km.far (p := ⟨Pi, 0, none⟩) (show Pm ≠ Pi by omega) (.int .i64 W)).far (p := ⟨Pi, 1, none⟩) (show Pm ≠ Pi by omega) (.int .i64 H)).far (p := ⟨Pi, 2, none⟩) (show Pm ≠ Pi by omega) (.int .i64 B)).far (p := ⟨Pi, 3, none⟩) (show Pm ≠ Pi by omega) (.string s)).set_ 0 (.int .i64 a)).set_ 1 (.int .i64 b)).set_ 2 (.int .i64 c2)).set_ 3 (.int .i64 d)).set_ 4 (.int .i64 e)).set_ 5 (.int .i64 f)) (by kernel_rfl)
  have hq0 : w.heap.size ≤ Pi := by omega
  have hq1 : w.heap.size ≤ Pm := by omega
  replace hbw : Below w.heap.size w ((((((((((w2.setCell ⟨Pi, 0, none⟩ (.int .i64 W)).setCell ⟨Pi, 1, none⟩ (.int .i64 H)).setCell ⟨Pi, 2, none⟩ (.int .i64 B)).setCell ⟨Pi, 3, none⟩ (.string s)).setCell ⟨Pm, 0, none⟩ (.int .i64 a)).setCell ⟨Pm, 1, none⟩ (.int .i64 b)).setCell ⟨Pm, 2, none⟩ (.int .i64 c2)).setCell ⟨Pm, 3, none⟩ (.int .i64 d)).setCell ⟨Pm, 4, none⟩ (.int .i64 e)).setCell ⟨Pm, 5, none⟩ (.int .i64 f)) := by (repeat' (first | refine bset ?_ (by first | omega | (simp <;> omega)) _ | refine balloc ?_ _ | refine Below.drew ?_ | refine below_drewN ?_ _ | exact hbw | exact Below.refl _ _))
  generalize hwx : ((((((((((w2.setCell ⟨Pi, 0, none⟩ (.int .i64 W)).setCell ⟨Pi, 1, none⟩ (.int .i64 H)).setCell ⟨Pi, 2, none⟩ (.int .i64 B)).setCell ⟨Pi, 3, none⟩ (.string s)).setCell ⟨Pm, 0, none⟩ (.int .i64 a)).setCell ⟨Pm, 1, none⟩ (.int .i64 b)).setCell ⟨Pm, 2, none⟩ (.int .i64 c2)).setCell ⟨Pm, 3, none⟩ (.int .i64 d)).setCell ⟨Pm, 4, none⟩ (.int .i64 e)).setCell ⟨Pm, 5, none⟩ (.int .i64 f)) = w3 at *
  clear hwx ci0 fi0 ci1 fi1 ci2 fi2 ci3 fi3 cm0 fm0 cm1 fm1 cm2 fm2 cm3 fm3 cm4 fm4 cm5 fm5 hs0 hi0 hi1 hm0 hm1
  have lKi := Ki.lt
  have cKi0 := Ki.cell 0
  have cKi1 := Ki.cell 1
  have cKi2 := Ki.cell 2
  have cKi3 := Ki.cell 3
  have lKm := Km.lt
  have cKm0 := Km.cell 0
  have cKm1 := Km.cell 1
  have cKm2 := Km.cell 2
  have cKm3 := Km.cell 3
  have cKm4 := Km.cell 4
  have cKm5 := Km.cell 5
  simp only [List.getElem?_toArray, List.getElem?_cons_succ, List.getElem?_cons_zero] at cKi0 cKi1 cKi2 cKi3 cKm0 cKm1 cKm2 cKm3 cKm4 cKm5
  refine HKx.out _ _ ?_
  clear HKx Kx
  go_wp2_with fail
  refine (HPx.out _).mono ?_
  rintro e_ w_ ⟨rfl, rfl⟩
  go_wp2_with fail
  refine (HPy.out _).mono ?_
  rintro e_ w_ ⟨rfl, rfl⟩
  go_wp2_with fail
  refine (HBk.out _).mono ?_
  rintro e_ w4 ⟨rfl, hb4⟩
  replace Ki := Ki.below hb4 Ki.lt
  replace Km := Km.below hb4 Km.lt
  replace hbw : Below w.heap.size w w4 := btrans (by (repeat' (first | refine bset ?_ (by first | omega | (simp <;> omega)) _ | refine balloc ?_ _ | refine Below.drew ?_ | refine below_drewN ?_ _ | exact hbw | exact Below.refl _ _))) hb4
  clear hb4 lKi cKi0 cKi1 cKi2 cKi3 lKm cKm0 cKm1 cKm2 cKm3 cKm4 cKm5
  have lKi := Ki.lt
  have cKi0 := Ki.cell 0
  have cKi1 := Ki.cell 1
  have cKi2 := Ki.cell 2
  have cKi3 := Ki.cell 3
  have lKm := Km.lt
  have cKm0 := Km.cell 0
  have cKm1 := Km.cell 1
  have cKm2 := Km.cell 2
  have cKm3 := Km.cell 3
  have cKm4 := Km.cell 4
  have cKm5 := Km.cell 5
  simp only [List.getElem?_toArray, List.getElem?_cons_succ, List.getElem?_cons_zero] at cKi0 cKi1 cKi2 cKi3 cKm0 cKm1 cKm2 cKm3 cKm4 cKm5
  go_wp2_with fail
  refine (HAt.out _).mono ?_
  rintro e_ w5 ⟨rfl, hb5⟩
  replace Ki := Ki.below hb5 Ki.lt
  replace Km := Km.below hb5 Km.lt
  replace hbw : Below w.heap.size w w5 := btrans (by (repeat' (first | refine bset ?_ (by first | omega | (simp <;> omega)) _ | refine balloc ?_ _ | refine Below.drew ?_ | refine below_drewN ?_ _ | exact hbw | exact Below.refl _ _))) hb5
  clear hb5 lKi cKi0 cKi1 cKi2 cKi3 lKm cKm0 cKm1 cKm2 cKm3 cKm4 cKm5
  have lKi := Ki.lt
  have cKi0 := Ki.cell 0
  have cKi1 := Ki.cell 1
  have cKi2 := Ki.cell 2
  have cKi3 := Ki.cell 3
  have lKm := Km.lt
  have cKm0 := Km.cell 0
  have cKm1 := Km.cell 1
  have cKm2 := Km.cell 2
  have cKm3 := Km.cell 3
  have cKm4 := Km.cell 4
  have cKm5 := Km.cell 5
  simp only [List.getElem?_toArray, List.getElem?_cons_succ, List.getElem?_cons_zero] at cKi0 cKi1 cKi2 cKi3 cKm0 cKm1 cKm2 cKm3 cKm4 cKm5
  go_wp2_with fail
  go_ret
  exact ⟨rfl, hbw⟩

set_option maxRecDepth 100000 in
set_option maxHeartbeats 3200000 in
theorem iback_err2 (A : Option Addr) (n c : Nat) (ns : Nat → Int) (bits a0 a1 a2 a3 a4 a5 x0 y0 px py W H B a b c2 d e f fx fy av : Int) (s : ByteArray) (w : World) (hr : Ints w A n c ns)
    (HMd : Hid (∀ W', Ints W' A n c ns → Calls Try.prog 23 #[.slice A n c, .int .i64 bits] W' fun ed w' => ed = .returned (.agg #[.int .i64 W, .int .i64 H, .int .i64 B, .string s]) ∧ Below W'.heap.size W' w'))
    (HTu : Hid (∀ W', Calls Try.prog 24 #[.agg #[.int .i64 a0, .int .i64 a1, .int .i64 a2, .int .i64 a3, .int .i64 a4, .int .i64 a5]] W' fun ed w' => ed = .returned (.agg #[.int .i64 a, .int .i64 b, .int .i64 c2, .int .i64 d, .int .i64 e, .int .i64 f]) ∧ Below W'.heap.size W' w'))
    (HPx : Hid (∀ W', Calls Try.prog 25 #[.int .i64 x0, .int .i64 300] W' fun ed w' => ed = .returned (.int .i64 px) ∧ W' = w'))
    (HPy : Hid (∀ W', Calls Try.prog 25 #[.int .i64 y0, .int .i64 300] W' fun ed w' => ed = .returned (.int .i64 py) ∧ W' = w'))
    (px0 : 0 ≤ px) (px1 : px < 300) (py0 : 0 ≤ py) (py1 : py < 300)
    (HBk : Hid (∀ W', Calls Try.prog 26 #[.agg #[.int .i64 a, .int .i64 b, .int .i64 c2, .int .i64 d, .int .i64 e, .int .i64 f], .int .i64 (px - 40), .int .i64 (py - 40)] W' fun ed w' => ed = .returned (.tuple #[.int .i64 fx, .int .i64 fy, .int .i64 2]) ∧ Below W'.heap.size W' w'))
    (HAt : Hid (∀ W', Calls Try.prog 18 #[.agg #[.int .i64 W, .int .i64 H, .int .i64 B, .string s], .agg #[.int .i64 a, .int .i64 b, .int .i64 c2, .int .i64 d, .int .i64 e, .int .i64 f], .int .i64 (px - 40), .int .i64 (py - 40)] W' fun ed w' => ed = .returned (.int .i64 (-1)) ∧ Below W'.heap.size W' w'))
    : Calls Try.prog 4 #[.slice A n c, .int .i64 bits, .agg #[.int .i64 a0, .int .i64 a1, .int .i64 a2, .int .i64 a3, .int .i64 a4, .int .i64 a5], .int .i64 x0, .int .i64 y0] w fun ed w' => ed = .returned (.bool true) ∧ Below w.heap.size w w' := by
  go_enter Try.func4, Try.ntmps4
  go_wp2_with fail
  refine (known_any _).mono ?_
  rintro e_ w1 ⟨rfl, hb1⟩
  have Ka := (Blk.new w 34 #[.int .i64 a0, .int .i64 a1, .int .i64 a2, .int .i64 a3, .int .i64 a4, .int .i64 a5])
  replace Ka := Ka.below hb1 Ka.lt
  have hbw : Below w.heap.size w w1 := btrans (by (repeat' (first | exact Below.refl _ _ | exact Below.refl _ _ | refine balloc ?_ _ | refine Below.drew ?_ | refine below_drewN ?_ _ | refine bset ?_ (by first | omega | (simp <;> omega)) _))) hb1
  clear hb1 
  have lKa := Ka.lt
  have cKa0 := Ka.cell 0
  have cKa1 := Ka.cell 1
  have cKa2 := Ka.cell 2
  have cKa3 := Ka.cell 3
  have cKa4 := Ka.cell 4
  have cKa5 := Ka.cell 5
  simp only [List.getElem?_toArray, List.getElem?_cons_succ, List.getElem?_cons_zero] at cKa0 cKa1 cKa2 cKa3 cKa4 cKa5
  go_wp2_with fail
  refine wp_region_alloc2 5 [] (.cells #[.int .i64 0, .int .i64 0, .int .i64 0, .string ⟨#[]⟩] 23) (.cells #[.int .i64 0, .int .i64 0, .int .i64 0, .int .i64 0, .int .i64 0, .int .i64 0] 25) _ _ (by kernel_rfl) (by kernel_rfl) (fun d _ _ _ _ h => by cases d <;> exact h) rfl rfl (fun ρ w => alloc_img _ _ _ _ _ ρ w) (fun ρ w => alloc_mat _ _ _ _ _ ρ w) ?_
  intro u0
  have uKa0 : ∀ u : Up u0.val, u.val.cell? ⟨w.heap.size, 0, none⟩ = some (.int .i64 a0) := fun u => ((u.cell (Nat.lt_of_lt_of_le lKa u0.ok.size)).trans (u0.cell lKa)).trans cKa0
  have uKa1 : ∀ u : Up u0.val, u.val.cell? ⟨w.heap.size, 1, none⟩ = some (.int .i64 a1) := fun u => ((u.cell (Nat.lt_of_lt_of_le lKa u0.ok.size)).trans (u0.cell lKa)).trans cKa1
  have uKa2 : ∀ u : Up u0.val, u.val.cell? ⟨w.heap.size, 2, none⟩ = some (.int .i64 a2) := fun u => ((u.cell (Nat.lt_of_lt_of_le lKa u0.ok.size)).trans (u0.cell lKa)).trans cKa2
  have uKa3 : ∀ u : Up u0.val, u.val.cell? ⟨w.heap.size, 3, none⟩ = some (.int .i64 a3) := fun u => ((u.cell (Nat.lt_of_lt_of_le lKa u0.ok.size)).trans (u0.cell lKa)).trans cKa3
  have uKa4 : ∀ u : Up u0.val, u.val.cell? ⟨w.heap.size, 4, none⟩ = some (.int .i64 a4) := fun u => ((u.cell (Nat.lt_of_lt_of_le lKa u0.ok.size)).trans (u0.cell lKa)).trans cKa4
  have uKa5 : ∀ u : Up u0.val, u.val.cell? ⟨w.heap.size, 5, none⟩ = some (.int .i64 a5) := fun u => ((u.cell (Nat.lt_of_lt_of_le lKa u0.ok.size)).trans (u0.cell lKa)).trans cKa5
  have HU1 := Lib.hid (fun u : Up u0.val => up_of (u := u) (HMd.out u.val (hr.below (btrans (btrans hbw u0.ok) u.ok))))
  have HU2 := Lib.hid (fun u : Up u0.val => up_of (u := u) (HTu.out u.val))
  simp only [List.take_succ_cons, List.take_zero, List.drop_succ_cons, List.drop_zero]
  repeat (go_big_quiet_step (fail))
  go_big_quiet_step (exact HU1.out _)
  repeat (go_big_quiet_step (fail))
  go_big_quiet_step (exact HU2.out _)
  repeat (go_big_quiet_step (fail))
  refine wpQuiet_nil ?_
  rintro _ ⟨uq, rfl⟩ Pi Pm ⟨hi0, hi1, Ki⟩ ⟨hm0, hm1, Km⟩ hne
  replace Ki : Blk uq.val Pi 23 #[.int .i64 0, .int .i64 0, .int .i64 0, .string ⟨#[]⟩] := Ki
  replace Km : Blk uq.val Pm 25 #[.int .i64 0, .int .i64 0, .int .i64 0, .int .i64 0, .int .i64 0, .int .i64 0] := Km
  have hs0 := hbw.size
  replace hbw := btrans hbw uq.ok
  simp only [Act.put]
  generalize hwx : uq.val = w2 at *
  clear hwx uq u0 Ka HU1 HU2 HMd HTu uKa0 uKa1 uKa2 uKa3 uKa4 uKa5 lKa cKa0 cKa1 cKa2 cKa3 cKa4 cKa5
  have ci0 := Ki.cell 0
  have fi0 := Ki.frozen 0
  have ci1 := Ki.cell 1
  have fi1 := Ki.frozen 1
  have ci2 := Ki.cell 2
  have fi2 := Ki.frozen 2
  have ci3 := Ki.cell 3
  have fi3 := Ki.frozen 3
  have cm0 := Km.cell 0
  have fm0 := Km.frozen 0
  have cm1 := Km.cell 1
  have fm1 := Km.frozen 1
  have cm2 := Km.cell 2
  have fm2 := Km.frozen 2
  have cm3 := Km.cell 3
  have fm3 := Km.frozen 3
  have cm4 := Km.cell 4
  have fm4 := Km.frozen 4
  have cm5 := Km.cell 5
  have fm5 := Km.frozen 5
  simp only [List.getElem?_toArray, List.getElem?_cons_succ, List.getElem?_cons_zero] at ci0 ci1 ci2 ci3 cm0 cm1 cm2 cm3 cm4 cm5
  refine wpList_stop fun Kx HKx => ?_
  go_wp2_with fail
  replace Ki : Blk _ Pi 23 #[.int .i64 W, .int .i64 H, .int .i64 B, .string s] := blk_cast ((((((((((Ki.set_ 0 (.int .i64 W)).set_ 1 (.int .i64 H)).set_ 2 (.int .i64 B)).set_ 3 (.string s)).far (p := ⟨Pm, 0, none⟩) (show Pi ≠ Pm by omega) (.int .i64 a)).far (p := ⟨Pm, 1, none⟩) (show Pi ≠ Pm by omega) (.int .i64 b)).far (p := ⟨Pm, 2, none⟩) (show Pi ≠ Pm by omega) (.int .i64 c2)).far (p := ⟨Pm, 3, none⟩) (show Pi ≠ Pm by omega) (.int .i64 d)).far (p := ⟨Pm, 4, none⟩) (show Pi ≠ Pm by omega) (.int .i64 e)).far (p := ⟨Pm, 5, none⟩) (show Pi ≠ Pm by omega) (.int .i64 f)) (by kernel_rfl)
  replace Km : Blk _ Pm 25 #[.int .i64 a, .int .i64 b, .int .i64 c2, .int .i64 d, .int .i64 e, .int .i64 f] := blk_cast ((((((((((Km.far (p := ⟨Pi, 0, none⟩) (show Pm ≠ Pi by omega) (.int .i64 W)).far (p := ⟨Pi, 1, none⟩) (show Pm ≠ Pi by omega) (.int .i64 H)).far (p := ⟨Pi, 2, none⟩) (show Pm ≠ Pi by omega) (.int .i64 B)).far (p := ⟨Pi, 3, none⟩) (show Pm ≠ Pi by omega) (.string s)).set_ 0 (.int .i64 a)).set_ 1 (.int .i64 b)).set_ 2 (.int .i64 c2)).set_ 3 (.int .i64 d)).set_ 4 (.int .i64 e)).set_ 5 (.int .i64 f)) (by kernel_rfl)
  have hq0 : w.heap.size ≤ Pi := by omega
  have hq1 : w.heap.size ≤ Pm := by omega
  replace hbw : Below w.heap.size w ((((((((((w2.setCell ⟨Pi, 0, none⟩ (.int .i64 W)).setCell ⟨Pi, 1, none⟩ (.int .i64 H)).setCell ⟨Pi, 2, none⟩ (.int .i64 B)).setCell ⟨Pi, 3, none⟩ (.string s)).setCell ⟨Pm, 0, none⟩ (.int .i64 a)).setCell ⟨Pm, 1, none⟩ (.int .i64 b)).setCell ⟨Pm, 2, none⟩ (.int .i64 c2)).setCell ⟨Pm, 3, none⟩ (.int .i64 d)).setCell ⟨Pm, 4, none⟩ (.int .i64 e)).setCell ⟨Pm, 5, none⟩ (.int .i64 f)) := by (repeat' (first | refine bset ?_ (by first | omega | (simp <;> omega)) _ | refine balloc ?_ _ | refine Below.drew ?_ | refine below_drewN ?_ _ | exact hbw | exact Below.refl _ _))
  generalize hwx : ((((((((((w2.setCell ⟨Pi, 0, none⟩ (.int .i64 W)).setCell ⟨Pi, 1, none⟩ (.int .i64 H)).setCell ⟨Pi, 2, none⟩ (.int .i64 B)).setCell ⟨Pi, 3, none⟩ (.string s)).setCell ⟨Pm, 0, none⟩ (.int .i64 a)).setCell ⟨Pm, 1, none⟩ (.int .i64 b)).setCell ⟨Pm, 2, none⟩ (.int .i64 c2)).setCell ⟨Pm, 3, none⟩ (.int .i64 d)).setCell ⟨Pm, 4, none⟩ (.int .i64 e)).setCell ⟨Pm, 5, none⟩ (.int .i64 f)) = w3 at *
  clear hwx ci0 fi0 ci1 fi1 ci2 fi2 ci3 fi3 cm0 fm0 cm1 fm1 cm2 fm2 cm3 fm3 cm4 fm4 cm5 fm5 hs0 hi0 hi1 hm0 hm1
  have lKi := Ki.lt
  have cKi0 := Ki.cell 0
  have cKi1 := Ki.cell 1
  have cKi2 := Ki.cell 2
  have cKi3 := Ki.cell 3
  have lKm := Km.lt
  have cKm0 := Km.cell 0
  have cKm1 := Km.cell 1
  have cKm2 := Km.cell 2
  have cKm3 := Km.cell 3
  have cKm4 := Km.cell 4
  have cKm5 := Km.cell 5
  simp only [List.getElem?_toArray, List.getElem?_cons_succ, List.getElem?_cons_zero] at cKi0 cKi1 cKi2 cKi3 cKm0 cKm1 cKm2 cKm3 cKm4 cKm5
  refine HKx.out _ _ ?_
  clear HKx Kx
  go_wp2_with fail
  refine (HPx.out _).mono ?_
  rintro e_ w_ ⟨rfl, rfl⟩
  go_wp2_with fail
  refine (HPy.out _).mono ?_
  rintro e_ w_ ⟨rfl, rfl⟩
  go_wp2_with fail
  refine (HBk.out _).mono ?_
  rintro e_ w4 ⟨rfl, hb4⟩
  replace Ki := Ki.below hb4 Ki.lt
  replace Km := Km.below hb4 Km.lt
  replace hbw : Below w.heap.size w w4 := btrans (by (repeat' (first | refine bset ?_ (by first | omega | (simp <;> omega)) _ | refine balloc ?_ _ | refine Below.drew ?_ | refine below_drewN ?_ _ | exact hbw | exact Below.refl _ _))) hb4
  clear hb4 lKi cKi0 cKi1 cKi2 cKi3 lKm cKm0 cKm1 cKm2 cKm3 cKm4 cKm5
  have lKi := Ki.lt
  have cKi0 := Ki.cell 0
  have cKi1 := Ki.cell 1
  have cKi2 := Ki.cell 2
  have cKi3 := Ki.cell 3
  have lKm := Km.lt
  have cKm0 := Km.cell 0
  have cKm1 := Km.cell 1
  have cKm2 := Km.cell 2
  have cKm3 := Km.cell 3
  have cKm4 := Km.cell 4
  have cKm5 := Km.cell 5
  simp only [List.getElem?_toArray, List.getElem?_cons_succ, List.getElem?_cons_zero] at cKi0 cKi1 cKi2 cKi3 cKm0 cKm1 cKm2 cKm3 cKm4 cKm5
  go_wp2_with fail
  refine (HAt.out _).mono ?_
  rintro e_ w5 ⟨rfl, hb5⟩
  replace Ki := Ki.below hb5 Ki.lt
  replace Km := Km.below hb5 Km.lt
  replace hbw : Below w.heap.size w w5 := btrans (by (repeat' (first | refine bset ?_ (by first | omega | (simp <;> omega)) _ | refine balloc ?_ _ | refine Below.drew ?_ | refine below_drewN ?_ _ | exact hbw | exact Below.refl _ _))) hb5
  clear hb5 lKi cKi0 cKi1 cKi2 cKi3 lKm cKm0 cKm1 cKm2 cKm3 cKm4 cKm5
  have lKi := Ki.lt
  have cKi0 := Ki.cell 0
  have cKi1 := Ki.cell 1
  have cKi2 := Ki.cell 2
  have cKi3 := Ki.cell 3
  have lKm := Km.lt
  have cKm0 := Km.cell 0
  have cKm1 := Km.cell 1
  have cKm2 := Km.cell 2
  have cKm3 := Km.cell 3
  have cKm4 := Km.cell 4
  have cKm5 := Km.cell 5
  simp only [List.getElem?_toArray, List.getElem?_cons_succ, List.getElem?_cons_zero] at cKi0 cKi1 cKi2 cKi3 cKm0 cKm1 cKm2 cKm3 cKm4 cKm5
  go_wp2_with fail
  go_ret
  exact ⟨rfl, hbw⟩

set_option maxRecDepth 100000 in
set_option maxHeartbeats 3200000 in
theorem iback_b1 (A : Option Addr) (n c : Nat) (ns : Nat → Int) (bits a0 a1 a2 a3 a4 a5 x0 y0 px py W H B a b c2 d e f fx fy av : Int) (s : ByteArray) (w : World) (hr : Ints w A n c ns)
    (HMd : Hid (∀ W', Ints W' A n c ns → Calls Try.prog 23 #[.slice A n c, .int .i64 bits] W' fun ed w' => ed = .returned (.agg #[.int .i64 W, .int .i64 H, .int .i64 B, .string s]) ∧ Below W'.heap.size W' w'))
    (HTu : Hid (∀ W', Calls Try.prog 24 #[.agg #[.int .i64 a0, .int .i64 a1, .int .i64 a2, .int .i64 a3, .int .i64 a4, .int .i64 a5]] W' fun ed w' => ed = .returned (.agg #[.int .i64 a, .int .i64 b, .int .i64 c2, .int .i64 d, .int .i64 e, .int .i64 f]) ∧ Below W'.heap.size W' w'))
    (HPx : Hid (∀ W', Calls Try.prog 25 #[.int .i64 x0, .int .i64 300] W' fun ed w' => ed = .returned (.int .i64 px) ∧ W' = w'))
    (HPy : Hid (∀ W', Calls Try.prog 25 #[.int .i64 y0, .int .i64 300] W' fun ed w' => ed = .returned (.int .i64 py) ∧ W' = w'))
    (px0 : 0 ≤ px) (px1 : px < 300) (py0 : 0 ≤ py) (py1 : py < 300)
    (HBk : Hid (∀ W', Calls Try.prog 26 #[.agg #[.int .i64 a, .int .i64 b, .int .i64 c2, .int .i64 d, .int .i64 e, .int .i64 f], .int .i64 (px - 40), .int .i64 (py - 40)] W' fun ed w' => ed = .returned (.tuple #[.int .i64 fx, .int .i64 fy, .int .i64 0]) ∧ Below W'.heap.size W' w'))
    (HAt : Hid (∀ W', Calls Try.prog 18 #[.agg #[.int .i64 W, .int .i64 H, .int .i64 B, .string s], .agg #[.int .i64 a, .int .i64 b, .int .i64 c2, .int .i64 d, .int .i64 e, .int .i64 f], .int .i64 (px - 40), .int .i64 (py - 40)] W' fun ed w' => ed = .returned (.int .i64 av) ∧ Below W'.heap.size W' w'))
    (HB1 : Hid (∀ W', Calls Try.prog 27 #[.int .i64 fx] W' fun ed w' => ed = .returned (.bool true) ∧ W' = w'))
    (hav : -1 ≤ av)
    : Calls Try.prog 4 #[.slice A n c, .int .i64 bits, .agg #[.int .i64 a0, .int .i64 a1, .int .i64 a2, .int .i64 a3, .int .i64 a4, .int .i64 a5], .int .i64 x0, .int .i64 y0] w fun ed w' => ed = .returned (.bool true) ∧ Below w.heap.size w w' := by
  go_enter Try.func4, Try.ntmps4
  go_wp2_with fail
  refine (known_any _).mono ?_
  rintro e_ w1 ⟨rfl, hb1⟩
  have Ka := (Blk.new w 34 #[.int .i64 a0, .int .i64 a1, .int .i64 a2, .int .i64 a3, .int .i64 a4, .int .i64 a5])
  replace Ka := Ka.below hb1 Ka.lt
  have hbw : Below w.heap.size w w1 := btrans (by (repeat' (first | exact Below.refl _ _ | exact Below.refl _ _ | refine balloc ?_ _ | refine Below.drew ?_ | refine below_drewN ?_ _ | refine bset ?_ (by first | omega | (simp <;> omega)) _))) hb1
  clear hb1 
  have lKa := Ka.lt
  have cKa0 := Ka.cell 0
  have cKa1 := Ka.cell 1
  have cKa2 := Ka.cell 2
  have cKa3 := Ka.cell 3
  have cKa4 := Ka.cell 4
  have cKa5 := Ka.cell 5
  simp only [List.getElem?_toArray, List.getElem?_cons_succ, List.getElem?_cons_zero] at cKa0 cKa1 cKa2 cKa3 cKa4 cKa5
  go_wp2_with fail
  refine wp_region_alloc2 5 [] (.cells #[.int .i64 0, .int .i64 0, .int .i64 0, .string ⟨#[]⟩] 23) (.cells #[.int .i64 0, .int .i64 0, .int .i64 0, .int .i64 0, .int .i64 0, .int .i64 0] 25) _ _ (by kernel_rfl) (by kernel_rfl) (fun d _ _ _ _ h => by cases d <;> exact h) rfl rfl (fun ρ w => alloc_img _ _ _ _ _ ρ w) (fun ρ w => alloc_mat _ _ _ _ _ ρ w) ?_
  intro u0
  have uKa0 : ∀ u : Up u0.val, u.val.cell? ⟨w.heap.size, 0, none⟩ = some (.int .i64 a0) := fun u => ((u.cell (Nat.lt_of_lt_of_le lKa u0.ok.size)).trans (u0.cell lKa)).trans cKa0
  have uKa1 : ∀ u : Up u0.val, u.val.cell? ⟨w.heap.size, 1, none⟩ = some (.int .i64 a1) := fun u => ((u.cell (Nat.lt_of_lt_of_le lKa u0.ok.size)).trans (u0.cell lKa)).trans cKa1
  have uKa2 : ∀ u : Up u0.val, u.val.cell? ⟨w.heap.size, 2, none⟩ = some (.int .i64 a2) := fun u => ((u.cell (Nat.lt_of_lt_of_le lKa u0.ok.size)).trans (u0.cell lKa)).trans cKa2
  have uKa3 : ∀ u : Up u0.val, u.val.cell? ⟨w.heap.size, 3, none⟩ = some (.int .i64 a3) := fun u => ((u.cell (Nat.lt_of_lt_of_le lKa u0.ok.size)).trans (u0.cell lKa)).trans cKa3
  have uKa4 : ∀ u : Up u0.val, u.val.cell? ⟨w.heap.size, 4, none⟩ = some (.int .i64 a4) := fun u => ((u.cell (Nat.lt_of_lt_of_le lKa u0.ok.size)).trans (u0.cell lKa)).trans cKa4
  have uKa5 : ∀ u : Up u0.val, u.val.cell? ⟨w.heap.size, 5, none⟩ = some (.int .i64 a5) := fun u => ((u.cell (Nat.lt_of_lt_of_le lKa u0.ok.size)).trans (u0.cell lKa)).trans cKa5
  have HU1 := Lib.hid (fun u : Up u0.val => up_of (u := u) (HMd.out u.val (hr.below (btrans (btrans hbw u0.ok) u.ok))))
  have HU2 := Lib.hid (fun u : Up u0.val => up_of (u := u) (HTu.out u.val))
  simp only [List.take_succ_cons, List.take_zero, List.drop_succ_cons, List.drop_zero]
  repeat (go_big_quiet_step (fail))
  go_big_quiet_step (exact HU1.out _)
  repeat (go_big_quiet_step (fail))
  go_big_quiet_step (exact HU2.out _)
  repeat (go_big_quiet_step (fail))
  refine wpQuiet_nil ?_
  rintro _ ⟨uq, rfl⟩ Pi Pm ⟨hi0, hi1, Ki⟩ ⟨hm0, hm1, Km⟩ hne
  replace Ki : Blk uq.val Pi 23 #[.int .i64 0, .int .i64 0, .int .i64 0, .string ⟨#[]⟩] := Ki
  replace Km : Blk uq.val Pm 25 #[.int .i64 0, .int .i64 0, .int .i64 0, .int .i64 0, .int .i64 0, .int .i64 0] := Km
  have hs0 := hbw.size
  replace hbw := btrans hbw uq.ok
  simp only [Act.put]
  generalize hwx : uq.val = w2 at *
  clear hwx uq u0 Ka HU1 HU2 HMd HTu uKa0 uKa1 uKa2 uKa3 uKa4 uKa5 lKa cKa0 cKa1 cKa2 cKa3 cKa4 cKa5
  have ci0 := Ki.cell 0
  have fi0 := Ki.frozen 0
  have ci1 := Ki.cell 1
  have fi1 := Ki.frozen 1
  have ci2 := Ki.cell 2
  have fi2 := Ki.frozen 2
  have ci3 := Ki.cell 3
  have fi3 := Ki.frozen 3
  have cm0 := Km.cell 0
  have fm0 := Km.frozen 0
  have cm1 := Km.cell 1
  have fm1 := Km.frozen 1
  have cm2 := Km.cell 2
  have fm2 := Km.frozen 2
  have cm3 := Km.cell 3
  have fm3 := Km.frozen 3
  have cm4 := Km.cell 4
  have fm4 := Km.frozen 4
  have cm5 := Km.cell 5
  have fm5 := Km.frozen 5
  simp only [List.getElem?_toArray, List.getElem?_cons_succ, List.getElem?_cons_zero] at ci0 ci1 ci2 ci3 cm0 cm1 cm2 cm3 cm4 cm5
  refine wpList_stop fun Kx HKx => ?_
  go_wp2_with fail
  replace Ki : Blk _ Pi 23 #[.int .i64 W, .int .i64 H, .int .i64 B, .string s] := blk_cast ((((((((((Ki.set_ 0 (.int .i64 W)).set_ 1 (.int .i64 H)).set_ 2 (.int .i64 B)).set_ 3 (.string s)).far (p := ⟨Pm, 0, none⟩) (show Pi ≠ Pm by omega) (.int .i64 a)).far (p := ⟨Pm, 1, none⟩) (show Pi ≠ Pm by omega) (.int .i64 b)).far (p := ⟨Pm, 2, none⟩) (show Pi ≠ Pm by omega) (.int .i64 c2)).far (p := ⟨Pm, 3, none⟩) (show Pi ≠ Pm by omega) (.int .i64 d)).far (p := ⟨Pm, 4, none⟩) (show Pi ≠ Pm by omega) (.int .i64 e)).far (p := ⟨Pm, 5, none⟩) (show Pi ≠ Pm by omega) (.int .i64 f)) (by kernel_rfl)
  replace Km : Blk _ Pm 25 #[.int .i64 a, .int .i64 b, .int .i64 c2, .int .i64 d, .int .i64 e, .int .i64 f] := blk_cast ((((((((((Km.far (p := ⟨Pi, 0, none⟩) (show Pm ≠ Pi by omega) (.int .i64 W)).far (p := ⟨Pi, 1, none⟩) (show Pm ≠ Pi by omega) (.int .i64 H)).far (p := ⟨Pi, 2, none⟩) (show Pm ≠ Pi by omega) (.int .i64 B)).far (p := ⟨Pi, 3, none⟩) (show Pm ≠ Pi by omega) (.string s)).set_ 0 (.int .i64 a)).set_ 1 (.int .i64 b)).set_ 2 (.int .i64 c2)).set_ 3 (.int .i64 d)).set_ 4 (.int .i64 e)).set_ 5 (.int .i64 f)) (by kernel_rfl)
  have hq0 : w.heap.size ≤ Pi := by omega
  have hq1 : w.heap.size ≤ Pm := by omega
  replace hbw : Below w.heap.size w ((((((((((w2.setCell ⟨Pi, 0, none⟩ (.int .i64 W)).setCell ⟨Pi, 1, none⟩ (.int .i64 H)).setCell ⟨Pi, 2, none⟩ (.int .i64 B)).setCell ⟨Pi, 3, none⟩ (.string s)).setCell ⟨Pm, 0, none⟩ (.int .i64 a)).setCell ⟨Pm, 1, none⟩ (.int .i64 b)).setCell ⟨Pm, 2, none⟩ (.int .i64 c2)).setCell ⟨Pm, 3, none⟩ (.int .i64 d)).setCell ⟨Pm, 4, none⟩ (.int .i64 e)).setCell ⟨Pm, 5, none⟩ (.int .i64 f)) := by (repeat' (first | refine bset ?_ (by first | omega | (simp <;> omega)) _ | refine balloc ?_ _ | refine Below.drew ?_ | refine below_drewN ?_ _ | exact hbw | exact Below.refl _ _))
  generalize hwx : ((((((((((w2.setCell ⟨Pi, 0, none⟩ (.int .i64 W)).setCell ⟨Pi, 1, none⟩ (.int .i64 H)).setCell ⟨Pi, 2, none⟩ (.int .i64 B)).setCell ⟨Pi, 3, none⟩ (.string s)).setCell ⟨Pm, 0, none⟩ (.int .i64 a)).setCell ⟨Pm, 1, none⟩ (.int .i64 b)).setCell ⟨Pm, 2, none⟩ (.int .i64 c2)).setCell ⟨Pm, 3, none⟩ (.int .i64 d)).setCell ⟨Pm, 4, none⟩ (.int .i64 e)).setCell ⟨Pm, 5, none⟩ (.int .i64 f)) = w3 at *
  clear hwx ci0 fi0 ci1 fi1 ci2 fi2 ci3 fi3 cm0 fm0 cm1 fm1 cm2 fm2 cm3 fm3 cm4 fm4 cm5 fm5 hs0 hi0 hi1 hm0 hm1
  have lKi := Ki.lt
  have cKi0 := Ki.cell 0
  have cKi1 := Ki.cell 1
  have cKi2 := Ki.cell 2
  have cKi3 := Ki.cell 3
  have lKm := Km.lt
  have cKm0 := Km.cell 0
  have cKm1 := Km.cell 1
  have cKm2 := Km.cell 2
  have cKm3 := Km.cell 3
  have cKm4 := Km.cell 4
  have cKm5 := Km.cell 5
  simp only [List.getElem?_toArray, List.getElem?_cons_succ, List.getElem?_cons_zero] at cKi0 cKi1 cKi2 cKi3 cKm0 cKm1 cKm2 cKm3 cKm4 cKm5
  refine HKx.out _ _ ?_
  clear HKx Kx
  go_wp2_with fail
  refine (HPx.out _).mono ?_
  rintro e_ w_ ⟨rfl, rfl⟩
  go_wp2_with fail
  refine (HPy.out _).mono ?_
  rintro e_ w_ ⟨rfl, rfl⟩
  go_wp2_with fail
  refine (HBk.out _).mono ?_
  rintro e_ w4 ⟨rfl, hb4⟩
  replace Ki := Ki.below hb4 Ki.lt
  replace Km := Km.below hb4 Km.lt
  replace hbw : Below w.heap.size w w4 := btrans (by (repeat' (first | refine bset ?_ (by first | omega | (simp <;> omega)) _ | refine balloc ?_ _ | refine Below.drew ?_ | refine below_drewN ?_ _ | exact hbw | exact Below.refl _ _))) hb4
  clear hb4 lKi cKi0 cKi1 cKi2 cKi3 lKm cKm0 cKm1 cKm2 cKm3 cKm4 cKm5
  have lKi := Ki.lt
  have cKi0 := Ki.cell 0
  have cKi1 := Ki.cell 1
  have cKi2 := Ki.cell 2
  have cKi3 := Ki.cell 3
  have lKm := Km.lt
  have cKm0 := Km.cell 0
  have cKm1 := Km.cell 1
  have cKm2 := Km.cell 2
  have cKm3 := Km.cell 3
  have cKm4 := Km.cell 4
  have cKm5 := Km.cell 5
  simp only [List.getElem?_toArray, List.getElem?_cons_succ, List.getElem?_cons_zero] at cKi0 cKi1 cKi2 cKi3 cKm0 cKm1 cKm2 cKm3 cKm4 cKm5
  go_wp2_with fail
  refine (HB1.out _).mono ?_
  rintro e_ w_ ⟨rfl, rfl⟩
  go_wp2_with fail
  refine (HAt.out _).mono ?_
  rintro e_ w5 ⟨rfl, hb5⟩
  replace Ki := Ki.below hb5 Ki.lt
  replace Km := Km.below hb5 Km.lt
  replace hbw : Below w.heap.size w w5 := btrans (by (repeat' (first | refine bset ?_ (by first | omega | (simp <;> omega)) _ | refine balloc ?_ _ | refine Below.drew ?_ | refine below_drewN ?_ _ | exact hbw | exact Below.refl _ _))) hb5
  clear hb5 lKi cKi0 cKi1 cKi2 cKi3 lKm cKm0 cKm1 cKm2 cKm3 cKm4 cKm5
  have lKi := Ki.lt
  have cKi0 := Ki.cell 0
  have cKi1 := Ki.cell 1
  have cKi2 := Ki.cell 2
  have cKi3 := Ki.cell 3
  have lKm := Km.lt
  have cKm0 := Km.cell 0
  have cKm1 := Km.cell 1
  have cKm2 := Km.cell 2
  have cKm3 := Km.cell 3
  have cKm4 := Km.cell 4
  have cKm5 := Km.cell 5
  simp only [List.getElem?_toArray, List.getElem?_cons_succ, List.getElem?_cons_zero] at cKi0 cKi1 cKi2 cKi3 cKm0 cKm1 cKm2 cKm3 cKm4 cKm5
  have z9 : decide (-1 ≤ av) = true := by simp; exact hav
  go_wp2_with fail
  go_ret
  exact ⟨rfl, hbw⟩

set_option maxRecDepth 100000 in
set_option maxHeartbeats 3200000 in
theorem iback_b2 (A : Option Addr) (n c : Nat) (ns : Nat → Int) (bits a0 a1 a2 a3 a4 a5 x0 y0 px py W H B a b c2 d e f fx fy av : Int) (s : ByteArray) (w : World) (hr : Ints w A n c ns)
    (HMd : Hid (∀ W', Ints W' A n c ns → Calls Try.prog 23 #[.slice A n c, .int .i64 bits] W' fun ed w' => ed = .returned (.agg #[.int .i64 W, .int .i64 H, .int .i64 B, .string s]) ∧ Below W'.heap.size W' w'))
    (HTu : Hid (∀ W', Calls Try.prog 24 #[.agg #[.int .i64 a0, .int .i64 a1, .int .i64 a2, .int .i64 a3, .int .i64 a4, .int .i64 a5]] W' fun ed w' => ed = .returned (.agg #[.int .i64 a, .int .i64 b, .int .i64 c2, .int .i64 d, .int .i64 e, .int .i64 f]) ∧ Below W'.heap.size W' w'))
    (HPx : Hid (∀ W', Calls Try.prog 25 #[.int .i64 x0, .int .i64 300] W' fun ed w' => ed = .returned (.int .i64 px) ∧ W' = w'))
    (HPy : Hid (∀ W', Calls Try.prog 25 #[.int .i64 y0, .int .i64 300] W' fun ed w' => ed = .returned (.int .i64 py) ∧ W' = w'))
    (px0 : 0 ≤ px) (px1 : px < 300) (py0 : 0 ≤ py) (py1 : py < 300)
    (HBk : Hid (∀ W', Calls Try.prog 26 #[.agg #[.int .i64 a, .int .i64 b, .int .i64 c2, .int .i64 d, .int .i64 e, .int .i64 f], .int .i64 (px - 40), .int .i64 (py - 40)] W' fun ed w' => ed = .returned (.tuple #[.int .i64 fx, .int .i64 fy, .int .i64 0]) ∧ Below W'.heap.size W' w'))
    (HAt : Hid (∀ W', Calls Try.prog 18 #[.agg #[.int .i64 W, .int .i64 H, .int .i64 B, .string s], .agg #[.int .i64 a, .int .i64 b, .int .i64 c2, .int .i64 d, .int .i64 e, .int .i64 f], .int .i64 (px - 40), .int .i64 (py - 40)] W' fun ed w' => ed = .returned (.int .i64 av) ∧ Below W'.heap.size W' w'))
    (HB1 : Hid (∀ W', Calls Try.prog 27 #[.int .i64 fx] W' fun ed w' => ed = .returned (.bool false) ∧ W' = w'))
    (HB2 : Hid (∀ W', Calls Try.prog 27 #[.int .i64 fy] W' fun ed w' => ed = .returned (.bool true) ∧ W' = w'))
    (hav : -1 ≤ av)
    : Calls Try.prog 4 #[.slice A n c, .int .i64 bits, .agg #[.int .i64 a0, .int .i64 a1, .int .i64 a2, .int .i64 a3, .int .i64 a4, .int .i64 a5], .int .i64 x0, .int .i64 y0] w fun ed w' => ed = .returned (.bool true) ∧ Below w.heap.size w w' := by
  go_enter Try.func4, Try.ntmps4
  go_wp2_with fail
  refine (known_any _).mono ?_
  rintro e_ w1 ⟨rfl, hb1⟩
  have Ka := (Blk.new w 34 #[.int .i64 a0, .int .i64 a1, .int .i64 a2, .int .i64 a3, .int .i64 a4, .int .i64 a5])
  replace Ka := Ka.below hb1 Ka.lt
  have hbw : Below w.heap.size w w1 := btrans (by (repeat' (first | exact Below.refl _ _ | exact Below.refl _ _ | refine balloc ?_ _ | refine Below.drew ?_ | refine below_drewN ?_ _ | refine bset ?_ (by first | omega | (simp <;> omega)) _))) hb1
  clear hb1 
  have lKa := Ka.lt
  have cKa0 := Ka.cell 0
  have cKa1 := Ka.cell 1
  have cKa2 := Ka.cell 2
  have cKa3 := Ka.cell 3
  have cKa4 := Ka.cell 4
  have cKa5 := Ka.cell 5
  simp only [List.getElem?_toArray, List.getElem?_cons_succ, List.getElem?_cons_zero] at cKa0 cKa1 cKa2 cKa3 cKa4 cKa5
  go_wp2_with fail
  refine wp_region_alloc2 5 [] (.cells #[.int .i64 0, .int .i64 0, .int .i64 0, .string ⟨#[]⟩] 23) (.cells #[.int .i64 0, .int .i64 0, .int .i64 0, .int .i64 0, .int .i64 0, .int .i64 0] 25) _ _ (by kernel_rfl) (by kernel_rfl) (fun d _ _ _ _ h => by cases d <;> exact h) rfl rfl (fun ρ w => alloc_img _ _ _ _ _ ρ w) (fun ρ w => alloc_mat _ _ _ _ _ ρ w) ?_
  intro u0
  have uKa0 : ∀ u : Up u0.val, u.val.cell? ⟨w.heap.size, 0, none⟩ = some (.int .i64 a0) := fun u => ((u.cell (Nat.lt_of_lt_of_le lKa u0.ok.size)).trans (u0.cell lKa)).trans cKa0
  have uKa1 : ∀ u : Up u0.val, u.val.cell? ⟨w.heap.size, 1, none⟩ = some (.int .i64 a1) := fun u => ((u.cell (Nat.lt_of_lt_of_le lKa u0.ok.size)).trans (u0.cell lKa)).trans cKa1
  have uKa2 : ∀ u : Up u0.val, u.val.cell? ⟨w.heap.size, 2, none⟩ = some (.int .i64 a2) := fun u => ((u.cell (Nat.lt_of_lt_of_le lKa u0.ok.size)).trans (u0.cell lKa)).trans cKa2
  have uKa3 : ∀ u : Up u0.val, u.val.cell? ⟨w.heap.size, 3, none⟩ = some (.int .i64 a3) := fun u => ((u.cell (Nat.lt_of_lt_of_le lKa u0.ok.size)).trans (u0.cell lKa)).trans cKa3
  have uKa4 : ∀ u : Up u0.val, u.val.cell? ⟨w.heap.size, 4, none⟩ = some (.int .i64 a4) := fun u => ((u.cell (Nat.lt_of_lt_of_le lKa u0.ok.size)).trans (u0.cell lKa)).trans cKa4
  have uKa5 : ∀ u : Up u0.val, u.val.cell? ⟨w.heap.size, 5, none⟩ = some (.int .i64 a5) := fun u => ((u.cell (Nat.lt_of_lt_of_le lKa u0.ok.size)).trans (u0.cell lKa)).trans cKa5
  have HU1 := Lib.hid (fun u : Up u0.val => up_of (u := u) (HMd.out u.val (hr.below (btrans (btrans hbw u0.ok) u.ok))))
  have HU2 := Lib.hid (fun u : Up u0.val => up_of (u := u) (HTu.out u.val))
  simp only [List.take_succ_cons, List.take_zero, List.drop_succ_cons, List.drop_zero]
  repeat (go_big_quiet_step (fail))
  go_big_quiet_step (exact HU1.out _)
  repeat (go_big_quiet_step (fail))
  go_big_quiet_step (exact HU2.out _)
  repeat (go_big_quiet_step (fail))
  refine wpQuiet_nil ?_
  rintro _ ⟨uq, rfl⟩ Pi Pm ⟨hi0, hi1, Ki⟩ ⟨hm0, hm1, Km⟩ hne
  replace Ki : Blk uq.val Pi 23 #[.int .i64 0, .int .i64 0, .int .i64 0, .string ⟨#[]⟩] := Ki
  replace Km : Blk uq.val Pm 25 #[.int .i64 0, .int .i64 0, .int .i64 0, .int .i64 0, .int .i64 0, .int .i64 0] := Km
  have hs0 := hbw.size
  replace hbw := btrans hbw uq.ok
  simp only [Act.put]
  generalize hwx : uq.val = w2 at *
  clear hwx uq u0 Ka HU1 HU2 HMd HTu uKa0 uKa1 uKa2 uKa3 uKa4 uKa5 lKa cKa0 cKa1 cKa2 cKa3 cKa4 cKa5
  have ci0 := Ki.cell 0
  have fi0 := Ki.frozen 0
  have ci1 := Ki.cell 1
  have fi1 := Ki.frozen 1
  have ci2 := Ki.cell 2
  have fi2 := Ki.frozen 2
  have ci3 := Ki.cell 3
  have fi3 := Ki.frozen 3
  have cm0 := Km.cell 0
  have fm0 := Km.frozen 0
  have cm1 := Km.cell 1
  have fm1 := Km.frozen 1
  have cm2 := Km.cell 2
  have fm2 := Km.frozen 2
  have cm3 := Km.cell 3
  have fm3 := Km.frozen 3
  have cm4 := Km.cell 4
  have fm4 := Km.frozen 4
  have cm5 := Km.cell 5
  have fm5 := Km.frozen 5
  simp only [List.getElem?_toArray, List.getElem?_cons_succ, List.getElem?_cons_zero] at ci0 ci1 ci2 ci3 cm0 cm1 cm2 cm3 cm4 cm5
  refine wpList_stop fun Kx HKx => ?_
  go_wp2_with fail
  replace Ki : Blk _ Pi 23 #[.int .i64 W, .int .i64 H, .int .i64 B, .string s] := blk_cast ((((((((((Ki.set_ 0 (.int .i64 W)).set_ 1 (.int .i64 H)).set_ 2 (.int .i64 B)).set_ 3 (.string s)).far (p := ⟨Pm, 0, none⟩) (show Pi ≠ Pm by omega) (.int .i64 a)).far (p := ⟨Pm, 1, none⟩) (show Pi ≠ Pm by omega) (.int .i64 b)).far (p := ⟨Pm, 2, none⟩) (show Pi ≠ Pm by omega) (.int .i64 c2)).far (p := ⟨Pm, 3, none⟩) (show Pi ≠ Pm by omega) (.int .i64 d)).far (p := ⟨Pm, 4, none⟩) (show Pi ≠ Pm by omega) (.int .i64 e)).far (p := ⟨Pm, 5, none⟩) (show Pi ≠ Pm by omega) (.int .i64 f)) (by kernel_rfl)
  replace Km : Blk _ Pm 25 #[.int .i64 a, .int .i64 b, .int .i64 c2, .int .i64 d, .int .i64 e, .int .i64 f] := blk_cast ((((((((((Km.far (p := ⟨Pi, 0, none⟩) (show Pm ≠ Pi by omega) (.int .i64 W)).far (p := ⟨Pi, 1, none⟩) (show Pm ≠ Pi by omega) (.int .i64 H)).far (p := ⟨Pi, 2, none⟩) (show Pm ≠ Pi by omega) (.int .i64 B)).far (p := ⟨Pi, 3, none⟩) (show Pm ≠ Pi by omega) (.string s)).set_ 0 (.int .i64 a)).set_ 1 (.int .i64 b)).set_ 2 (.int .i64 c2)).set_ 3 (.int .i64 d)).set_ 4 (.int .i64 e)).set_ 5 (.int .i64 f)) (by kernel_rfl)
  have hq0 : w.heap.size ≤ Pi := by omega
  have hq1 : w.heap.size ≤ Pm := by omega
  replace hbw : Below w.heap.size w ((((((((((w2.setCell ⟨Pi, 0, none⟩ (.int .i64 W)).setCell ⟨Pi, 1, none⟩ (.int .i64 H)).setCell ⟨Pi, 2, none⟩ (.int .i64 B)).setCell ⟨Pi, 3, none⟩ (.string s)).setCell ⟨Pm, 0, none⟩ (.int .i64 a)).setCell ⟨Pm, 1, none⟩ (.int .i64 b)).setCell ⟨Pm, 2, none⟩ (.int .i64 c2)).setCell ⟨Pm, 3, none⟩ (.int .i64 d)).setCell ⟨Pm, 4, none⟩ (.int .i64 e)).setCell ⟨Pm, 5, none⟩ (.int .i64 f)) := by (repeat' (first | refine bset ?_ (by first | omega | (simp <;> omega)) _ | refine balloc ?_ _ | refine Below.drew ?_ | refine below_drewN ?_ _ | exact hbw | exact Below.refl _ _))
  generalize hwx : ((((((((((w2.setCell ⟨Pi, 0, none⟩ (.int .i64 W)).setCell ⟨Pi, 1, none⟩ (.int .i64 H)).setCell ⟨Pi, 2, none⟩ (.int .i64 B)).setCell ⟨Pi, 3, none⟩ (.string s)).setCell ⟨Pm, 0, none⟩ (.int .i64 a)).setCell ⟨Pm, 1, none⟩ (.int .i64 b)).setCell ⟨Pm, 2, none⟩ (.int .i64 c2)).setCell ⟨Pm, 3, none⟩ (.int .i64 d)).setCell ⟨Pm, 4, none⟩ (.int .i64 e)).setCell ⟨Pm, 5, none⟩ (.int .i64 f)) = w3 at *
  clear hwx ci0 fi0 ci1 fi1 ci2 fi2 ci3 fi3 cm0 fm0 cm1 fm1 cm2 fm2 cm3 fm3 cm4 fm4 cm5 fm5 hs0 hi0 hi1 hm0 hm1
  have lKi := Ki.lt
  have cKi0 := Ki.cell 0
  have cKi1 := Ki.cell 1
  have cKi2 := Ki.cell 2
  have cKi3 := Ki.cell 3
  have lKm := Km.lt
  have cKm0 := Km.cell 0
  have cKm1 := Km.cell 1
  have cKm2 := Km.cell 2
  have cKm3 := Km.cell 3
  have cKm4 := Km.cell 4
  have cKm5 := Km.cell 5
  simp only [List.getElem?_toArray, List.getElem?_cons_succ, List.getElem?_cons_zero] at cKi0 cKi1 cKi2 cKi3 cKm0 cKm1 cKm2 cKm3 cKm4 cKm5
  refine HKx.out _ _ ?_
  clear HKx Kx
  go_wp2_with fail
  refine (HPx.out _).mono ?_
  rintro e_ w_ ⟨rfl, rfl⟩
  go_wp2_with fail
  refine (HPy.out _).mono ?_
  rintro e_ w_ ⟨rfl, rfl⟩
  go_wp2_with fail
  refine (HBk.out _).mono ?_
  rintro e_ w4 ⟨rfl, hb4⟩
  replace Ki := Ki.below hb4 Ki.lt
  replace Km := Km.below hb4 Km.lt
  replace hbw : Below w.heap.size w w4 := btrans (by (repeat' (first | refine bset ?_ (by first | omega | (simp <;> omega)) _ | refine balloc ?_ _ | refine Below.drew ?_ | refine below_drewN ?_ _ | exact hbw | exact Below.refl _ _))) hb4
  clear hb4 lKi cKi0 cKi1 cKi2 cKi3 lKm cKm0 cKm1 cKm2 cKm3 cKm4 cKm5
  have lKi := Ki.lt
  have cKi0 := Ki.cell 0
  have cKi1 := Ki.cell 1
  have cKi2 := Ki.cell 2
  have cKi3 := Ki.cell 3
  have lKm := Km.lt
  have cKm0 := Km.cell 0
  have cKm1 := Km.cell 1
  have cKm2 := Km.cell 2
  have cKm3 := Km.cell 3
  have cKm4 := Km.cell 4
  have cKm5 := Km.cell 5
  simp only [List.getElem?_toArray, List.getElem?_cons_succ, List.getElem?_cons_zero] at cKi0 cKi1 cKi2 cKi3 cKm0 cKm1 cKm2 cKm3 cKm4 cKm5
  go_wp2_with fail
  refine (HB1.out _).mono ?_
  rintro e_ w_ ⟨rfl, rfl⟩
  go_wp2_with fail
  refine (HB2.out _).mono ?_
  rintro e_ w_ ⟨rfl, rfl⟩
  go_wp2_with fail
  refine (HAt.out _).mono ?_
  rintro e_ w5 ⟨rfl, hb5⟩
  replace Ki := Ki.below hb5 Ki.lt
  replace Km := Km.below hb5 Km.lt
  replace hbw : Below w.heap.size w w5 := btrans (by (repeat' (first | refine bset ?_ (by first | omega | (simp <;> omega)) _ | refine balloc ?_ _ | refine Below.drew ?_ | refine below_drewN ?_ _ | exact hbw | exact Below.refl _ _))) hb5
  clear hb5 lKi cKi0 cKi1 cKi2 cKi3 lKm cKm0 cKm1 cKm2 cKm3 cKm4 cKm5
  have lKi := Ki.lt
  have cKi0 := Ki.cell 0
  have cKi1 := Ki.cell 1
  have cKi2 := Ki.cell 2
  have cKi3 := Ki.cell 3
  have lKm := Km.lt
  have cKm0 := Km.cell 0
  have cKm1 := Km.cell 1
  have cKm2 := Km.cell 2
  have cKm3 := Km.cell 3
  have cKm4 := Km.cell 4
  have cKm5 := Km.cell 5
  simp only [List.getElem?_toArray, List.getElem?_cons_succ, List.getElem?_cons_zero] at cKi0 cKi1 cKi2 cKi3 cKm0 cKm1 cKm2 cKm3 cKm4 cKm5
  have z9 : decide (-1 ≤ av) = true := by simp; exact hav
  go_wp2_with fail
  go_ret
  exact ⟨rfl, hbw⟩

set_option maxRecDepth 100000 in
set_option maxHeartbeats 3200000 in
theorem iback_in (A : Option Addr) (n c : Nat) (ns : Nat → Int) (bits a0 a1 a2 a3 a4 a5 x0 y0 px py W H B a b c2 d e f fx fy av : Int) (s : ByteArray) (w : World) (hr : Ints w A n c ns)
    (HMd : Hid (∀ W', Ints W' A n c ns → Calls Try.prog 23 #[.slice A n c, .int .i64 bits] W' fun ed w' => ed = .returned (.agg #[.int .i64 W, .int .i64 H, .int .i64 B, .string s]) ∧ Below W'.heap.size W' w'))
    (HTu : Hid (∀ W', Calls Try.prog 24 #[.agg #[.int .i64 a0, .int .i64 a1, .int .i64 a2, .int .i64 a3, .int .i64 a4, .int .i64 a5]] W' fun ed w' => ed = .returned (.agg #[.int .i64 a, .int .i64 b, .int .i64 c2, .int .i64 d, .int .i64 e, .int .i64 f]) ∧ Below W'.heap.size W' w'))
    (HPx : Hid (∀ W', Calls Try.prog 25 #[.int .i64 x0, .int .i64 300] W' fun ed w' => ed = .returned (.int .i64 px) ∧ W' = w'))
    (HPy : Hid (∀ W', Calls Try.prog 25 #[.int .i64 y0, .int .i64 300] W' fun ed w' => ed = .returned (.int .i64 py) ∧ W' = w'))
    (px0 : 0 ≤ px) (px1 : px < 300) (py0 : 0 ≤ py) (py1 : py < 300)
    (HBk : Hid (∀ W', Calls Try.prog 26 #[.agg #[.int .i64 a, .int .i64 b, .int .i64 c2, .int .i64 d, .int .i64 e, .int .i64 f], .int .i64 (px - 40), .int .i64 (py - 40)] W' fun ed w' => ed = .returned (.tuple #[.int .i64 fx, .int .i64 fy, .int .i64 0]) ∧ Below W'.heap.size W' w'))
    (HAt : Hid (∀ W', Calls Try.prog 18 #[.agg #[.int .i64 W, .int .i64 H, .int .i64 B, .string s], .agg #[.int .i64 a, .int .i64 b, .int .i64 c2, .int .i64 d, .int .i64 e, .int .i64 f], .int .i64 (px - 40), .int .i64 (py - 40)] W' fun ed w' => ed = .returned (.int .i64 av) ∧ Below W'.heap.size W' w'))
    (HB1 : Hid (∀ W', Calls Try.prog 27 #[.int .i64 fx] W' fun ed w' => ed = .returned (.bool false) ∧ W' = w'))
    (HB2 : Hid (∀ W', Calls Try.prog 27 #[.int .i64 fy] W' fun ed w' => ed = .returned (.bool false) ∧ W' = w'))
    (HSm : Hid (∀ W', Calls Try.prog 16 #[.agg #[.int .i64 W, .int .i64 H, .int .i64 B, .string s], .int .i64 (fx / 65536), .int .i64 (fy / 65536)] W' fun ed w' => ed = .returned (.int .i64 av) ∧ Below W'.heap.size W' w'))
    : Calls Try.prog 4 #[.slice A n c, .int .i64 bits, .agg #[.int .i64 a0, .int .i64 a1, .int .i64 a2, .int .i64 a3, .int .i64 a4, .int .i64 a5], .int .i64 x0, .int .i64 y0] w fun ed w' => ed = .returned (.bool true) ∧ Below w.heap.size w w' := by
  go_enter Try.func4, Try.ntmps4
  go_wp2_with fail
  refine (known_any _).mono ?_
  rintro e_ w1 ⟨rfl, hb1⟩
  have Ka := (Blk.new w 34 #[.int .i64 a0, .int .i64 a1, .int .i64 a2, .int .i64 a3, .int .i64 a4, .int .i64 a5])
  replace Ka := Ka.below hb1 Ka.lt
  have hbw : Below w.heap.size w w1 := btrans (by (repeat' (first | exact Below.refl _ _ | exact Below.refl _ _ | refine balloc ?_ _ | refine Below.drew ?_ | refine below_drewN ?_ _ | refine bset ?_ (by first | omega | (simp <;> omega)) _))) hb1
  clear hb1 
  have lKa := Ka.lt
  have cKa0 := Ka.cell 0
  have cKa1 := Ka.cell 1
  have cKa2 := Ka.cell 2
  have cKa3 := Ka.cell 3
  have cKa4 := Ka.cell 4
  have cKa5 := Ka.cell 5
  simp only [List.getElem?_toArray, List.getElem?_cons_succ, List.getElem?_cons_zero] at cKa0 cKa1 cKa2 cKa3 cKa4 cKa5
  go_wp2_with fail
  refine wp_region_alloc2 5 [] (.cells #[.int .i64 0, .int .i64 0, .int .i64 0, .string ⟨#[]⟩] 23) (.cells #[.int .i64 0, .int .i64 0, .int .i64 0, .int .i64 0, .int .i64 0, .int .i64 0] 25) _ _ (by kernel_rfl) (by kernel_rfl) (fun d _ _ _ _ h => by cases d <;> exact h) rfl rfl (fun ρ w => alloc_img _ _ _ _ _ ρ w) (fun ρ w => alloc_mat _ _ _ _ _ ρ w) ?_
  intro u0
  have uKa0 : ∀ u : Up u0.val, u.val.cell? ⟨w.heap.size, 0, none⟩ = some (.int .i64 a0) := fun u => ((u.cell (Nat.lt_of_lt_of_le lKa u0.ok.size)).trans (u0.cell lKa)).trans cKa0
  have uKa1 : ∀ u : Up u0.val, u.val.cell? ⟨w.heap.size, 1, none⟩ = some (.int .i64 a1) := fun u => ((u.cell (Nat.lt_of_lt_of_le lKa u0.ok.size)).trans (u0.cell lKa)).trans cKa1
  have uKa2 : ∀ u : Up u0.val, u.val.cell? ⟨w.heap.size, 2, none⟩ = some (.int .i64 a2) := fun u => ((u.cell (Nat.lt_of_lt_of_le lKa u0.ok.size)).trans (u0.cell lKa)).trans cKa2
  have uKa3 : ∀ u : Up u0.val, u.val.cell? ⟨w.heap.size, 3, none⟩ = some (.int .i64 a3) := fun u => ((u.cell (Nat.lt_of_lt_of_le lKa u0.ok.size)).trans (u0.cell lKa)).trans cKa3
  have uKa4 : ∀ u : Up u0.val, u.val.cell? ⟨w.heap.size, 4, none⟩ = some (.int .i64 a4) := fun u => ((u.cell (Nat.lt_of_lt_of_le lKa u0.ok.size)).trans (u0.cell lKa)).trans cKa4
  have uKa5 : ∀ u : Up u0.val, u.val.cell? ⟨w.heap.size, 5, none⟩ = some (.int .i64 a5) := fun u => ((u.cell (Nat.lt_of_lt_of_le lKa u0.ok.size)).trans (u0.cell lKa)).trans cKa5
  have HU1 := Lib.hid (fun u : Up u0.val => up_of (u := u) (HMd.out u.val (hr.below (btrans (btrans hbw u0.ok) u.ok))))
  have HU2 := Lib.hid (fun u : Up u0.val => up_of (u := u) (HTu.out u.val))
  simp only [List.take_succ_cons, List.take_zero, List.drop_succ_cons, List.drop_zero]
  repeat (go_big_quiet_step (fail))
  go_big_quiet_step (exact HU1.out _)
  repeat (go_big_quiet_step (fail))
  go_big_quiet_step (exact HU2.out _)
  repeat (go_big_quiet_step (fail))
  refine wpQuiet_nil ?_
  rintro _ ⟨uq, rfl⟩ Pi Pm ⟨hi0, hi1, Ki⟩ ⟨hm0, hm1, Km⟩ hne
  replace Ki : Blk uq.val Pi 23 #[.int .i64 0, .int .i64 0, .int .i64 0, .string ⟨#[]⟩] := Ki
  replace Km : Blk uq.val Pm 25 #[.int .i64 0, .int .i64 0, .int .i64 0, .int .i64 0, .int .i64 0, .int .i64 0] := Km
  have hs0 := hbw.size
  replace hbw := btrans hbw uq.ok
  simp only [Act.put]
  generalize hwx : uq.val = w2 at *
  clear hwx uq u0 Ka HU1 HU2 HMd HTu uKa0 uKa1 uKa2 uKa3 uKa4 uKa5 lKa cKa0 cKa1 cKa2 cKa3 cKa4 cKa5
  have ci0 := Ki.cell 0
  have fi0 := Ki.frozen 0
  have ci1 := Ki.cell 1
  have fi1 := Ki.frozen 1
  have ci2 := Ki.cell 2
  have fi2 := Ki.frozen 2
  have ci3 := Ki.cell 3
  have fi3 := Ki.frozen 3
  have cm0 := Km.cell 0
  have fm0 := Km.frozen 0
  have cm1 := Km.cell 1
  have fm1 := Km.frozen 1
  have cm2 := Km.cell 2
  have fm2 := Km.frozen 2
  have cm3 := Km.cell 3
  have fm3 := Km.frozen 3
  have cm4 := Km.cell 4
  have fm4 := Km.frozen 4
  have cm5 := Km.cell 5
  have fm5 := Km.frozen 5
  simp only [List.getElem?_toArray, List.getElem?_cons_succ, List.getElem?_cons_zero] at ci0 ci1 ci2 ci3 cm0 cm1 cm2 cm3 cm4 cm5
  refine wpList_stop fun Kx HKx => ?_
  go_wp2_with fail
  replace Ki : Blk _ Pi 23 #[.int .i64 W, .int .i64 H, .int .i64 B, .string s] := blk_cast ((((((((((Ki.set_ 0 (.int .i64 W)).set_ 1 (.int .i64 H)).set_ 2 (.int .i64 B)).set_ 3 (.string s)).far (p := ⟨Pm, 0, none⟩) (show Pi ≠ Pm by omega) (.int .i64 a)).far (p := ⟨Pm, 1, none⟩) (show Pi ≠ Pm by omega) (.int .i64 b)).far (p := ⟨Pm, 2, none⟩) (show Pi ≠ Pm by omega) (.int .i64 c2)).far (p := ⟨Pm, 3, none⟩) (show Pi ≠ Pm by omega) (.int .i64 d)).far (p := ⟨Pm, 4, none⟩) (show Pi ≠ Pm by omega) (.int .i64 e)).far (p := ⟨Pm, 5, none⟩) (show Pi ≠ Pm by omega) (.int .i64 f)) (by kernel_rfl)
  replace Km : Blk _ Pm 25 #[.int .i64 a, .int .i64 b, .int .i64 c2, .int .i64 d, .int .i64 e, .int .i64 f] := blk_cast ((((((((((Km.far (p := ⟨Pi, 0, none⟩) (show Pm ≠ Pi by omega) (.int .i64 W)).far (p := ⟨Pi, 1, none⟩) (show Pm ≠ Pi by omega) (.int .i64 H)).far (p := ⟨Pi, 2, none⟩) (show Pm ≠ Pi by omega) (.int .i64 B)).far (p := ⟨Pi, 3, none⟩) (show Pm ≠ Pi by omega) (.string s)).set_ 0 (.int .i64 a)).set_ 1 (.int .i64 b)).set_ 2 (.int .i64 c2)).set_ 3 (.int .i64 d)).set_ 4 (.int .i64 e)).set_ 5 (.int .i64 f)) (by kernel_rfl)
  have hq0 : w.heap.size ≤ Pi := by omega
  have hq1 : w.heap.size ≤ Pm := by omega
  replace hbw : Below w.heap.size w ((((((((((w2.setCell ⟨Pi, 0, none⟩ (.int .i64 W)).setCell ⟨Pi, 1, none⟩ (.int .i64 H)).setCell ⟨Pi, 2, none⟩ (.int .i64 B)).setCell ⟨Pi, 3, none⟩ (.string s)).setCell ⟨Pm, 0, none⟩ (.int .i64 a)).setCell ⟨Pm, 1, none⟩ (.int .i64 b)).setCell ⟨Pm, 2, none⟩ (.int .i64 c2)).setCell ⟨Pm, 3, none⟩ (.int .i64 d)).setCell ⟨Pm, 4, none⟩ (.int .i64 e)).setCell ⟨Pm, 5, none⟩ (.int .i64 f)) := by (repeat' (first | refine bset ?_ (by first | omega | (simp <;> omega)) _ | refine balloc ?_ _ | refine Below.drew ?_ | refine below_drewN ?_ _ | exact hbw | exact Below.refl _ _))
  generalize hwx : ((((((((((w2.setCell ⟨Pi, 0, none⟩ (.int .i64 W)).setCell ⟨Pi, 1, none⟩ (.int .i64 H)).setCell ⟨Pi, 2, none⟩ (.int .i64 B)).setCell ⟨Pi, 3, none⟩ (.string s)).setCell ⟨Pm, 0, none⟩ (.int .i64 a)).setCell ⟨Pm, 1, none⟩ (.int .i64 b)).setCell ⟨Pm, 2, none⟩ (.int .i64 c2)).setCell ⟨Pm, 3, none⟩ (.int .i64 d)).setCell ⟨Pm, 4, none⟩ (.int .i64 e)).setCell ⟨Pm, 5, none⟩ (.int .i64 f)) = w3 at *
  clear hwx ci0 fi0 ci1 fi1 ci2 fi2 ci3 fi3 cm0 fm0 cm1 fm1 cm2 fm2 cm3 fm3 cm4 fm4 cm5 fm5 hs0 hi0 hi1 hm0 hm1
  have lKi := Ki.lt
  have cKi0 := Ki.cell 0
  have cKi1 := Ki.cell 1
  have cKi2 := Ki.cell 2
  have cKi3 := Ki.cell 3
  have lKm := Km.lt
  have cKm0 := Km.cell 0
  have cKm1 := Km.cell 1
  have cKm2 := Km.cell 2
  have cKm3 := Km.cell 3
  have cKm4 := Km.cell 4
  have cKm5 := Km.cell 5
  simp only [List.getElem?_toArray, List.getElem?_cons_succ, List.getElem?_cons_zero] at cKi0 cKi1 cKi2 cKi3 cKm0 cKm1 cKm2 cKm3 cKm4 cKm5
  refine HKx.out _ _ ?_
  clear HKx Kx
  go_wp2_with fail
  refine (HPx.out _).mono ?_
  rintro e_ w_ ⟨rfl, rfl⟩
  go_wp2_with fail
  refine (HPy.out _).mono ?_
  rintro e_ w_ ⟨rfl, rfl⟩
  go_wp2_with fail
  refine (HBk.out _).mono ?_
  rintro e_ w4 ⟨rfl, hb4⟩
  replace Ki := Ki.below hb4 Ki.lt
  replace Km := Km.below hb4 Km.lt
  replace hbw : Below w.heap.size w w4 := btrans (by (repeat' (first | refine bset ?_ (by first | omega | (simp <;> omega)) _ | refine balloc ?_ _ | refine Below.drew ?_ | refine below_drewN ?_ _ | exact hbw | exact Below.refl _ _))) hb4
  clear hb4 lKi cKi0 cKi1 cKi2 cKi3 lKm cKm0 cKm1 cKm2 cKm3 cKm4 cKm5
  have lKi := Ki.lt
  have cKi0 := Ki.cell 0
  have cKi1 := Ki.cell 1
  have cKi2 := Ki.cell 2
  have cKi3 := Ki.cell 3
  have lKm := Km.lt
  have cKm0 := Km.cell 0
  have cKm1 := Km.cell 1
  have cKm2 := Km.cell 2
  have cKm3 := Km.cell 3
  have cKm4 := Km.cell 4
  have cKm5 := Km.cell 5
  simp only [List.getElem?_toArray, List.getElem?_cons_succ, List.getElem?_cons_zero] at cKi0 cKi1 cKi2 cKi3 cKm0 cKm1 cKm2 cKm3 cKm4 cKm5
  go_wp2_with fail
  refine (HB1.out _).mono ?_
  rintro e_ w_ ⟨rfl, rfl⟩
  go_wp2_with fail
  refine (HB2.out _).mono ?_
  rintro e_ w_ ⟨rfl, rfl⟩
  go_wp2_with fail
  have uKi0 : ∀ u : Up w4, u.val.cell? ⟨Pi, 0, none⟩ = some (.int .i64 W) := fun u => (u.cell lKi).trans cKi0
  have uKi1 : ∀ u : Up w4, u.val.cell? ⟨Pi, 1, none⟩ = some (.int .i64 H) := fun u => (u.cell lKi).trans cKi1
  have uKi2 : ∀ u : Up w4, u.val.cell? ⟨Pi, 2, none⟩ = some (.int .i64 B) := fun u => (u.cell lKi).trans cKi2
  have uKi3 : ∀ u : Up w4, u.val.cell? ⟨Pi, 3, none⟩ = some (.string s) := fun u => (u.cell lKi).trans cKi3
  have uKm0 : ∀ u : Up w4, u.val.cell? ⟨Pm, 0, none⟩ = some (.int .i64 a) := fun u => (u.cell lKm).trans cKm0
  have uKm1 : ∀ u : Up w4, u.val.cell? ⟨Pm, 1, none⟩ = some (.int .i64 b) := fun u => (u.cell lKm).trans cKm1
  have uKm2 : ∀ u : Up w4, u.val.cell? ⟨Pm, 2, none⟩ = some (.int .i64 c2) := fun u => (u.cell lKm).trans cKm2
  have uKm3 : ∀ u : Up w4, u.val.cell? ⟨Pm, 3, none⟩ = some (.int .i64 d) := fun u => (u.cell lKm).trans cKm3
  have uKm4 : ∀ u : Up w4, u.val.cell? ⟨Pm, 4, none⟩ = some (.int .i64 e) := fun u => (u.cell lKm).trans cKm4
  have uKm5 : ∀ u : Up w4, u.val.cell? ⟨Pm, 5, none⟩ = some (.int .i64 f) := fun u => (u.cell lKm).trans cKm5
  have HU1 := Lib.hid (fun u : Up w4 => up_of (u := u) (HAt.out u.val))
  have HU2 := Lib.hid (fun u : Up w4 => up_of (u := u) (HSm.out u.val))
  refine wp_region_up (by kernel_rfl) (by kernel_rfl) ?_
  repeat (go_big_quiet_step (fail))
  go_big_quiet_step (exact HU1.out _)
  repeat (go_big_quiet_step (fail))
  go_big_quiet_step (exact HU2.out _)
  repeat (go_big_quiet_step (fail))
  refine wpQuiet_nil ?_
  rintro _ ⟨uq, rfl⟩
  replace hbw := btrans hbw uq.ok
  generalize hwx : uq.val = w5 at *
  clear hwx uq Ki Km lKi cKi0 cKi1 cKi2 cKi3 lKm cKm0 cKm1 cKm2 cKm3 cKm4 cKm5 uKi0 uKi1 uKi2 uKi3 uKm0 uKm1 uKm2 uKm3 uKm4 uKm5 HU1 HU2
  go_wp2_with fail
  go_ret
  exact ⟨rfl, hbw⟩

theorem made_any (A : Option Addr) (n c : Nat) (ns : Nat → Int) (bits : Int) (hn : n ≤ 9223372036854775807) : ∃ (W H B : Int) (s : ByteArray), mayI W H B s.size = true ∧ W ≤ 9 ∧ H ≤ 9 ∧
    ∀ w, Ints w A n c ns → Calls Try.prog 23 #[.slice A n c, .int .i64 bits] w fun ed w' => ed = .returned (.agg #[.int .i64 W, .int .i64 H, .int .i64 B, .string s]) ∧ Below w.heap.size w w' := by
  have HP := fun W => place_any bits 4 W (by decide) (by decide)
  have he : 0 ≤ bits % 4 ∧ bits % 4 < 4 := by omega
  generalize bits % 4 = e at *
  obtain ⟨B, hB, hBs⟩ : ∃ B : Int, (2 : Int) ^ e.toNat = B ∧ (B = 1 ∨ B = 2 ∨ B = 4 ∨ B = 8) := by
    rcases (show e = 0 ∨ e = 1 ∨ e = 2 ∨ e = 3 by omega) with rfl | rfl | rfl | rfl
    · exact ⟨1, by decide, by decide⟩
    · exact ⟨2, by decide, by decide⟩
    · exact ⟨4, by decide, by decide⟩
    · exact ⟨8, by decide, by decide⟩
  have hb : bitsB B = true := by rcases hBs with rfl | rfl | rfl | rfl <;> rfl
  have size_mk : ∀ L, ((⟨(madeL ns n L).toArray⟩ : ByteArray).size : Int) = (L : Int) := fun L => by
    show (((madeL ns n L).toArray).size : Int) = _
    simp [madeL_len]
  by_cases hn1 : 1 < n
  · have h0 : 0 ≤ ns 0 % 9 ∧ ns 0 % 9 < 9 := by omega
    have h1 : 0 ≤ ns 1 % 9 ∧ ns 1 % 9 < 9 := by omega
    obtain ⟨Wn, hWn⟩ := Int.eq_ofNat_of_zero_le (show 0 ≤ 1 + ns 0 % 9 by omega)
    obtain ⟨Hn, hHn⟩ := Int.eq_ofNat_of_zero_le (show 0 ≤ 1 + ns 1 % 9 by omega)
    have hr := rowI_bd (W := (Wn : Int)) (B := B) ⟨by omega, by omega⟩ (by omega)
    have hr9 : rowI (Wn : Int) B ≤ 9 := by
      have h1 := Int.mul_le_mul_of_nonneg_right (show (Wn : Int) ≤ 9 by omega) (show 0 ≤ B by omega)
      unfold rowI
      omega
    obtain ⟨R, hR⟩ := Int.eq_ofNat_of_zero_le (show 0 ≤ rowI (Wn : Int) B by omega)
    have hR1 : 1 ≤ R ∧ R ≤ 9 := by omega
    have hHR : Hn * R ≤ 81 := Nat.mul_le_mul (show Hn ≤ 9 by omega) hR1.2
    refine ⟨Wn, Hn, B, _, ?_, by omega, by omega, fun w hw => made_some A n c ns bits B e Wn Hn R (Hn * R) w hw hn (by omega) (by omega) he.1 he.2 hB (Lib.hid HP) hn1 hWn hHn (by omega) (by omega) (by omega) (by omega) hR (by push_cast; rfl) hHR⟩
    unfold mayI
    rw [hb, size_mk, show sidesB (Wn : Int) (Hn : Int) = true by unfold sidesB; simp; omega, hR]
    push_cast
    simp
  · refine ⟨1, 1, B, _, ?_, by decide, by decide, fun w hw => made_none A n c ns bits B e w hw hn (by omega) (by omega) he.1 he.2 hB (Lib.hid HP) hn1 (by omega)⟩
    unfold mayI
    rw [hb, size_mk, show rowI 1 B = 1 by unfold rowI; omega]
    rfl

theorem iback_law (A : Option Addr) (n c : Nat) (ns : Nat → Int) (bits a0 a1 a2 a3 a4 a5 x y : Int) (w : World) (hr : Ints w A n c ns) (hn : n ≤ 9223372036854775807) (_h0 : -9223372036854775808 ≤ bits ∧ bits ≤ 9223372036854775807) (_h1 : -9223372036854775808 ≤ a0 ∧ a0 ≤ 9223372036854775807) (_h2 : -9223372036854775808 ≤ a1 ∧ a1 ≤ 9223372036854775807) (_h3 : -9223372036854775808 ≤ a2 ∧ a2 ≤ 9223372036854775807) (_h4 : -9223372036854775808 ≤ a3 ∧ a3 ≤ 9223372036854775807) (_h5 : -9223372036854775808 ≤ a4 ∧ a4 ≤ 9223372036854775807) (_h6 : -9223372036854775808 ≤ a5 ∧ a5 ≤ 9223372036854775807) (_h7 : -9223372036854775808 ≤ x ∧ x ≤ 9223372036854775807) (_h8 : -9223372036854775808 ≤ y ∧ y ≤ 9223372036854775807) :
    Calls Try.prog 4 #[.slice A n c, .int .i64 bits, .agg #[.int .i64 a0, .int .i64 a1, .int .i64 a2, .int .i64 a3, .int .i64 a4, .int .i64 a5], .int .i64 x, .int .i64 y] w fun ed w' => ed = .returned (.bool true) ∧ Below w.heap.size w w' := by
  obtain ⟨W, H, B, s, hmay, hW9, hH9, hMd⟩ := made_any A n c ns bits hn
  obtain ⟨i0, i1, i2, i3, i4, i5, q0, q1, q2, q3, q4, q5, hTu⟩ := turn_any a0 a1 a2 a3 a4 a5 w
  have hPx := fun W => place_any x 300 W (by decide) (by decide)
  have hPy := fun W => place_any y 300 W (by decide) (by decide)
  have hmat : mayB (i0 - 1966080) (i1 - 1966080) (i2 - 1966080) (i3 - 1966080) (4 * (i4 - 1966080)) (4 * (i5 - 1966080)) = true := by
    unfold mayB
    rw [fixB_true (by omega), fixB_true (by omega), fixB_true (by omega), fixB_true (by omega), fixB_true (by omega), fixB_true (by omega)]
    rfl
  have hs : (s.size : Int) ≤ 9223372036854775807 := by
    obtain ⟨hB, hW, hH, hsz⟩ := mayI_bd hmay
    have h1 := rowI_bd hW (show 1 ≤ B ∧ B ≤ 8 by omega)
    have h2 := area_bd hH h1.2.2
    omega
  have hnear : nearB (x % 300 - 40) (y % 300 - 40) 8191 = true := by unfold nearB; simp; omega
  have hx0 : -8191 ≤ x % 300 - 40 ∧ x % 300 - 40 ≤ 8191 := by omega
  have hy0 : -8191 ≤ y % 300 - 40 ∧ y % 300 - 40 ≤ 8191 := by omega
  have hAt := fun W' => At_any W H B (i0 - 1966080) (i1 - 1966080) (i2 - 1966080) (i3 - 1966080) (4 * (i4 - 1966080)) (4 * (i5 - 1966080)) (x % 300 - 40) (y % 300 - 40) s W' hs
  have bx : 0 ≤ x % 300 ∧ x % 300 < 300 := by omega
  have by_ : 0 ≤ y % 300 ∧ y % 300 < 300 := by omega
  have hW64 : W ≤ 64 := by omega
  have hH64 : H ≤ 64 := by omega
  have hge := fun u v => sampV_ge (x := u) (y := v) hmay rfl
  by_cases hd : (i0 - 1966080) * (i3 - 1966080) - (i1 - 1966080) * (i2 - 1966080) = 0
  · rw [back_det hd] at hAt
    exact iback_err14 A n c ns bits a0 a1 a2 a3 a4 a5 x y (x % 300) (y % 300) W H B (i0 - 1966080) (i1 - 1966080) (i2 - 1966080) (i3 - 1966080) (4 * (i4 - 1966080)) (4 * (i5 - 1966080)) 0 0 0 s w hr (Lib.hid hMd) (Lib.hid hTu) (Lib.hid hPx) (Lib.hid hPy) (by omega) (by omega) (by omega) (by omega) (Lib.hid fun W' => Back_zero _ _ _ _ _ _ _ _ W' hmat hnear hd) (Lib.hid hAt)
  · rw [at_eq hmay hmat hd hx0 hy0] at hAt
    have out := fun (u v : Int) h => sampV_out (W := W) (H := H) (B := B) (s := s) (x := u) (y := v) hW64 hH64 h
    cases h1 : mulDiv ((i3 - 1966080) * ((x % 300 - 40) * 65536 - 4 * (i4 - 1966080)) - (i2 - 1966080) * ((y % 300 - 40) * 65536 - 4 * (i5 - 1966080))) 65536 ((i0 - 1966080) * (i3 - 1966080) - (i1 - 1966080) * (i2 - 1966080)) with
    | none =>
      rw [out _ _ (.inl fun hF => by obtain ⟨r, h, _⟩ := down_in hd hF; rw [h1] at h; cases h)] at hAt
      exact iback_err2 A n c ns bits a0 a1 a2 a3 a4 a5 x y (x % 300) (y % 300) W H B (i0 - 1966080) (i1 - 1966080) (i2 - 1966080) (i3 - 1966080) (4 * (i4 - 1966080)) (4 * (i5 - 1966080)) 0 0 0 s w hr (Lib.hid hMd) (Lib.hid hTu) (Lib.hid hPx) (Lib.hid hPy) (by omega) (by omega) (by omega) (by omega) (Lib.hid fun W' => Back_none1 _ _ _ _ _ _ _ _ W' hmat hnear hd h1) (Lib.hid hAt)
    | some r =>
      cases h2 : mulDiv ((i0 - 1966080) * ((y % 300 - 40) * 65536 - 4 * (i5 - 1966080)) - (i1 - 1966080) * ((x % 300 - 40) * 65536 - 4 * (i4 - 1966080))) 65536 ((i0 - 1966080) * (i3 - 1966080) - (i1 - 1966080) * (i2 - 1966080)) with
      | none =>
        rw [out _ _ (.inr fun hF => by obtain ⟨r, h, _⟩ := down_in hd hF; rw [h2] at h; cases h)] at hAt
        exact iback_err2 A n c ns bits a0 a1 a2 a3 a4 a5 x y (x % 300) (y % 300) W H B (i0 - 1966080) (i1 - 1966080) (i2 - 1966080) (i3 - 1966080) (4 * (i4 - 1966080)) (4 * (i5 - 1966080)) 0 0 0 s w hr (Lib.hid hMd) (Lib.hid hTu) (Lib.hid hPx) (Lib.hid hPy) (by omega) (by omega) (by omega) (by omega) (Lib.hid fun W' => Back_none2 _ _ _ _ _ _ _ _ r W' hmat hnear hd h1 h2) (Lib.hid hAt)
      | some q =>
        have hBk := fun W' => Back_yes _ _ _ _ _ _ _ _ r q W' hmat hnear hd h1 h2
        cases hnr : nearB r q 1073741823 with
        | false =>
          rw [hnr] at hBk
          rw [out _ _ (by
            rcases Classical.em (0 ≤ downI ((i3 - 1966080) * ((x % 300 - 40) * 65536 - 4 * (i4 - 1966080)) - (i2 - 1966080) * ((y % 300 - 40) * 65536 - 4 * (i5 - 1966080))) ((i0 - 1966080) * (i3 - 1966080) - (i1 - 1966080) * (i2 - 1966080)) ∧ downI ((i3 - 1966080) * ((x % 300 - 40) * 65536 - 4 * (i4 - 1966080)) - (i2 - 1966080) * ((y % 300 - 40) * 65536 - 4 * (i5 - 1966080))) ((i0 - 1966080) * (i3 - 1966080) - (i1 - 1966080) * (i2 - 1966080)) < 64) with hF | hF
            · right
              intro hG
              obtain ⟨r2, e1, e2, e3⟩ := down_in hd hF
              obtain ⟨q2, e4, e5, e6⟩ := down_in hd hG
              rw [h1] at e1
              rw [h2] at e4
              cases e1
              cases e4
              unfold nearB at hnr
              simp at hnr
              omega
            · exact .inl hF)] at hAt
          exact iback_err2 A n c ns bits a0 a1 a2 a3 a4 a5 x y (x % 300) (y % 300) W H B (i0 - 1966080) (i1 - 1966080) (i2 - 1966080) (i3 - 1966080) (4 * (i4 - 1966080)) (4 * (i5 - 1966080)) 0 0 0 s w hr (Lib.hid hMd) (Lib.hid hTu) (Lib.hid hPx) (Lib.hid hPy) (by omega) (by omega) (by omega) (by omega) (Lib.hid hBk) (Lib.hid hAt)
        | true =>
          rw [hnr] at hBk
          have hB1 := fun W' => beside_any r W'
          have hB2 := fun W' => beside_any q W'
          cases hb1 : besideB r with
          | true =>
            rw [hb1] at hB1
            exact iback_b1 A n c ns bits a0 a1 a2 a3 a4 a5 x y (x % 300) (y % 300) W H B (i0 - 1966080) (i1 - 1966080) (i2 - 1966080) (i3 - 1966080) (4 * (i4 - 1966080)) (4 * (i5 - 1966080)) r q _ s w hr (Lib.hid hMd) (Lib.hid hTu) (Lib.hid hPx) (Lib.hid hPy) (by omega) (by omega) (by omega) (by omega) (Lib.hid hBk) (Lib.hid hAt) (Lib.hid hB1) (hge _ _)
          | false =>
            rw [hb1] at hB1
            cases hb2 : besideB q with
            | true =>
              rw [hb2] at hB2
              exact iback_b2 A n c ns bits a0 a1 a2 a3 a4 a5 x y (x % 300) (y % 300) W H B (i0 - 1966080) (i1 - 1966080) (i2 - 1966080) (i3 - 1966080) (4 * (i4 - 1966080)) (4 * (i5 - 1966080)) r q _ s w hr (Lib.hid hMd) (Lib.hid hTu) (Lib.hid hPx) (Lib.hid hPy) (by omega) (by omega) (by omega) (by omega) (Lib.hid hBk) (Lib.hid hAt) (Lib.hid hB1) (Lib.hid hB2) (hge _ _)
            | false =>
              rw [hb2] at hB2
              have hSm := fun W' => Sample_any W H B (r / 65536) (q / 65536) s W' hs
              rw [if_pos hmay, down_beside hd h1 hb1, down_beside hd h2 hb2] at hSm
              exact iback_in A n c ns bits a0 a1 a2 a3 a4 a5 x y (x % 300) (y % 300) W H B (i0 - 1966080) (i1 - 1966080) (i2 - 1966080) (i3 - 1966080) (4 * (i4 - 1966080)) (4 * (i5 - 1966080)) r q _ s w hr (Lib.hid hMd) (Lib.hid hTu) (Lib.hid hPx) (Lib.hid hPy) (by omega) (by omega) (by omega) (by omega) (Lib.hid hBk) (Lib.hid hAt) (Lib.hid hB1) (Lib.hid hB2) (Lib.hid (by have := hSm; rw [← down_beside hd h1 hb1, ← down_beside hd h2 hb2] at this ⊢; exact this))

end Go.Proofs.Ytegpjjkbbdfggaa.im
