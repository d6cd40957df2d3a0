/-
  ImageInks: an image of one bit, painted onto black.
-/
import Derived.Test.YtegpjjkbbdfggaaMadeT
import Derived.Test.YtegpjjkbbdfggaaRSame
namespace Go.Proofs.Ytegpjjkbbdfggaa.im
set_option linter.unusedVariables false
set_option linter.unusedSimpArgs false
open Go.RowKit bs op rg

theorem black_px (w t : Nat) : putB w (fun _ _ => true) 0 0 0 255 (fun _ => 255) t = 0 := by
  unfold putB chan ik.blend
  simp
theorem inks_px (w : Nat) (S : Nat → Nat → Int) (hS : ∀ j i, -1 ≤ S j i ∧ S j i ≤ 2 ^ (1 : Int).toNat - 1) (t : Nat) :
    paintB w (fun _ _ => true) S (greyV 1) (putB w (fun _ _ => true) 0 0 0 255 (fun _ => 255)) t = putB w (fun j i => decide (0 < S j i)) 255 255 255 255 (putB w (fun _ _ => true) 0 0 0 255 (fun _ => 255)) t := by
  have h := hS (t / 3 / w) (t / 3 % w)
  unfold paintB
  rw [black_px]
  generalize hb : (putB w (fun _ _ => true) 0 0 0 255 fun _ => 255) = Bk
  have hk : Bk t = 0 := by rw [← hb]; exact black_px w t
  unfold putB
  rw [hk]
  simp at h
  rcases (show S (t / 3 / w) (t / 3 % w) = -1 ∨ S (t / 3 / w) (t / 3 % w) = 0 ∨ S (t / 3 / w) (t / 3 % w) = 1 by omega) with e | e | e <;> simp [e, chan, ik.blend, greyV]
theorem inks_dif (w : Nat) (S : Nat → Nat → Int) (hS : ∀ j i, -1 ≤ S j i ∧ S j i ≤ 2 ^ (1 : Int).toNat - 1) (j i : Nat) (hi : i < w) :
    dif (paintB w (fun _ _ => true) S (greyV 1) (putB w (fun _ _ => true) 0 0 0 255 (fun _ => 255))) (putB w (fun _ _ => true) 0 0 0 255 (fun _ => 255)) (j * w + i) = decide (0 < S j i) := by
  have h := hS j i
  have e : ∀ t, t < 3 → paintB w (fun _ _ => true) S (greyV 1) (putB w (fun _ _ => true) 0 0 0 255 (fun _ => 255)) (3 * (j * w + i) + t) = if 0 < S j i then 255 else 0 := fun t ht => by
    unfold paintB
    rw [show (3 * (j * w + i) + t) / 3 = j * w + i by omega, (pix_of hi).1, (pix_of hi).2, black_px]
    generalize S j i = v at *
    unfold greyV
    simp at h
    rcases (show v = -1 ∨ v = 0 ∨ v = 1 by omega) with rfl | rfl | rfl <;> simp
  unfold dif
  rw [show 3 * (j * w + i) = 3 * (j * w + i) + 0 from rfl, e 0 (by omega), e 1 (by omega), e 2 (by omega), black_px, black_px, black_px]
  generalize S j i = v at *
  by_cases hv : 0 < v <;> simp [hv]

theorem ik37_known (w : World) : Calls Try.prog 13 #[] w fun ed w' => ed = .returned (.bool true) ∧ Below w.heap.size w w' := known_any w
set_option maxRecDepth 100000 in
set_option maxHeartbeats 6400000 in
theorem iinks_zero (A : Option Addr) (n c : Nat) (ns : Nat → Int) (a0 a1 a2 a3 a4 a5 W H a b c2 d e f : Int) (s : ByteArray) (w : World) (hr : Ints w A n c ns)
    (HMd : Hid (∀ W', Ints W' A n c ns → Calls Try.prog 23 #[.slice A n c, .int .i64 0] W' fun ed w' => ed = .returned (.agg #[.int .i64 W, .int .i64 H, .int .i64 1, .string s]) ∧ Below W'.heap.size W' w'))
    (HTu : Hid (∀ W', Calls Try.prog 24 #[.agg #[.int .i64 a0, .int .i64 a1, .int .i64 a2, .int .i64 a3, .int .i64 a4, .int .i64 a5]] W' fun ed w' => ed = .returned (.agg #[.int .i64 a, .int .i64 b, .int .i64 c2, .int .i64 d, .int .i64 e, .int .i64 f]) ∧ Below W'.heap.size W' w'))
    (hmay : mayI W H 1 s.size = true) (hmat : mt.mayB a b c2 d e f = true) (hd : a * d - b * c2 = 0) :
    Calls Try.prog 12 #[.slice A n c, .agg #[.int .i64 a0, .int .i64 a1, .int .i64 a2, .int .i64 a3, .int .i64 a4, .int .i64 a5]] w fun ed w' => ed = .returned (.bool true) ∧ Below w.heap.size w w' := by
  have hs := may_size hmay
  obtain ⟨N, hN⟩ : ∃ N, N = 3 * (11 * 10) := ⟨_, rfl⟩
  have HNW := Lib.hid (fun W' => new_pg37 11 10 N W' (by decide) (by decide) hN)
  have HAL := Lib.hid (fun W' => rall_any 11 10 W' (by decide) (by decide))
  have HPU := Lib.hid (fun x y z a hx hy hz ha c d A D R B W' hp hr => put_any 11 10 N c d A D R x y z a B W' (by decide) (by decide) hN hx hy hz ha hp hr)
  have HPT := Lib.hid (fun cp dr A D R W' hr => paint_det0 W H 1 a b c2 d e f s 11 10 N cp dr A D R W' (by decide) (by decide) hN hs hmay hmat hd hr)
  have HRG := Lib.hid (fun W' => over_det0 W H 1 a b c2 d e f s 11 10 W' (by decide) (by decide) hs hmay hmat hd)
  have H255 : Hid ((0 : Int) ≤ 255 ∧ (255 : Int) ≤ 255) := Lib.hid ⟨by omega, by omega⟩
  have H000 : Hid ((0 : Int) ≤ 0 ∧ (0 : Int) ≤ 255) := Lib.hid ⟨by omega, by omega⟩
  clear hs hmay hmat hd hN
  go_enter Try.func12, Try.ntmps12
  go_wp2_with fail
  refine (ik37_known _).mono ?_
  rintro e_ w1 ⟨rfl, hb1⟩
  have Ka := (Blk.new w 34 #[.int .i64 a0, .int .i64 a1, .int .i64 a2, .int .i64 a3, .int .i64 a4, .int .i64 a5])
  replace Ka := Ka.below hb1 Ka.lt
  have hbw : Below w.heap.size w w1 := btrans (by (repeat' (first | exact Below.refl _ _ | exact Below.refl _ _ | refine balloc ?_ _ | refine Below.drew ?_ | refine below_drewN ?_ _ | refine bset ?_ (by first | omega | (simp <;> omega)) _))) hb1
  clear hb1 
  have lKa := Ka.lt
  have cKa0 := Ka.cell 0
  have cKa1 := Ka.cell 1
  have cKa2 := Ka.cell 2
  have cKa3 := Ka.cell 3
  have cKa4 := Ka.cell 4
  have cKa5 := Ka.cell 5
  simp only [List.getElem?_toArray, List.getElem?_cons_succ, List.getElem?_cons_zero] at cKa0 cKa1 cKa2 cKa3 cKa4 cKa5
  go_wp2_with fail
  refine wp_region_alloc2 4 [] (.cells #[.int .i64 0, .int .i64 0, .int .i64 0, .string ⟨#[]⟩] 23) (.cells #[.int .i64 0, .int .i64 0, .int .i64 0, .int .i64 0, .int .i64 0, .int .i64 0] 25) _ _ (by kernel_rfl) (by kernel_rfl) (fun d _ _ _ _ h => by cases d <;> exact h) rfl rfl (fun ρ w => alloc_img2 _ _ _ _ _ ρ w) (fun ρ w => alloc_mat2 _ _ _ _ _ ρ w) ?_
  intro u0
  have uKa0 : ∀ u : Up u0.val, u.val.cell? ⟨w.heap.size, 0, none⟩ = some (.int .i64 a0) := fun u => ((u.cell (Nat.lt_of_lt_of_le lKa u0.ok.size)).trans (u0.cell lKa)).trans cKa0
  have uKa1 : ∀ u : Up u0.val, u.val.cell? ⟨w.heap.size, 1, none⟩ = some (.int .i64 a1) := fun u => ((u.cell (Nat.lt_of_lt_of_le lKa u0.ok.size)).trans (u0.cell lKa)).trans cKa1
  have uKa2 : ∀ u : Up u0.val, u.val.cell? ⟨w.heap.size, 2, none⟩ = some (.int .i64 a2) := fun u => ((u.cell (Nat.lt_of_lt_of_le lKa u0.ok.size)).trans (u0.cell lKa)).trans cKa2
  have uKa3 : ∀ u : Up u0.val, u.val.cell? ⟨w.heap.size, 3, none⟩ = some (.int .i64 a3) := fun u => ((u.cell (Nat.lt_of_lt_of_le lKa u0.ok.size)).trans (u0.cell lKa)).trans cKa3
  have uKa4 : ∀ u : Up u0.val, u.val.cell? ⟨w.heap.size, 4, none⟩ = some (.int .i64 a4) := fun u => ((u.cell (Nat.lt_of_lt_of_le lKa u0.ok.size)).trans (u0.cell lKa)).trans cKa4
  have uKa5 : ∀ u : Up u0.val, u.val.cell? ⟨w.heap.size, 5, none⟩ = some (.int .i64 a5) := fun u => ((u.cell (Nat.lt_of_lt_of_le lKa u0.ok.size)).trans (u0.cell lKa)).trans cKa5
  have HU1 := Lib.hid (fun u : Up u0.val => up_of (u := u) (HMd.out u.val (hr.below (btrans (btrans hbw u0.ok) u.ok))))
  have HU2 := Lib.hid (fun u : Up u0.val => up_of (u := u) (HTu.out u.val))
  simp only [List.take_succ_cons, List.take_zero, List.drop_succ_cons, List.drop_zero]
  repeat (go_big_quiet_step (fail))
  go_big_quiet_step (exact HU1.out _)
  repeat (go_big_quiet_step (fail))
  go_big_quiet_step (exact HU2.out _)
  repeat (go_big_quiet_step (fail))
  refine wpQuiet_nil ?_
  rintro _ ⟨uq, rfl⟩ Pi Pm ⟨hi0, hi1, Ki⟩ ⟨hm0, hm1, Km⟩ hne
  replace Ki : Blk uq.val Pi 23 #[.int .i64 0, .int .i64 0, .int .i64 0, .string ⟨#[]⟩] := Ki
  replace Km : Blk uq.val Pm 25 #[.int .i64 0, .int .i64 0, .int .i64 0, .int .i64 0, .int .i64 0, .int .i64 0] := Km
  have hs0 := hbw.size
  replace hbw := btrans hbw uq.ok
  simp only [Act.put]
  generalize hwx : uq.val = w2 at *
  clear hwx uq u0 Ka HU1 HU2 HMd HTu uKa0 uKa1 uKa2 uKa3 uKa4 uKa5 lKa cKa0 cKa1 cKa2 cKa3 cKa4 cKa5
  have ci0 := Ki.cell 0
  have fi0 := Ki.frozen 0
  have ci1 := Ki.cell 1
  have fi1 := Ki.frozen 1
  have ci2 := Ki.cell 2
  have fi2 := Ki.frozen 2
  have ci3 := Ki.cell 3
  have fi3 := Ki.frozen 3
  have cm0 := Km.cell 0
  have fm0 := Km.frozen 0
  have cm1 := Km.cell 1
  have fm1 := Km.frozen 1
  have cm2 := Km.cell 2
  have fm2 := Km.frozen 2
  have cm3 := Km.cell 3
  have fm3 := Km.frozen 3
  have cm4 := Km.cell 4
  have fm4 := Km.frozen 4
  have cm5 := Km.cell 5
  have fm5 := Km.frozen 5
  simp only [List.getElem?_toArray, List.getElem?_cons_succ, List.getElem?_cons_zero] at ci0 ci1 ci2 ci3 cm0 cm1 cm2 cm3 cm4 cm5
  refine wpList_stop fun Kx HKx => ?_
  go_wp2_with fail
  replace Ki : Blk _ Pi 23 #[.int .i64 W, .int .i64 H, .int .i64 1, .string s] := blk_cast ((((((((((Ki.set_ 0 (.int .i64 W)).set_ 1 (.int .i64 H)).set_ 2 (.int .i64 1)).set_ 3 (.string s)).far (p := ⟨Pm, 0, none⟩) (show Pi ≠ Pm by omega) (.int .i64 a)).far (p := ⟨Pm, 1, none⟩) (show Pi ≠ Pm by omega) (.int .i64 b)).far (p := ⟨Pm, 2, none⟩) (show Pi ≠ Pm by omega) (.int .i64 c2)).far (p := ⟨Pm, 3, none⟩) (show Pi ≠ Pm by omega) (.int .i64 d)).far (p := ⟨Pm, 4, none⟩) (show Pi ≠ Pm by omega) (.int .i64 e)).far (p := ⟨Pm, 5, none⟩) (show Pi ≠ Pm by omega) (.int .i64 f)) (by kernel_rfl)
  replace Km : Blk _ Pm 25 #[.int .i64 a, .int .i64 b, .int .i64 c2, .int .i64 d, .int .i64 e, .int .i64 f] := blk_cast ((((((((((Km.far (p := ⟨Pi, 0, none⟩) (show Pm ≠ Pi by omega) (.int .i64 W)).far (p := ⟨Pi, 1, none⟩) (show Pm ≠ Pi by omega) (.int .i64 H)).far (p := ⟨Pi, 2, none⟩) (show Pm ≠ Pi by omega) (.int .i64 1)).far (p := ⟨Pi, 3, none⟩) (show Pm ≠ Pi by omega) (.string s)).set_ 0 (.int .i64 a)).set_ 1 (.int .i64 b)).set_ 2 (.int .i64 c2)).set_ 3 (.int .i64 d)).set_ 4 (.int .i64 e)).set_ 5 (.int .i64 f)) (by kernel_rfl)
  have hq0 : w.heap.size ≤ Pi := by omega
  have hq1 : w.heap.size ≤ Pm := by omega
  replace hbw : Below w.heap.size w ((((((((((w2.setCell ⟨Pi, 0, none⟩ (.int .i64 W)).setCell ⟨Pi, 1, none⟩ (.int .i64 H)).setCell ⟨Pi, 2, none⟩ (.int .i64 1)).setCell ⟨Pi, 3, none⟩ (.string s)).setCell ⟨Pm, 0, none⟩ (.int .i64 a)).setCell ⟨Pm, 1, none⟩ (.int .i64 b)).setCell ⟨Pm, 2, none⟩ (.int .i64 c2)).setCell ⟨Pm, 3, none⟩ (.int .i64 d)).setCell ⟨Pm, 4, none⟩ (.int .i64 e)).setCell ⟨Pm, 5, none⟩ (.int .i64 f)) := by (repeat' (first | refine bset ?_ (by first | omega | (simp <;> omega)) _ | refine balloc ?_ _ | refine Below.drew ?_ | refine below_drewN ?_ _ | exact hbw | exact Below.refl _ _))
  generalize hwx : ((((((((((w2.setCell ⟨Pi, 0, none⟩ (.int .i64 W)).setCell ⟨Pi, 1, none⟩ (.int .i64 H)).setCell ⟨Pi, 2, none⟩ (.int .i64 1)).setCell ⟨Pi, 3, none⟩ (.string s)).setCell ⟨Pm, 0, none⟩ (.int .i64 a)).setCell ⟨Pm, 1, none⟩ (.int .i64 b)).setCell ⟨Pm, 2, none⟩ (.int .i64 c2)).setCell ⟨Pm, 3, none⟩ (.int .i64 d)).setCell ⟨Pm, 4, none⟩ (.int .i64 e)).setCell ⟨Pm, 5, none⟩ (.int .i64 f)) = w3 at *
  clear hwx ci0 fi0 ci1 fi1 ci2 fi2 ci3 fi3 cm0 fm0 cm1 fm1 cm2 fm2 cm3 fm3 cm4 fm4 cm5 fm5 hs0 hi0 hi1 hm0 hm1
  have lKi := Ki.lt
  have cKi0 := Ki.cell 0
  have cKi1 := Ki.cell 1
  have cKi2 := Ki.cell 2
  have cKi3 := Ki.cell 3
  have lKm := Km.lt
  have cKm0 := Km.cell 0
  have cKm1 := Km.cell 1
  have cKm2 := Km.cell 2
  have cKm3 := Km.cell 3
  have cKm4 := Km.cell 4
  have cKm5 := Km.cell 5
  simp only [List.getElem?_toArray, List.getElem?_cons_succ, List.getElem?_cons_zero] at cKi0 cKi1 cKi2 cKi3 cKm0 cKm1 cKm2 cKm3 cKm4 cKm5
  refine HKx.out _ _ ?_
  clear HKx Kx
  go_wp2_with fail
  have hst0 : Below w3.heap.size w3 w3 := by (repeat' (first | exact Below.refl _ _ | exact Below.refl _ _ | refine balloc ?_ _ | refine Below.drew ?_ | refine below_drewN ?_ _ | refine bset ?_ (by first | omega | (simp <;> omega)) _))
  refine (HNW.out _).mono ?_
  rintro e_ w4 ⟨gw, ow, fw, rfl, hWh, hb⟩
  have hst : Below w3.heap.size w3 w4 := btrans hst0 hb
  replace Ki := Ki.below hb Ki.lt
  replace Km := Km.below hb Km.lt
  replace hbw : Below w.heap.size w w4 := btrans hbw hst
  clear hst hst0 hb lKi cKi0 cKi1 cKi2 cKi3 lKm cKm0 cKm1 cKm2 cKm3 cKm4 cKm5
  have HhWh := Lib.hid hWh
  clear hWh
  have lKi := Ki.lt
  have cKi0 := Ki.cell 0
  have cKi1 := Ki.cell 1
  have cKi2 := Ki.cell 2
  have cKi3 := Ki.cell 3
  have lKm := Km.lt
  have cKm0 := Km.cell 0
  have cKm1 := Km.cell 1
  have cKm2 := Km.cell 2
  have cKm3 := Km.cell 3
  have cKm4 := Km.cell 4
  have cKm5 := Km.cell 5
  simp only [List.getElem?_toArray, List.getElem?_cons_succ, List.getElem?_cons_zero] at cKi0 cKi1 cKi2 cKi3 cKm0 cKm1 cKm2 cKm3 cKm4 cKm5
  go_wp2_with fail
  have hst0 : Below w4.heap.size w4 (w4.alloc (.cells #[.int .i64 11, .int .i64 10, .slice (some ⟨gw, ow, none⟩) N fw] 46)) := by (repeat' (first | exact Below.refl _ _ | exact Below.refl _ _ | refine balloc ?_ _ | refine Below.drew ?_ | refine below_drewN ?_ _ | refine bset ?_ (by first | omega | (simp <;> omega)) _))
  refine (HAL.out _).mono ?_
  rintro e_ w5 ⟨gA, hgA, rfl, hAl, hb⟩
  clear hgA
  have hst : Below w4.heap.size w4 w5 := btrans hst0 hb
  replace Ki := (Ki.alloc (.cells #[.int .i64 11, .int .i64 10, .slice (some ⟨gw, ow, none⟩) N fw] 46))
  replace Km := (Km.alloc (.cells #[.int .i64 11, .int .i64 10, .slice (some ⟨gw, ow, none⟩) N fw] 46))
  have Kw := (Blk.new w4 46 #[.int .i64 11, .int .i64 10, .slice (some ⟨gw, ow, none⟩) N fw])
  replace Ki := Ki.below hb Ki.lt
  replace Km := Km.below hb Km.lt
  replace Kw := Kw.below hb Kw.lt
  replace hbw : Below w.heap.size w w5 := btrans hbw hst
  replace HhWh := Lib.hid (HhWh.out.below hst)
  clear hst hst0 hb lKi cKi0 cKi1 cKi2 cKi3 lKm cKm0 cKm1 cKm2 cKm3 cKm4 cKm5
  have HhAl := Lib.hid hAl
  clear hAl
  have lKi := Ki.lt
  have cKi0 := Ki.cell 0
  have cKi1 := Ki.cell 1
  have cKi2 := Ki.cell 2
  have cKi3 := Ki.cell 3
  have lKm := Km.lt
  have cKm0 := Km.cell 0
  have cKm1 := Km.cell 1
  have cKm2 := Km.cell 2
  have cKm3 := Km.cell 3
  have cKm4 := Km.cell 4
  have cKm5 := Km.cell 5
  have lKw := Kw.lt
  have cKw0 := Kw.cell 0
  have cKw1 := Kw.cell 1
  have cKw2 := Kw.cell 2
  simp only [List.getElem?_toArray, List.getElem?_cons_succ, List.getElem?_cons_zero] at cKi0 cKi1 cKi2 cKi3 cKm0 cKm1 cKm2 cKm3 cKm4 cKm5 cKw0 cKw1 cKw2
  go_wp2_with fail
  have hst0 : Below w5.heap.size w5 (w5.alloc (.cells #[.int .i64 11, .int .i64 10, .slice (some ⟨gA, 0, none⟩) 10 10] 51)) := by (repeat' (first | exact Below.refl _ _ | exact Below.refl _ _ | refine balloc ?_ _ | refine Below.drew ?_ | refine below_drewN ?_ _ | refine bset ?_ (by first | omega | (simp <;> omega)) _))
  refine (HPU.out _ _ _ _ H000.out H000.out H000.out H255.out _ _ _ _ _ _ _ (HhWh.out.below hst0) (HhAl.out.below hst0)).mono ?_
  rintro e_ w6 ⟨gb, fb, hgb, rfl, hBk, hb⟩
  clear hgb
  have hst : Below w5.heap.size w5 w6 := btrans hst0 hb
  replace Ki := (Ki.alloc (.cells #[.int .i64 11, .int .i64 10, .slice (some ⟨gA, 0, none⟩) 10 10] 51))
  replace Km := (Km.alloc (.cells #[.int .i64 11, .int .i64 10, .slice (some ⟨gA, 0, none⟩) 10 10] 51))
  replace Kw := (Kw.alloc (.cells #[.int .i64 11, .int .i64 10, .slice (some ⟨gA, 0, none⟩) 10 10] 51))
  have KA := (Blk.new w5 51 #[.int .i64 11, .int .i64 10, .slice (some ⟨gA, 0, none⟩) 10 10])
  replace Ki := Ki.below hb Ki.lt
  replace Km := Km.below hb Km.lt
  replace Kw := Kw.below hb Kw.lt
  replace KA := KA.below hb KA.lt
  replace hbw : Below w.heap.size w w6 := btrans hbw hst
  replace HhWh := Lib.hid (HhWh.out.below hst)
  replace HhAl := Lib.hid (HhAl.out.below hst)
  clear hst hst0 hb lKi cKi0 cKi1 cKi2 cKi3 lKm cKm0 cKm1 cKm2 cKm3 cKm4 cKm5 lKw cKw0 cKw1 cKw2
  have HhBk := Lib.hid hBk
  clear hBk
  have lKi := Ki.lt
  have cKi0 := Ki.cell 0
  have cKi1 := Ki.cell 1
  have cKi2 := Ki.cell 2
  have cKi3 := Ki.cell 3
  have lKm := Km.lt
  have cKm0 := Km.cell 0
  have cKm1 := Km.cell 1
  have cKm2 := Km.cell 2
  have cKm3 := Km.cell 3
  have cKm4 := Km.cell 4
  have cKm5 := Km.cell 5
  have lKw := Kw.lt
  have cKw0 := Kw.cell 0
  have cKw1 := Kw.cell 1
  have cKw2 := Kw.cell 2
  have lKA := KA.lt
  have cKA0 := KA.cell 0
  have cKA1 := KA.cell 1
  have cKA2 := KA.cell 2
  simp only [List.getElem?_toArray, List.getElem?_cons_succ, List.getElem?_cons_zero] at cKi0 cKi1 cKi2 cKi3 cKm0 cKm1 cKm2 cKm3 cKm4 cKm5 cKw0 cKw1 cKw2 cKA0 cKA1 cKA2
  go_wp2_with fail
  have hst0 : Below w6.heap.size w6 (w6.alloc (.cells #[.int .i64 11, .int .i64 10, .slice (some ⟨gb, 0, none⟩) N fb] 46)) := by (repeat' (first | exact Below.refl _ _ | exact Below.refl _ _ | refine balloc ?_ _ | refine Below.drew ?_ | refine below_drewN ?_ _ | refine bset ?_ (by first | omega | (simp <;> omega)) _))
  refine (HPT.out _ _ _ _ _ _ (HhAl.out.below hst0)).mono ?_
  rintro e_ w7 ⟨rfl, hb⟩
  have hst : Below w6.heap.size w6 w7 := btrans hst0 hb
  replace Ki := (Ki.alloc (.cells #[.int .i64 11, .int .i64 10, .slice (some ⟨gb, 0, none⟩) N fb] 46))
  replace Km := (Km.alloc (.cells #[.int .i64 11, .int .i64 10, .slice (some ⟨gb, 0, none⟩) N fb] 46))
  replace Kw := (Kw.alloc (.cells #[.int .i64 11, .int .i64 10, .slice (some ⟨gb, 0, none⟩) N fb] 46))
  replace KA := (KA.alloc (.cells #[.int .i64 11, .int .i64 10, .slice (some ⟨gb, 0, none⟩) N fb] 46))
  have Kb := (Blk.new w6 46 #[.int .i64 11, .int .i64 10, .slice (some ⟨gb, 0, none⟩) N fb])
  replace Ki := Ki.below hb Ki.lt
  replace Km := Km.below hb Km.lt
  replace Kw := Kw.below hb Kw.lt
  replace KA := KA.below hb KA.lt
  replace Kb := Kb.below hb Kb.lt
  replace hbw : Below w.heap.size w w7 := btrans hbw hst
  replace HhWh := Lib.hid (HhWh.out.below hst)
  replace HhAl := Lib.hid (HhAl.out.below hst)
  replace HhBk := Lib.hid (HhBk.out.below hst)
  clear hst hst0 hb lKi cKi0 cKi1 cKi2 cKi3 lKm cKm0 cKm1 cKm2 cKm3 cKm4 cKm5 lKw cKw0 cKw1 cKw2 lKA cKA0 cKA1 cKA2 Kw
  have lKi := Ki.lt
  have cKi0 := Ki.cell 0
  have cKi1 := Ki.cell 1
  have cKi2 := Ki.cell 2
  have cKi3 := Ki.cell 3
  have lKm := Km.lt
  have cKm0 := Km.cell 0
  have cKm1 := Km.cell 1
  have cKm2 := Km.cell 2
  have cKm3 := Km.cell 3
  have cKm4 := Km.cell 4
  have cKm5 := Km.cell 5
  have lKA := KA.lt
  have cKA0 := KA.cell 0
  have cKA1 := KA.cell 1
  have cKA2 := KA.cell 2
  have lKb := Kb.lt
  have cKb0 := Kb.cell 0
  have cKb1 := Kb.cell 1
  have cKb2 := Kb.cell 2
  simp only [List.getElem?_toArray, List.getElem?_cons_succ, List.getElem?_cons_zero] at cKi0 cKi1 cKi2 cKi3 cKm0 cKm1 cKm2 cKm3 cKm4 cKm5 cKA0 cKA1 cKA2 cKb0 cKb1 cKb2
  go_wp2_with fail
  have hst0 : Below w7.heap.size w7 (w7.alloc (.cells #[.int .i64 0, .int .i64 0, .slice none 0 0] 46)) := by (repeat' (first | exact Below.refl _ _ | exact Below.refl _ _ | refine balloc ?_ _ | refine Below.drew ?_ | refine below_drewN ?_ _ | refine bset ?_ (by first | omega | (simp <;> omega)) _))
  refine (HRG.out _).mono ?_
  rintro e_ w8 ⟨rfl, hb⟩
  have hst : Below w7.heap.size w7 w8 := btrans hst0 hb
  replace Ki := (Ki.alloc (.cells #[.int .i64 0, .int .i64 0, .slice none 0 0] 46))
  replace Km := (Km.alloc (.cells #[.int .i64 0, .int .i64 0, .slice none 0 0] 46))
  replace KA := (KA.alloc (.cells #[.int .i64 0, .int .i64 0, .slice none 0 0] 46))
  replace Kb := (Kb.alloc (.cells #[.int .i64 0, .int .i64 0, .slice none 0 0] 46))
  have Kp := (Blk.new w7 46 #[.int .i64 0, .int .i64 0, .slice none 0 0])
  replace Ki := Ki.below hb Ki.lt
  replace Km := Km.below hb Km.lt
  replace KA := KA.below hb KA.lt
  replace Kb := Kb.below hb Kb.lt
  replace Kp := Kp.below hb Kp.lt
  replace hbw : Below w.heap.size w w8 := btrans hbw hst
  replace HhWh := Lib.hid (HhWh.out.below hst)
  replace HhAl := Lib.hid (HhAl.out.below hst)
  replace HhBk := Lib.hid (HhBk.out.below hst)
  clear hst hst0 hb lKi cKi0 cKi1 cKi2 cKi3 lKm cKm0 cKm1 cKm2 cKm3 cKm4 cKm5 lKA cKA0 cKA1 cKA2 lKb cKb0 cKb1 cKb2 KA Kb
  have lKi := Ki.lt
  have cKi0 := Ki.cell 0
  have cKi1 := Ki.cell 1
  have cKi2 := Ki.cell 2
  have cKi3 := Ki.cell 3
  have lKm := Km.lt
  have cKm0 := Km.cell 0
  have cKm1 := Km.cell 1
  have cKm2 := Km.cell 2
  have cKm3 := Km.cell 3
  have cKm4 := Km.cell 4
  have cKm5 := Km.cell 5
  have lKp := Kp.lt
  have cKp0 := Kp.cell 0
  have cKp1 := Kp.cell 1
  have cKp2 := Kp.cell 2
  simp only [List.getElem?_toArray, List.getElem?_cons_succ, List.getElem?_cons_zero] at cKi0 cKi1 cKi2 cKi3 cKm0 cKm1 cKm2 cKm3 cKm4 cKm5 cKp0 cKp1 cKp2
  go_wp2_with fail
  go_ret
  exact ⟨rfl, by (repeat' (first | refine bset ?_ (by first | omega | (simp <;> omega)) _ | refine balloc ?_ _ | refine Below.drew ?_ | refine below_drewN ?_ _ | exact hbw | exact Below.refl _ _))⟩

set_option maxRecDepth 100000 in
set_option maxHeartbeats 6400000 in
theorem iinks_yes (A : Option Addr) (n c : Nat) (ns : Nat → Int) (a0 a1 a2 a3 a4 a5 W H a b c2 d e f : Int) (s : ByteArray) (w : World) (hr : Ints w A n c ns)
    (HMd : Hid (∀ W', Ints W' A n c ns → Calls Try.prog 23 #[.slice A n c, .int .i64 0] W' fun ed w' => ed = .returned (.agg #[.int .i64 W, .int .i64 H, .int .i64 1, .string s]) ∧ Below W'.heap.size W' w'))
    (HTu : Hid (∀ W', Calls Try.prog 24 #[.agg #[.int .i64 a0, .int .i64 a1, .int .i64 a2, .int .i64 a3, .int .i64 a4, .int .i64 a5]] W' fun ed w' => ed = .returned (.agg #[.int .i64 a, .int .i64 b, .int .i64 c2, .int .i64 d, .int .i64 e, .int .i64 f]) ∧ Below W'.heap.size W' w'))
    (hmay : mayI W H 1 s.size = true) (hmat : mt.mayB a b c2 d e f = true) (hd : ¬ a * d - b * c2 = 0) :
    Calls Try.prog 12 #[.slice A n c, .agg #[.int .i64 a0, .int .i64 a1, .int .i64 a2, .int .i64 a3, .int .i64 a4, .int .i64 a5]] w fun ed w' => ed = .returned (.bool true) ∧ Below w.heap.size w w' := by
  have hs := may_size hmay
  obtain ⟨N, hN⟩ : ∃ N, N = 3 * (11 * 10) := ⟨_, rfl⟩
  have HNW := Lib.hid (fun W' => new_pg37 11 10 N W' (by decide) (by decide) hN)
  have HAL := Lib.hid (fun W' => rall_any 11 10 W' (by decide) (by decide))
  have HPU := Lib.hid (fun x y z a hx hy hz ha c d A D R B W' hp hr => put_any 11 10 N c d A D R x y z a B W' (by decide) (by decide) hN hx hy hz ha hp hr)
  have HPT := Lib.hid (fun cp dr A D R Y W' hp hr => paint_any W H 1 a b c2 d e f _ s 11 10 N cp dr A D R Y W' (by decide) (by decide) hN hs hmay hmat rfl hd hp hr)
  have HRG := Lib.hid (fun W' => over_any W H 1 a b c2 d e f _ s 11 10 W' (by decide) (by decide) hs hmay hmat rfl hd)
  have HUN := Lib.hid (fun c d A D B C W' hp hq => unlike_any 11 10 N c d A D B C W' (by decide) (by decide) hN hp hq)
  have HRS := Lib.hid (fun c d A D R S W' ha hb h => rsame_yes 11 10 c d A D R S W' (by decide) (by decide) ha hb h)
  have HPS := Lib.hid (fun c d A D B C W' ha hb h => psame_yes 11 10 N c d A D B C W' ha hb h)
  have HSB := Lib.hid (fun j i => atV_bd W H 1 a b c2 d e f (16 * (i : Int) + 8) (16 * (j : Int) + 8) s hmay)
  have H255 : Hid ((0 : Int) ≤ 255 ∧ (255 : Int) ≤ 255) := Lib.hid ⟨by omega, by omega⟩
  have H000 : Hid ((0 : Int) ≤ 0 ∧ (0 : Int) ≤ 255) := Lib.hid ⟨by omega, by omega⟩
  clear hs hmay hmat hd hN
  go_enter Try.func12, Try.ntmps12
  go_wp2_with fail
  refine (ik37_known _).mono ?_
  rintro e_ w1 ⟨rfl, hb1⟩
  have Ka := (Blk.new w 34 #[.int .i64 a0, .int .i64 a1, .int .i64 a2, .int .i64 a3, .int .i64 a4, .int .i64 a5])
  replace Ka := Ka.below hb1 Ka.lt
  have hbw : Below w.heap.size w w1 := btrans (by (repeat' (first | exact Below.refl _ _ | exact Below.refl _ _ | refine balloc ?_ _ | refine Below.drew ?_ | refine below_drewN ?_ _ | refine bset ?_ (by first | omega | (simp <;> omega)) _))) hb1
  clear hb1 
  have lKa := Ka.lt
  have cKa0 := Ka.cell 0
  have cKa1 := Ka.cell 1
  have cKa2 := Ka.cell 2
  have cKa3 := Ka.cell 3
  have cKa4 := Ka.cell 4
  have cKa5 := Ka.cell 5
  simp only [List.getElem?_toArray, List.getElem?_cons_succ, List.getElem?_cons_zero] at cKa0 cKa1 cKa2 cKa3 cKa4 cKa5
  go_wp2_with fail
  refine wp_region_alloc2 4 [] (.cells #[.int .i64 0, .int .i64 0, .int .i64 0, .string ⟨#[]⟩] 23) (.cells #[.int .i64 0, .int .i64 0, .int .i64 0, .int .i64 0, .int .i64 0, .int .i64 0] 25) _ _ (by kernel_rfl) (by kernel_rfl) (fun d _ _ _ _ h => by cases d <;> exact h) rfl rfl (fun ρ w => alloc_img2 _ _ _ _ _ ρ w) (fun ρ w => alloc_mat2 _ _ _ _ _ ρ w) ?_
  intro u0
  have uKa0 : ∀ u : Up u0.val, u.val.cell? ⟨w.heap.size, 0, none⟩ = some (.int .i64 a0) := fun u => ((u.cell (Nat.lt_of_lt_of_le lKa u0.ok.size)).trans (u0.cell lKa)).trans cKa0
  have uKa1 : ∀ u : Up u0.val, u.val.cell? ⟨w.heap.size, 1, none⟩ = some (.int .i64 a1) := fun u => ((u.cell (Nat.lt_of_lt_of_le lKa u0.ok.size)).trans (u0.cell lKa)).trans cKa1
  have uKa2 : ∀ u : Up u0.val, u.val.cell? ⟨w.heap.size, 2, none⟩ = some (.int .i64 a2) := fun u => ((u.cell (Nat.lt_of_lt_of_le lKa u0.ok.size)).trans (u0.cell lKa)).trans cKa2
  have uKa3 : ∀ u : Up u0.val, u.val.cell? ⟨w.heap.size, 3, none⟩ = some (.int .i64 a3) := fun u => ((u.cell (Nat.lt_of_lt_of_le lKa u0.ok.size)).trans (u0.cell lKa)).trans cKa3
  have uKa4 : ∀ u : Up u0.val, u.val.cell? ⟨w.heap.size, 4, none⟩ = some (.int .i64 a4) := fun u => ((u.cell (Nat.lt_of_lt_of_le lKa u0.ok.size)).trans (u0.cell lKa)).trans cKa4
  have uKa5 : ∀ u : Up u0.val, u.val.cell? ⟨w.heap.size, 5, none⟩ = some (.int .i64 a5) := fun u => ((u.cell (Nat.lt_of_lt_of_le lKa u0.ok.size)).trans (u0.cell lKa)).trans cKa5
  have HU1 := Lib.hid (fun u : Up u0.val => up_of (u := u) (HMd.out u.val (hr.below (btrans (btrans hbw u0.ok) u.ok))))
  have HU2 := Lib.hid (fun u : Up u0.val => up_of (u := u) (HTu.out u.val))
  simp only [List.take_succ_cons, List.take_zero, List.drop_succ_cons, List.drop_zero]
  repeat (go_big_quiet_step (fail))
  go_big_quiet_step (exact HU1.out _)
  repeat (go_big_quiet_step (fail))
  go_big_quiet_step (exact HU2.out _)
  repeat (go_big_quiet_step (fail))
  refine wpQuiet_nil ?_
  rintro _ ⟨uq, rfl⟩ Pi Pm ⟨hi0, hi1, Ki⟩ ⟨hm0, hm1, Km⟩ hne
  replace Ki : Blk uq.val Pi 23 #[.int .i64 0, .int .i64 0, .int .i64 0, .string ⟨#[]⟩] := Ki
  replace Km : Blk uq.val Pm 25 #[.int .i64 0, .int .i64 0, .int .i64 0, .int .i64 0, .int .i64 0, .int .i64 0] := Km
  have hs0 := hbw.size
  replace hbw := btrans hbw uq.ok
  simp only [Act.put]
  generalize hwx : uq.val = w2 at *
  clear hwx uq u0 Ka HU1 HU2 HMd HTu uKa0 uKa1 uKa2 uKa3 uKa4 uKa5 lKa cKa0 cKa1 cKa2 cKa3 cKa4 cKa5
  have ci0 := Ki.cell 0
  have fi0 := Ki.frozen 0
  have ci1 := Ki.cell 1
  have fi1 := Ki.frozen 1
  have ci2 := Ki.cell 2
  have fi2 := Ki.frozen 2
  have ci3 := Ki.cell 3
  have fi3 := Ki.frozen 3
  have cm0 := Km.cell 0
  have fm0 := Km.frozen 0
  have cm1 := Km.cell 1
  have fm1 := Km.frozen 1
  have cm2 := Km.cell 2
  have fm2 := Km.frozen 2
  have cm3 := Km.cell 3
  have fm3 := Km.frozen 3
  have cm4 := Km.cell 4
  have fm4 := Km.frozen 4
  have cm5 := Km.cell 5
  have fm5 := Km.frozen 5
  simp only [List.getElem?_toArray, List.getElem?_cons_succ, List.getElem?_cons_zero] at ci0 ci1 ci2 ci3 cm0 cm1 cm2 cm3 cm4 cm5
  refine wpList_stop fun Kx HKx => ?_
  go_wp2_with fail
  replace Ki : Blk _ Pi 23 #[.int .i64 W, .int .i64 H, .int .i64 1, .string s] := blk_cast ((((((((((Ki.set_ 0 (.int .i64 W)).set_ 1 (.int .i64 H)).set_ 2 (.int .i64 1)).set_ 3 (.string s)).far (p := ⟨Pm, 0, none⟩) (show Pi ≠ Pm by omega) (.int .i64 a)).far (p := ⟨Pm, 1, none⟩) (show Pi ≠ Pm by omega) (.int .i64 b)).far (p := ⟨Pm, 2, none⟩) (show Pi ≠ Pm by omega) (.int .i64 c2)).far (p := ⟨Pm, 3, none⟩) (show Pi ≠ Pm by omega) (.int .i64 d)).far (p := ⟨Pm, 4, none⟩) (show Pi ≠ Pm by omega) (.int .i64 e)).far (p := ⟨Pm, 5, none⟩) (show Pi ≠ Pm by omega) (.int .i64 f)) (by kernel_rfl)
  replace Km : Blk _ Pm 25 #[.int .i64 a, .int .i64 b, .int .i64 c2, .int .i64 d, .int .i64 e, .int .i64 f] := blk_cast ((((((((((Km.far (p := ⟨Pi, 0, none⟩) (show Pm ≠ Pi by omega) (.int .i64 W)).far (p := ⟨Pi, 1, none⟩) (show Pm ≠ Pi by omega) (.int .i64 H)).far (p := ⟨Pi, 2, none⟩) (show Pm ≠ Pi by omega) (.int .i64 1)).far (p := ⟨Pi, 3, none⟩) (show Pm ≠ Pi by omega) (.string s)).set_ 0 (.int .i64 a)).set_ 1 (.int .i64 b)).set_ 2 (.int .i64 c2)).set_ 3 (.int .i64 d)).set_ 4 (.int .i64 e)).set_ 5 (.int .i64 f)) (by kernel_rfl)
  have hq0 : w.heap.size ≤ Pi := by omega
  have hq1 : w.heap.size ≤ Pm := by omega
  replace hbw : Below w.heap.size w ((((((((((w2.setCell ⟨Pi, 0, none⟩ (.int .i64 W)).setCell ⟨Pi, 1, none⟩ (.int .i64 H)).setCell ⟨Pi, 2, none⟩ (.int .i64 1)).setCell ⟨Pi, 3, none⟩ (.string s)).setCell ⟨Pm, 0, none⟩ (.int .i64 a)).setCell ⟨Pm, 1, none⟩ (.int .i64 b)).setCell ⟨Pm, 2, none⟩ (.int .i64 c2)).setCell ⟨Pm, 3, none⟩ (.int .i64 d)).setCell ⟨Pm, 4, none⟩ (.int .i64 e)).setCell ⟨Pm, 5, none⟩ (.int .i64 f)) := by (repeat' (first | refine bset ?_ (by first | omega | (simp <;> omega)) _ | refine balloc ?_ _ | refine Below.drew ?_ | refine below_drewN ?_ _ | exact hbw | exact Below.refl _ _))
  generalize hwx : ((((((((((w2.setCell ⟨Pi, 0, none⟩ (.int .i64 W)).setCell ⟨Pi, 1, none⟩ (.int .i64 H)).setCell ⟨Pi, 2, none⟩ (.int .i64 1)).setCell ⟨Pi, 3, none⟩ (.string s)).setCell ⟨Pm, 0, none⟩ (.int .i64 a)).setCell ⟨Pm, 1, none⟩ (.int .i64 b)).setCell ⟨Pm, 2, none⟩ (.int .i64 c2)).setCell ⟨Pm, 3, none⟩ (.int .i64 d)).setCell ⟨Pm, 4, none⟩ (.int .i64 e)).setCell ⟨Pm, 5, none⟩ (.int .i64 f)) = w3 at *
  clear hwx ci0 fi0 ci1 fi1 ci2 fi2 ci3 fi3 cm0 fm0 cm1 fm1 cm2 fm2 cm3 fm3 cm4 fm4 cm5 fm5 hs0 hi0 hi1 hm0 hm1
  have lKi := Ki.lt
  have cKi0 := Ki.cell 0
  have cKi1 := Ki.cell 1
  have cKi2 := Ki.cell 2
  have cKi3 := Ki.cell 3
  have lKm := Km.lt
  have cKm0 := Km.cell 0
  have cKm1 := Km.cell 1
  have cKm2 := Km.cell 2
  have cKm3 := Km.cell 3
  have cKm4 := Km.cell 4
  have cKm5 := Km.cell 5
  simp only [List.getElem?_toArray, List.getElem?_cons_succ, List.getElem?_cons_zero] at cKi0 cKi1 cKi2 cKi3 cKm0 cKm1 cKm2 cKm3 cKm4 cKm5
  refine HKx.out _ _ ?_
  clear HKx Kx
  go_wp2_with fail
  have hst0 : Below w3.heap.size w3 w3 := by (repeat' (first | exact Below.refl _ _ | exact Below.refl _ _ | refine balloc ?_ _ | refine Below.drew ?_ | refine below_drewN ?_ _ | refine bset ?_ (by first | omega | (simp <;> omega)) _))
  refine (HNW.out _).mono ?_
  rintro e_ w4 ⟨gw, ow, fw, rfl, hWh, hb⟩
  have hst : Below w3.heap.size w3 w4 := btrans hst0 hb
  replace Ki := Ki.below hb Ki.lt
  replace Km := Km.below hb Km.lt
  replace hbw : Below w.heap.size w w4 := btrans hbw hst
  clear hst hst0 hb lKi cKi0 cKi1 cKi2 cKi3 lKm cKm0 cKm1 cKm2 cKm3 cKm4 cKm5
  have HhWh := Lib.hid hWh
  clear hWh
  have lKi := Ki.lt
  have cKi0 := Ki.cell 0
  have cKi1 := Ki.cell 1
  have cKi2 := Ki.cell 2
  have cKi3 := Ki.cell 3
  have lKm := Km.lt
  have cKm0 := Km.cell 0
  have cKm1 := Km.cell 1
  have cKm2 := Km.cell 2
  have cKm3 := Km.cell 3
  have cKm4 := Km.cell 4
  have cKm5 := Km.cell 5
  simp only [List.getElem?_toArray, List.getElem?_cons_succ, List.getElem?_cons_zero] at cKi0 cKi1 cKi2 cKi3 cKm0 cKm1 cKm2 cKm3 cKm4 cKm5
  go_wp2_with fail
  have hst0 : Below w4.heap.size w4 (w4.alloc (.cells #[.int .i64 11, .int .i64 10, .slice (some ⟨gw, ow, none⟩) N fw] 46)) := by (repeat' (first | exact Below.refl _ _ | exact Below.refl _ _ | refine balloc ?_ _ | refine Below.drew ?_ | refine below_drewN ?_ _ | refine bset ?_ (by first | omega | (simp <;> omega)) _))
  refine (HAL.out _).mono ?_
  rintro e_ w5 ⟨gA, hgA, rfl, hAl, hb⟩
  clear hgA
  have hst : Below w4.heap.size w4 w5 := btrans hst0 hb
  replace Ki := (Ki.alloc (.cells #[.int .i64 11, .int .i64 10, .slice (some ⟨gw, ow, none⟩) N fw] 46))
  replace Km := (Km.alloc (.cells #[.int .i64 11, .int .i64 10, .slice (some ⟨gw, ow, none⟩) N fw] 46))
  have Kw := (Blk.new w4 46 #[.int .i64 11, .int .i64 10, .slice (some ⟨gw, ow, none⟩) N fw])
  replace Ki := Ki.below hb Ki.lt
  replace Km := Km.below hb Km.lt
  replace Kw := Kw.below hb Kw.lt
  replace hbw : Below w.heap.size w w5 := btrans hbw hst
  replace HhWh := Lib.hid (HhWh.out.below hst)
  clear hst hst0 hb lKi cKi0 cKi1 cKi2 cKi3 lKm cKm0 cKm1 cKm2 cKm3 cKm4 cKm5
  have HhAl := Lib.hid hAl
  clear hAl
  have lKi := Ki.lt
  have cKi0 := Ki.cell 0
  have cKi1 := Ki.cell 1
  have cKi2 := Ki.cell 2
  have cKi3 := Ki.cell 3
  have lKm := Km.lt
  have cKm0 := Km.cell 0
  have cKm1 := Km.cell 1
  have cKm2 := Km.cell 2
  have cKm3 := Km.cell 3
  have cKm4 := Km.cell 4
  have cKm5 := Km.cell 5
  have lKw := Kw.lt
  have cKw0 := Kw.cell 0
  have cKw1 := Kw.cell 1
  have cKw2 := Kw.cell 2
  simp only [List.getElem?_toArray, List.getElem?_cons_succ, List.getElem?_cons_zero] at cKi0 cKi1 cKi2 cKi3 cKm0 cKm1 cKm2 cKm3 cKm4 cKm5 cKw0 cKw1 cKw2
  go_wp2_with fail
  have hst0 : Below w5.heap.size w5 (w5.alloc (.cells #[.int .i64 11, .int .i64 10, .slice (some ⟨gA, 0, none⟩) 10 10] 51)) := by (repeat' (first | exact Below.refl _ _ | exact Below.refl _ _ | refine balloc ?_ _ | refine Below.drew ?_ | refine below_drewN ?_ _ | refine bset ?_ (by first | omega | (simp <;> omega)) _))
  refine (HPU.out _ _ _ _ H000.out H000.out H000.out H255.out _ _ _ _ _ _ _ (HhWh.out.below hst0) (HhAl.out.below hst0)).mono ?_
  rintro e_ w6 ⟨gb, fb, hgb, rfl, hBk, hb⟩
  clear hgb
  have hst : Below w5.heap.size w5 w6 := btrans hst0 hb
  replace Ki := (Ki.alloc (.cells #[.int .i64 11, .int .i64 10, .slice (some ⟨gA, 0, none⟩) 10 10] 51))
  replace Km := (Km.alloc (.cells #[.int .i64 11, .int .i64 10, .slice (some ⟨gA, 0, none⟩) 10 10] 51))
  replace Kw := (Kw.alloc (.cells #[.int .i64 11, .int .i64 10, .slice (some ⟨gA, 0, none⟩) 10 10] 51))
  have KA := (Blk.new w5 51 #[.int .i64 11, .int .i64 10, .slice (some ⟨gA, 0, none⟩) 10 10])
  replace Ki := Ki.below hb Ki.lt
  replace Km := Km.below hb Km.lt
  replace Kw := Kw.below hb Kw.lt
  replace KA := KA.below hb KA.lt
  replace hbw : Below w.heap.size w w6 := btrans hbw hst
  replace HhWh := Lib.hid (HhWh.out.below hst)
  replace HhAl := Lib.hid (HhAl.out.below hst)
  clear hst hst0 hb lKi cKi0 cKi1 cKi2 cKi3 lKm cKm0 cKm1 cKm2 cKm3 cKm4 cKm5 lKw cKw0 cKw1 cKw2
  have HhBk := Lib.hid hBk
  clear hBk
  have lKi := Ki.lt
  have cKi0 := Ki.cell 0
  have cKi1 := Ki.cell 1
  have cKi2 := Ki.cell 2
  have cKi3 := Ki.cell 3
  have lKm := Km.lt
  have cKm0 := Km.cell 0
  have cKm1 := Km.cell 1
  have cKm2 := Km.cell 2
  have cKm3 := Km.cell 3
  have cKm4 := Km.cell 4
  have cKm5 := Km.cell 5
  have lKw := Kw.lt
  have cKw0 := Kw.cell 0
  have cKw1 := Kw.cell 1
  have cKw2 := Kw.cell 2
  have lKA := KA.lt
  have cKA0 := KA.cell 0
  have cKA1 := KA.cell 1
  have cKA2 := KA.cell 2
  simp only [List.getElem?_toArray, List.getElem?_cons_succ, List.getElem?_cons_zero] at cKi0 cKi1 cKi2 cKi3 cKm0 cKm1 cKm2 cKm3 cKm4 cKm5 cKw0 cKw1 cKw2 cKA0 cKA1 cKA2
  go_wp2_with fail
  have hst0 : Below w6.heap.size w6 (w6.alloc (.cells #[.int .i64 11, .int .i64 10, .slice (some ⟨gb, 0, none⟩) N fb] 46)) := by (repeat' (first | exact Below.refl _ _ | exact Below.refl _ _ | refine balloc ?_ _ | refine Below.drew ?_ | refine below_drewN ?_ _ | refine bset ?_ (by first | omega | (simp <;> omega)) _))
  refine (HPT.out _ _ _ _ _ _ _ (HhBk.out.below hst0) (HhAl.out.below hst0)).mono ?_
  rintro e_ w7 ⟨gp, fp, hgp, rfl, hPt, hb⟩
  clear hgp
  have hst : Below w6.heap.size w6 w7 := btrans hst0 hb
  replace Ki := (Ki.alloc (.cells #[.int .i64 11, .int .i64 10, .slice (some ⟨gb, 0, none⟩) N fb] 46))
  replace Km := (Km.alloc (.cells #[.int .i64 11, .int .i64 10, .slice (some ⟨gb, 0, none⟩) N fb] 46))
  replace Kw := (Kw.alloc (.cells #[.int .i64 11, .int .i64 10, .slice (some ⟨gb, 0, none⟩) N fb] 46))
  replace KA := (KA.alloc (.cells #[.int .i64 11, .int .i64 10, .slice (some ⟨gb, 0, none⟩) N fb] 46))
  have Kb := (Blk.new w6 46 #[.int .i64 11, .int .i64 10, .slice (some ⟨gb, 0, none⟩) N fb])
  replace Ki := Ki.below hb Ki.lt
  replace Km := Km.below hb Km.lt
  replace Kw := Kw.below hb Kw.lt
  replace KA := KA.below hb KA.lt
  replace Kb := Kb.below hb Kb.lt
  replace hbw : Below w.heap.size w w7 := btrans hbw hst
  replace HhWh := Lib.hid (HhWh.out.below hst)
  replace HhAl := Lib.hid (HhAl.out.below hst)
  replace HhBk := Lib.hid (HhBk.out.below hst)
  clear hst hst0 hb lKi cKi0 cKi1 cKi2 cKi3 lKm cKm0 cKm1 cKm2 cKm3 cKm4 cKm5 lKw cKw0 cKw1 cKw2 lKA cKA0 cKA1 cKA2 Kw
  have HhPt := Lib.hid hPt
  clear hPt
  have lKi := Ki.lt
  have cKi0 := Ki.cell 0
  have cKi1 := Ki.cell 1
  have cKi2 := Ki.cell 2
  have cKi3 := Ki.cell 3
  have lKm := Km.lt
  have cKm0 := Km.cell 0
  have cKm1 := Km.cell 1
  have cKm2 := Km.cell 2
  have cKm3 := Km.cell 3
  have cKm4 := Km.cell 4
  have cKm5 := Km.cell 5
  have lKA := KA.lt
  have cKA0 := KA.cell 0
  have cKA1 := KA.cell 1
  have cKA2 := KA.cell 2
  have lKb := Kb.lt
  have cKb0 := Kb.cell 0
  have cKb1 := Kb.cell 1
  have cKb2 := Kb.cell 2
  simp only [List.getElem?_toArray, List.getElem?_cons_succ, List.getElem?_cons_zero] at cKi0 cKi1 cKi2 cKi3 cKm0 cKm1 cKm2 cKm3 cKm4 cKm5 cKA0 cKA1 cKA2 cKb0 cKb1 cKb2
  go_wp2_with fail
  have hst0 : Below w7.heap.size w7 (w7.alloc (.cells #[.int .i64 11, .int .i64 10, .slice (some ⟨gp, 0, none⟩) N fp] 46)) := by (repeat' (first | exact Below.refl _ _ | exact Below.refl _ _ | refine balloc ?_ _ | refine Below.drew ?_ | refine below_drewN ?_ _ | refine bset ?_ (by first | omega | (simp <;> omega)) _))
  refine (HRG.out _).mono ?_
  rintro e_ w8 ⟨gr, hgr, rfl, hRr, hb⟩
  clear hgr
  have hst : Below w7.heap.size w7 w8 := btrans hst0 hb
  replace Ki := (Ki.alloc (.cells #[.int .i64 11, .int .i64 10, .slice (some ⟨gp, 0, none⟩) N fp] 46))
  replace Km := (Km.alloc (.cells #[.int .i64 11, .int .i64 10, .slice (some ⟨gp, 0, none⟩) N fp] 46))
  replace KA := (KA.alloc (.cells #[.int .i64 11, .int .i64 10, .slice (some ⟨gp, 0, none⟩) N fp] 46))
  replace Kb := (Kb.alloc (.cells #[.int .i64 11, .int .i64 10, .slice (some ⟨gp, 0, none⟩) N fp] 46))
  have Kp := (Blk.new w7 46 #[.int .i64 11, .int .i64 10, .slice (some ⟨gp, 0, none⟩) N fp])
  replace Ki := Ki.below hb Ki.lt
  replace Km := Km.below hb Km.lt
  replace KA := KA.below hb KA.lt
  replace Kb := Kb.below hb Kb.lt
  replace Kp := Kp.below hb Kp.lt
  replace hbw : Below w.heap.size w w8 := btrans hbw hst
  replace HhWh := Lib.hid (HhWh.out.below hst)
  replace HhAl := Lib.hid (HhAl.out.below hst)
  replace HhBk := Lib.hid (HhBk.out.below hst)
  replace HhPt := Lib.hid (HhPt.out.below hst)
  clear hst hst0 hb lKi cKi0 cKi1 cKi2 cKi3 lKm cKm0 cKm1 cKm2 cKm3 cKm4 cKm5 lKA cKA0 cKA1 cKA2 lKb cKb0 cKb1 cKb2 KA
  have HhRr := Lib.hid hRr
  clear hRr
  have lKi := Ki.lt
  have cKi0 := Ki.cell 0
  have cKi1 := Ki.cell 1
  have cKi2 := Ki.cell 2
  have cKi3 := Ki.cell 3
  have lKm := Km.lt
  have cKm0 := Km.cell 0
  have cKm1 := Km.cell 1
  have cKm2 := Km.cell 2
  have cKm3 := Km.cell 3
  have cKm4 := Km.cell 4
  have cKm5 := Km.cell 5
  have lKb := Kb.lt
  have cKb0 := Kb.cell 0
  have cKb1 := Kb.cell 1
  have cKb2 := Kb.cell 2
  have lKp := Kp.lt
  have cKp0 := Kp.cell 0
  have cKp1 := Kp.cell 1
  have cKp2 := Kp.cell 2
  simp only [List.getElem?_toArray, List.getElem?_cons_succ, List.getElem?_cons_zero] at cKi0 cKi1 cKi2 cKi3 cKm0 cKm1 cKm2 cKm3 cKm4 cKm5 cKb0 cKb1 cKb2 cKp0 cKp1 cKp2
  go_wp2_with fail
  have hst0 : Below w8.heap.size w8 (w8.alloc (.cells #[.int .i64 11, .int .i64 10, .slice (some ⟨gr, 0, none⟩) 10 10] 51)) := by (repeat' (first | exact Below.refl _ _ | exact Below.refl _ _ | refine balloc ?_ _ | refine Below.drew ?_ | refine below_drewN ?_ _ | refine bset ?_ (by first | omega | (simp <;> omega)) _))
  refine (HUN.out _ _ _ _ _ _ _ (HhPt.out.below hst0) (HhBk.out.below hst0)).mono ?_
  rintro e_ w9 ⟨gu, hgu, rfl, hUu, hb⟩
  clear hgu
  have hst : Below w8.heap.size w8 w9 := btrans hst0 hb
  replace Ki := (Ki.alloc (.cells #[.int .i64 11, .int .i64 10, .slice (some ⟨gr, 0, none⟩) 10 10] 51))
  replace Km := (Km.alloc (.cells #[.int .i64 11, .int .i64 10, .slice (some ⟨gr, 0, none⟩) 10 10] 51))
  replace Kb := (Kb.alloc (.cells #[.int .i64 11, .int .i64 10, .slice (some ⟨gr, 0, none⟩) 10 10] 51))
  replace Kp := (Kp.alloc (.cells #[.int .i64 11, .int .i64 10, .slice (some ⟨gr, 0, none⟩) 10 10] 51))
  have Kr := (Blk.new w8 51 #[.int .i64 11, .int .i64 10, .slice (some ⟨gr, 0, none⟩) 10 10])
  replace Ki := Ki.below hb Ki.lt
  replace Km := Km.below hb Km.lt
  replace Kb := Kb.below hb Kb.lt
  replace Kp := Kp.below hb Kp.lt
  replace Kr := Kr.below hb Kr.lt
  replace hbw : Below w.heap.size w w9 := btrans hbw hst
  replace HhWh := Lib.hid (HhWh.out.below hst)
  replace HhAl := Lib.hid (HhAl.out.below hst)
  replace HhBk := Lib.hid (HhBk.out.below hst)
  replace HhPt := Lib.hid (HhPt.out.below hst)
  replace HhRr := Lib.hid (HhRr.out.below hst)
  clear hst hst0 hb lKi cKi0 cKi1 cKi2 cKi3 lKm cKm0 cKm1 cKm2 cKm3 cKm4 cKm5 lKb cKb0 cKb1 cKb2 lKp cKp0 cKp1 cKp2 Km
  have HhUu := Lib.hid hUu
  clear hUu
  have lKi := Ki.lt
  have cKi0 := Ki.cell 0
  have cKi1 := Ki.cell 1
  have cKi2 := Ki.cell 2
  have cKi3 := Ki.cell 3
  have lKb := Kb.lt
  have cKb0 := Kb.cell 0
  have cKb1 := Kb.cell 1
  have cKb2 := Kb.cell 2
  have lKp := Kp.lt
  have cKp0 := Kp.cell 0
  have cKp1 := Kp.cell 1
  have cKp2 := Kp.cell 2
  have lKr := Kr.lt
  have cKr0 := Kr.cell 0
  have cKr1 := Kr.cell 1
  have cKr2 := Kr.cell 2
  simp only [List.getElem?_toArray, List.getElem?_cons_succ, List.getElem?_cons_zero] at cKi0 cKi1 cKi2 cKi3 cKb0 cKb1 cKb2 cKp0 cKp1 cKp2 cKr0 cKr1 cKr2
  go_wp2_with fail
  have hst0 : Below w9.heap.size w9 (w9.alloc (.cells #[.int .i64 11, .int .i64 10, .slice (some ⟨gu, 0, none⟩) 10 10] 51)) := by (repeat' (first | exact Below.refl _ _ | exact Below.refl _ _ | refine balloc ?_ _ | refine Below.drew ?_ | refine below_drewN ?_ _ | refine bset ?_ (by first | omega | (simp <;> omega)) _))
  refine (HPU.out _ _ _ _ H255.out H255.out H255.out H255.out _ _ _ _ _ _ _ (HhBk.out.below hst0) (HhRr.out.below hst0)).mono ?_
  rintro e_ w10 ⟨gq, fq, hgq, rfl, hQq, hb⟩
  clear hgq
  have hst : Below w9.heap.size w9 w10 := btrans hst0 hb
  replace Ki := (Ki.alloc (.cells #[.int .i64 11, .int .i64 10, .slice (some ⟨gu, 0, none⟩) 10 10] 51))
  replace Kb := (Kb.alloc (.cells #[.int .i64 11, .int .i64 10, .slice (some ⟨gu, 0, none⟩) 10 10] 51))
  replace Kp := (Kp.alloc (.cells #[.int .i64 11, .int .i64 10, .slice (some ⟨gu, 0, none⟩) 10 10] 51))
  replace Kr := (Kr.alloc (.cells #[.int .i64 11, .int .i64 10, .slice (some ⟨gu, 0, none⟩) 10 10] 51))
  have Ku := (Blk.new w9 51 #[.int .i64 11, .int .i64 10, .slice (some ⟨gu, 0, none⟩) 10 10])
  replace Ki := Ki.below hb Ki.lt
  replace Kb := Kb.below hb Kb.lt
  replace Kp := Kp.below hb Kp.lt
  replace Kr := Kr.below hb Kr.lt
  replace Ku := Ku.below hb Ku.lt
  replace hbw : Below w.heap.size w w10 := btrans hbw hst
  replace HhWh := Lib.hid (HhWh.out.below hst)
  replace HhAl := Lib.hid (HhAl.out.below hst)
  replace HhBk := Lib.hid (HhBk.out.below hst)
  replace HhPt := Lib.hid (HhPt.out.below hst)
  replace HhRr := Lib.hid (HhRr.out.below hst)
  replace HhUu := Lib.hid (HhUu.out.below hst)
  clear hst hst0 hb lKi cKi0 cKi1 cKi2 cKi3 lKb cKb0 cKb1 cKb2 lKp cKp0 cKp1 cKp2 lKr cKr0 cKr1 cKr2
  have HhQq := Lib.hid hQq
  clear hQq
  have lKi := Ki.lt
  have cKi0 := Ki.cell 0
  have cKi1 := Ki.cell 1
  have cKi2 := Ki.cell 2
  have cKi3 := Ki.cell 3
  have lKb := Kb.lt
  have cKb0 := Kb.cell 0
  have cKb1 := Kb.cell 1
  have cKb2 := Kb.cell 2
  have lKp := Kp.lt
  have cKp0 := Kp.cell 0
  have cKp1 := Kp.cell 1
  have cKp2 := Kp.cell 2
  have lKr := Kr.lt
  have cKr0 := Kr.cell 0
  have cKr1 := Kr.cell 1
  have cKr2 := Kr.cell 2
  have lKu := Ku.lt
  have cKu0 := Ku.cell 0
  have cKu1 := Ku.cell 1
  have cKu2 := Ku.cell 2
  simp only [List.getElem?_toArray, List.getElem?_cons_succ, List.getElem?_cons_zero] at cKi0 cKi1 cKi2 cKi3 cKb0 cKb1 cKb2 cKp0 cKp1 cKp2 cKr0 cKr1 cKr2 cKu0 cKu1 cKu2
  go_wp2_with fail
  have hst0 : Below w10.heap.size w10 (w10.alloc (.cells #[.int .i64 11, .int .i64 10, .slice (some ⟨gq, 0, none⟩) N fq] 46)) := by (repeat' (first | exact Below.refl _ _ | exact Below.refl _ _ | refine balloc ?_ _ | refine Below.drew ?_ | refine below_drewN ?_ _ | refine bset ?_ (by first | omega | (simp <;> omega)) _))
  refine (HRS.out _ _ _ _ _ _ _ (HhUu.out.below hst0) (HhRr.out.below hst0) (fun j hj i hi => inks_dif 11 _ (fun j i => HSB.out j i) j i hi)).mono ?_
  rintro e_ w11 ⟨rfl, hb⟩
  have hst : Below w10.heap.size w10 w11 := btrans hst0 hb
  replace Ki := (Ki.alloc (.cells #[.int .i64 11, .int .i64 10, .slice (some ⟨gq, 0, none⟩) N fq] 46))
  replace Kb := (Kb.alloc (.cells #[.int .i64 11, .int .i64 10, .slice (some ⟨gq, 0, none⟩) N fq] 46))
  replace Kp := (Kp.alloc (.cells #[.int .i64 11, .int .i64 10, .slice (some ⟨gq, 0, none⟩) N fq] 46))
  replace Kr := (Kr.alloc (.cells #[.int .i64 11, .int .i64 10, .slice (some ⟨gq, 0, none⟩) N fq] 46))
  replace Ku := (Ku.alloc (.cells #[.int .i64 11, .int .i64 10, .slice (some ⟨gq, 0, none⟩) N fq] 46))
  have Kq := (Blk.new w10 46 #[.int .i64 11, .int .i64 10, .slice (some ⟨gq, 0, none⟩) N fq])
  replace Ki := Ki.below hb Ki.lt
  replace Kb := Kb.below hb Kb.lt
  replace Kp := Kp.below hb Kp.lt
  replace Kr := Kr.below hb Kr.lt
  replace Ku := Ku.below hb Ku.lt
  replace Kq := Kq.below hb Kq.lt
  replace hbw : Below w.heap.size w w11 := btrans hbw hst
  replace HhWh := Lib.hid (HhWh.out.below hst)
  replace HhAl := Lib.hid (HhAl.out.below hst)
  replace HhBk := Lib.hid (HhBk.out.below hst)
  replace HhPt := Lib.hid (HhPt.out.below hst)
  replace HhRr := Lib.hid (HhRr.out.below hst)
  replace HhUu := Lib.hid (HhUu.out.below hst)
  replace HhQq := Lib.hid (HhQq.out.below hst)
  clear hst hst0 hb lKi cKi0 cKi1 cKi2 cKi3 lKb cKb0 cKb1 cKb2 lKp cKp0 cKp1 cKp2 lKr cKr0 cKr1 cKr2 lKu cKu0 cKu1 cKu2 Kb
  have lKi := Ki.lt
  have cKi0 := Ki.cell 0
  have cKi1 := Ki.cell 1
  have cKi2 := Ki.cell 2
  have cKi3 := Ki.cell 3
  have lKp := Kp.lt
  have cKp0 := Kp.cell 0
  have cKp1 := Kp.cell 1
  have cKp2 := Kp.cell 2
  have lKr := Kr.lt
  have cKr0 := Kr.cell 0
  have cKr1 := Kr.cell 1
  have cKr2 := Kr.cell 2
  have lKu := Ku.lt
  have cKu0 := Ku.cell 0
  have cKu1 := Ku.cell 1
  have cKu2 := Ku.cell 2
  have lKq := Kq.lt
  have cKq0 := Kq.cell 0
  have cKq1 := Kq.cell 1
  have cKq2 := Kq.cell 2
  simp only [List.getElem?_toArray, List.getElem?_cons_succ, List.getElem?_cons_zero] at cKi0 cKi1 cKi2 cKi3 cKp0 cKp1 cKp2 cKr0 cKr1 cKr2 cKu0 cKu1 cKu2 cKq0 cKq1 cKq2
  go_wp2_with fail
  have hst0 : Below w11.heap.size w11 w11 := by (repeat' (first | exact Below.refl _ _ | exact Below.refl _ _ | refine balloc ?_ _ | refine Below.drew ?_ | refine below_drewN ?_ _ | refine bset ?_ (by first | omega | (simp <;> omega)) _))
  refine (HPS.out _ _ _ _ _ _ _ (HhPt.out.below hst0) (HhQq.out.below hst0) (fun t ht => inks_px 11 _ (fun j i => HSB.out j i) t)).mono ?_
  rintro e_ w12 ⟨rfl, hb⟩
  have hst : Below w11.heap.size w11 w12 := btrans hst0 hb
  replace Ki := Ki.below hb Ki.lt
  replace Kp := Kp.below hb Kp.lt
  replace Kr := Kr.below hb Kr.lt
  replace Ku := Ku.below hb Ku.lt
  replace Kq := Kq.below hb Kq.lt
  replace hbw : Below w.heap.size w w12 := btrans hbw hst
  replace HhWh := Lib.hid (HhWh.out.below hst)
  replace HhAl := Lib.hid (HhAl.out.below hst)
  replace HhBk := Lib.hid (HhBk.out.below hst)
  replace HhPt := Lib.hid (HhPt.out.below hst)
  replace HhRr := Lib.hid (HhRr.out.below hst)
  replace HhUu := Lib.hid (HhUu.out.below hst)
  replace HhQq := Lib.hid (HhQq.out.below hst)
  clear hst hst0 hb lKi cKi0 cKi1 cKi2 cKi3 lKp cKp0 cKp1 cKp2 lKr cKr0 cKr1 cKr2 lKu cKu0 cKu1 cKu2 lKq cKq0 cKq1 cKq2
  have lKi := Ki.lt
  have cKi0 := Ki.cell 0
  have cKi1 := Ki.cell 1
  have cKi2 := Ki.cell 2
  have cKi3 := Ki.cell 3
  have lKp := Kp.lt
  have cKp0 := Kp.cell 0
  have cKp1 := Kp.cell 1
  have cKp2 := Kp.cell 2
  have lKr := Kr.lt
  have cKr0 := Kr.cell 0
  have cKr1 := Kr.cell 1
  have cKr2 := Kr.cell 2
  have lKu := Ku.lt
  have cKu0 := Ku.cell 0
  have cKu1 := Ku.cell 1
  have cKu2 := Ku.cell 2
  have lKq := Kq.lt
  have cKq0 := Kq.cell 0
  have cKq1 := Kq.cell 1
  have cKq2 := Kq.cell 2
  simp only [List.getElem?_toArray, List.getElem?_cons_succ, List.getElem?_cons_zero] at cKi0 cKi1 cKi2 cKi3 cKp0 cKp1 cKp2 cKr0 cKr1 cKr2 cKu0 cKu1 cKu2 cKq0 cKq1 cKq2
  go_wp2_with fail
  go_ret
  exact ⟨rfl, by (repeat' (first | refine bset ?_ (by first | omega | (simp <;> omega)) _ | refine balloc ?_ _ | refine Below.drew ?_ | refine below_drewN ?_ _ | exact hbw | exact Below.refl _ _))⟩

theorem iinks_law (A : Option Addr) (n c : Nat) (ns : Nat → Int) (a0 a1 a2 a3 a4 a5 : Int) (w : World) (hr : Ints w A n c ns) (hn : n ≤ 9223372036854775807) (_h0 : -9223372036854775808 ≤ a0 ∧ a0 ≤ 9223372036854775807) (_h1 : -9223372036854775808 ≤ a1 ∧ a1 ≤ 9223372036854775807) (_h2 : -9223372036854775808 ≤ a2 ∧ a2 ≤ 9223372036854775807) (_h3 : -9223372036854775808 ≤ a3 ∧ a3 ≤ 9223372036854775807) (_h4 : -9223372036854775808 ≤ a4 ∧ a4 ≤ 9223372036854775807) (_h5 : -9223372036854775808 ≤ a5 ∧ a5 ≤ 9223372036854775807) :
    Calls Try.prog 12 #[.slice A n c, .agg #[.int .i64 a0, .int .i64 a1, .int .i64 a2, .int .i64 a3, .int .i64 a4, .int .i64 a5]] w fun ed w' => ed = .returned (.bool true) ∧ Below w.heap.size w w' := by
  obtain ⟨W, H, B, s, hB, hmay, hW9, hH9, hMd⟩ := made_b A n c ns 0 hn
  have hB1 : B = 1 := by rw [hB]; decide
  subst hB1
  obtain ⟨a, b, c2, d, e, f, hmat, hTu⟩ := turn_b a0 a1 a2 a3 a4 a5
  by_cases hd : a * d - b * c2 = 0
  · exact iinks_zero A n c ns a0 a1 a2 a3 a4 a5 W H a b c2 d e f s w hr (Lib.hid hMd) (Lib.hid hTu) hmay hmat hd
  · exact iinks_yes A n c ns a0 a1 a2 a3 a4 a5 W H a b c2 d e f s w hr (Lib.hid hMd) (Lib.hid hTu) hmay hmat hd
end Go.Proofs.Ytegpjjkbbdfggaa.im
