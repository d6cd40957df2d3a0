/-
  Lemmas for ImageClips: LawIClips.
-/
import Derived.Test.YtegpjjkbbdfggaaImagePartsM5

/-
  ImageClips: an image painted within a region, in two bands, is the painted image inside the region and the page outside.
-/
namespace Go.Proofs.Ytegpjjkbbdfggaa.im
set_option linter.unusedVariables false
set_option linter.unusedSimpArgs false
open Go.RowKit bs op rg

theorem clips_px (w : Nat) (k : Int) (R : Nat → Nat → Bool) (S : Nat → Nat → Int) (G : Int → Int) (Y : Nat → Int) (hw : 1 ≤ w) (t : Nat) (ht : t < 3 * (w * 12)) :
    paintB w (fun j i => decide (k ≤ (j : Int)) && decide ((j : Int) < 12) && R j i) S G (paintB w (fun j i => decide ((0 : Int) ≤ (j : Int)) && decide ((j : Int) < k) && R j i) S G Y) t = layB w R Y (paintB w (fun _ _ => true) S G Y) t := by
  have hq : t / 3 / w < 12 := by rw [Nat.div_lt_iff_lt_mul (by omega), Nat.mul_comm 12 w]; omega
  unfold layB paintB
  generalize t / 3 % w = i at *
  generalize t / 3 / w = j at *
  by_cases hR : R j i = true
  · by_cases hk : (j : Int) < k
    · have h1 : ¬ (k ≤ (j : Int)) := by omega
      by_cases h : 0 ≤ S j i <;> simp [h, hR, h1, hk]
    · have h1 : k ≤ (j : Int) := by omega
      have h2 : (j : Int) < 12 := by omega
      by_cases h : 0 ≤ S j i <;> simp [h, hR, h1, hk, h2]
  · simp [hR]

set_option maxRecDepth 100000 in
set_option maxHeartbeats 6400000 in
theorem iclips_zero (A : Option Addr) (n c : Nat) (ns : Nat → Int) (bits a0 a1 a2 a3 a4 a5 : Int) (A3 : Option Addr) (n3 c3 : Nat) (ns3 : Nat → Int) (A4 : Option Addr) (n4 c4 : Nat) (ns4 : Nat → Int) (at_ : Int) (W H B a b c2 d e f : Int) (s : ByteArray) (w : World) (hr : Ints w A n c ns) (hr3 : Ints w A3 n3 c3 ns3) (hn3 : n3 ≤ 9223372036854775807) (hr4 : Ints w A4 n4 c4 ns4) (hn4 : n4 ≤ 9223372036854775807)
    (HMd : Hid (∀ W', Ints W' A n c ns → Calls Try.prog 23 #[.slice A n c, .int .i64 bits] W' fun ed w' => ed = .returned (.agg #[.int .i64 W, .int .i64 H, .int .i64 B, .string s]) ∧ Below W'.heap.size W' w'))
    (HTu : Hid (∀ W', Calls Try.prog 24 #[.agg #[.int .i64 a0, .int .i64 a1, .int .i64 a2, .int .i64 a3, .int .i64 a4, .int .i64 a5]] W' fun ed w' => ed = .returned (.agg #[.int .i64 a, .int .i64 b, .int .i64 c2, .int .i64 d, .int .i64 e, .int .i64 f]) ∧ Below W'.heap.size W' w'))
    (hmay : mayI W H B s.size = true) (hmat : mt.mayB a b c2 d e f = true) (hd : a * d - b * c2 = 0) :
    Calls Try.prog 9 #[.slice A n c, .int .i64 bits, .agg #[.int .i64 a0, .int .i64 a1, .int .i64 a2, .int .i64 a3, .int .i64 a4, .int .i64 a5], .slice A3 n3 c3, .slice A4 n4 c4, .int .i64 at_] w fun ed w' => ed = .returned (.bool true) ∧ Below w.heap.size w w' := by
  have hs := may_size hmay
  obtain ⟨N, hN⟩ : ∃ N, N = 3 * (9 * 12) := ⟨_, rfl⟩
  have HNP := Lib.hid (show 0 < N by rw [hN]; decide)
  have HPG := Lib.hid (fun W' h => lpage_any A3 n3 c3 ns3 9 12 N W' h hn3 (by decide) (by decide) hN)
  have HM3 := Lib.hid (fun W' h => lmade_any A4 n4 c4 ns4 9 12 W' h hn4 (by decide) (by decide))
  have HAL := Lib.hid (fun W' => rall_any 9 12 W' (by decide) (by decide))
  have HPT := Lib.hid (fun cp dr A D R W' hr => paint_det0 W H B a b c2 d e f s 9 12 N cp dr A D R W' (by decide) (by decide) hN hs hmay hmat hd hr)
  have HI1 := Lib.hid hr
  have HI3 := Lib.hid hr3
  have HI4 := Lib.hid hr4
  clear hs hmay hmat hd hN hr hr3 hr4 hn3 hn4
  go_enter Try.func9, Try.ntmps9
  go_wp2_with fail
  have hst0 : Below w.heap.size w (w.alloc (.cells #[.int .i64 a0, .int .i64 a1, .int .i64 a2, .int .i64 a3, .int .i64 a4, .int .i64 a5] 34)) := by (repeat' (first | exact Below.refl _ _ | exact Below.refl _ _ | refine balloc ?_ _ | refine Below.drew ?_ | refine below_drewN ?_ _ | refine bset ?_ (by first | omega | (simp <;> omega)) _))
  refine (known_any _).mono ?_
  rintro e_ w1 ⟨rfl, hb⟩
  have hst : Below w.heap.size w w1 := btrans hst0 hb
  have Ka := (Blk.new w 34 #[.int .i64 a0, .int .i64 a1, .int .i64 a2, .int .i64 a3, .int .i64 a4, .int .i64 a5])
  replace Ka := Ka.below hb Ka.lt
  have hbw : Below w.heap.size w w1 := hst
  replace HI1 := Lib.hid (HI1.out.below hst)
  replace HI3 := Lib.hid (HI3.out.below hst)
  replace HI4 := Lib.hid (HI4.out.below hst)
  clear hst hst0 hb 
  have lKa := Ka.lt
  have cKa0 := Ka.cell 0
  have cKa1 := Ka.cell 1
  have cKa2 := Ka.cell 2
  have cKa3 := Ka.cell 3
  have cKa4 := Ka.cell 4
  have cKa5 := Ka.cell 5
  simp only [List.getElem?_toArray, List.getElem?_cons_succ, List.getElem?_cons_zero] at cKa0 cKa1 cKa2 cKa3 cKa4 cKa5
  go_wp2_with fail
  refine wp_region_chain4 9 [0, 1, 2, 3, 4, 5, 7] [6, 8] (.cells #[.int .i64 0, .int .i64 0, .int .i64 0, .string ⟨#[]⟩] 23) (.cells #[.int .i64 0, .int .i64 0, .int .i64 0, .int .i64 0, .int .i64 0, .int .i64 0] 25) (.cells #[.int .i64 0, .int .i64 0, .slice none 0 0] 46) (.cells #[.int .i64 0, .int .i64 0, .slice none 0 0] 51) _ _ _ _ (by kernel_rfl) (by kernel_rfl) rfl rfl rfl rfl (fun ρ w => alloc_img2 _ _ _ _ _ ρ w) (fun ρ w => alloc_mat2 _ _ _ _ _ ρ w) (fun ρ w => alloc_page2 _ _ _ _ _ ρ w) (fun ρ w => alloc_reg2 _ _ _ _ _ ρ w) ?_
  intro u0
  have uKa0 : ∀ u : Up u0.val, u.val.cell? ⟨w.heap.size, 0, none⟩ = some (.int .i64 a0) := fun u => ((u.cell (Nat.lt_of_lt_of_le lKa u0.ok.size)).trans (u0.cell lKa)).trans cKa0
  have uKa1 : ∀ u : Up u0.val, u.val.cell? ⟨w.heap.size, 1, none⟩ = some (.int .i64 a1) := fun u => ((u.cell (Nat.lt_of_lt_of_le lKa u0.ok.size)).trans (u0.cell lKa)).trans cKa1
  have uKa2 : ∀ u : Up u0.val, u.val.cell? ⟨w.heap.size, 2, none⟩ = some (.int .i64 a2) := fun u => ((u.cell (Nat.lt_of_lt_of_le lKa u0.ok.size)).trans (u0.cell lKa)).trans cKa2
  have uKa3 : ∀ u : Up u0.val, u.val.cell? ⟨w.heap.size, 3, none⟩ = some (.int .i64 a3) := fun u => ((u.cell (Nat.lt_of_lt_of_le lKa u0.ok.size)).trans (u0.cell lKa)).trans cKa3
  have uKa4 : ∀ u : Up u0.val, u.val.cell? ⟨w.heap.size, 4, none⟩ = some (.int .i64 a4) := fun u => ((u.cell (Nat.lt_of_lt_of_le lKa u0.ok.size)).trans (u0.cell lKa)).trans cKa4
  have uKa5 : ∀ u : Up u0.val, u.val.cell? ⟨w.heap.size, 5, none⟩ = some (.int .i64 a5) := fun u => ((u.cell (Nat.lt_of_lt_of_le lKa u0.ok.size)).trans (u0.cell lKa)).trans cKa5
  have HU1 := Lib.hid (fun u : Up u0.val => up_of (u := u) (HMd.out u.val (HI1.out.below (btrans u0.ok u.ok))))
  have HU2 := Lib.hid (fun u : Up u0.val => up_of (u := u) (HTu.out u.val))
  change wpQuiet _ _ _ _ (_ :: _ :: _ :: _ :: _ :: _ :: _ :: []) _
  unfold upC
  simp only [List.getElem_toArray, List.getElem_cons_succ, List.getElem_cons_zero]
  repeat (go_big_quiet_step (fail))
  go_big_quiet_step (exact HU1.out _)
  repeat (go_big_quiet_step (fail))
  go_big_quiet_step (exact HU2.out _)
  repeat (go_big_quiet_step (fail))
  refine wpQuiet_nil ?_
  clear HU1 HU2 uKa0 uKa1 uKa2 uKa3 uKa4 uKa5 u0 HMd HTu lKa cKa0 cKa1 cKa2 cKa3 cKa4 cKa5 Ka
  refine fun V1 hV1 => ?_
  refine stepV_of _ 28 #[.slice A3 n3 c3, .int .i64 9, .int .i64 12] rfl (by kernel_rfl) (by kernel_rfl) ?_
  refine (HPG.out V1 (HI3.out.below hV1)).mono ?_
  rintro e_ V2 ⟨gp, Y, rfl, hP, hb2⟩
  refine ⟨_, rfl, hb2, ?_⟩
  refine fun V3 hV3 => ?_
  refine stepV_of _ 46 #[.slice A4 n4 c4, .int .i64 9, .int .i64 12] rfl (by kernel_rfl) (by kernel_rfl) ?_
  refine (HM3.out V3 (HI4.out.below (btrans (btrans hV1 hb2) hV3))).mono ?_
  rintro e_ V4 ⟨D1, d1, R, rfl, hR, hb4⟩
  refine ⟨_, rfl, hb4, ?_⟩
  refine fun w3 hV5 Pi Pm Pp Pr ⟨hi0, hi1, Ki⟩ ⟨hm0, hm1, Km⟩ ⟨hp0, hp1, Kp⟩ ⟨hr0, hr1, Kr⟩ ⟨⟨n1, n2, n3⟩, ⟨n4, n5⟩, n6⟩ => ?_
  have HhP := Lib.hid (hP.below (btrans (btrans hV3 hb4) hV5))
  have HhR := Lib.hid (hR.below hV5)
  have hst := btrans (btrans (btrans hV1 hb2) (btrans hV3 hb4)) hV5
  have hs0 := hbw.size
  replace hbw := btrans hbw hst
  clear hP hR hV1 hb2 hV3 hb4 hst hV5
  replace Ki : Blk w3 Pi 23 #[.int .i64 0, .int .i64 0, .int .i64 0, .string ⟨#[]⟩] := Ki
  replace Km : Blk w3 Pm 25 #[.int .i64 0, .int .i64 0, .int .i64 0, .int .i64 0, .int .i64 0, .int .i64 0] := Km
  replace Kp : Blk w3 Pp 46 #[.int .i64 0, .int .i64 0, .slice none 0 0] := Kp
  replace Kr : Blk w3 Pr 51 #[.int .i64 0, .int .i64 0, .slice none 0 0] := Kr
  simp only [Act.put, List.setIfInBounds_toArray, List.set_cons_zero, List.set_cons_succ, List.drop_succ_cons, List.drop_zero]
  have cKi0 := Ki.cell 0
  have fKi0 := Ki.frozen 0
  have cKi1 := Ki.cell 1
  have fKi1 := Ki.frozen 1
  have cKi2 := Ki.cell 2
  have fKi2 := Ki.frozen 2
  have cKi3 := Ki.cell 3
  have fKi3 := Ki.frozen 3
  have cKm0 := Km.cell 0
  have fKm0 := Km.frozen 0
  have cKm1 := Km.cell 1
  have fKm1 := Km.frozen 1
  have cKm2 := Km.cell 2
  have fKm2 := Km.frozen 2
  have cKm3 := Km.cell 3
  have fKm3 := Km.frozen 3
  have cKm4 := Km.cell 4
  have fKm4 := Km.frozen 4
  have cKm5 := Km.cell 5
  have fKm5 := Km.frozen 5
  have cKp0 := Kp.cell 0
  have fKp0 := Kp.frozen 0
  have cKp1 := Kp.cell 1
  have fKp1 := Kp.frozen 1
  have cKp2 := Kp.cell 2
  have fKp2 := Kp.frozen 2
  have cKr0 := Kr.cell 0
  have fKr0 := Kr.frozen 0
  have cKr1 := Kr.cell 1
  have fKr1 := Kr.frozen 1
  have cKr2 := Kr.cell 2
  have fKr2 := Kr.frozen 2
  simp only [List.getElem?_toArray, List.getElem?_cons_succ, List.getElem?_cons_zero] at cKi0 cKi1 cKi2 cKi3 cKm0 cKm1 cKm2 cKm3 cKm4 cKm5 cKp0 cKp1 cKp2 cKr0 cKr1 cKr2
  have HZR := Lib.hid (show ∀ b, (b = Pi ∨ b = Pm ∨ b = Pp ∨ b = Pr) → Zero w3 b by
    rintro b (rfl | rfl | rfl | rfl)
    · exact Zero.blk Ki zero_img
    · exact Zero.blk Km zero_mat
    · exact Zero.blk Kp zero_page
    · exact Zero.blk Kr zero_page)
  refine wpList_stop fun Kx HKx => ?_
  go_wp2_with fail
  replace Ki : Blk _ Pi 23 #[.int .i64 W, .int .i64 H, .int .i64 B, .string s] := blk_cast ((((((((((((((((Ki.set_ 0 (.int .i64 W)).set_ 1 (.int .i64 H)).set_ 2 (.int .i64 B)).set_ 3 (.string s)).far (p := ⟨Pm, 0, none⟩) n1 (.int .i64 a)).far (p := ⟨Pm, 1, none⟩) n1 (.int .i64 b)).far (p := ⟨Pm, 2, none⟩) n1 (.int .i64 c2)).far (p := ⟨Pm, 3, none⟩) n1 (.int .i64 d)).far (p := ⟨Pm, 4, none⟩) n1 (.int .i64 e)).far (p := ⟨Pm, 5, none⟩) n1 (.int .i64 f)).far (p := ⟨Pp, 0, none⟩) n2 (.int .i64 9)).far (p := ⟨Pp, 1, none⟩) n2 (.int .i64 12)).far (p := ⟨Pp, 2, none⟩) n2 (.slice (some ⟨gp, 0, none⟩) N N)).far (p := ⟨Pr, 0, none⟩) n3 (.int .i64 9)).far (p := ⟨Pr, 1, none⟩) n3 (.int .i64 12)).far (p := ⟨Pr, 2, none⟩) n3 (.slice D1 12 d1)) (by kernel_rfl)
  replace Km : Blk _ Pm 25 #[.int .i64 a, .int .i64 b, .int .i64 c2, .int .i64 d, .int .i64 e, .int .i64 f] := blk_cast ((((((((((((((((Km.far (p := ⟨Pi, 0, none⟩) n1.symm (.int .i64 W)).far (p := ⟨Pi, 1, none⟩) n1.symm (.int .i64 H)).far (p := ⟨Pi, 2, none⟩) n1.symm (.int .i64 B)).far (p := ⟨Pi, 3, none⟩) n1.symm (.string s)).set_ 0 (.int .i64 a)).set_ 1 (.int .i64 b)).set_ 2 (.int .i64 c2)).set_ 3 (.int .i64 d)).set_ 4 (.int .i64 e)).set_ 5 (.int .i64 f)).far (p := ⟨Pp, 0, none⟩) n4 (.int .i64 9)).far (p := ⟨Pp, 1, none⟩) n4 (.int .i64 12)).far (p := ⟨Pp, 2, none⟩) n4 (.slice (some ⟨gp, 0, none⟩) N N)).far (p := ⟨Pr, 0, none⟩) n5 (.int .i64 9)).far (p := ⟨Pr, 1, none⟩) n5 (.int .i64 12)).far (p := ⟨Pr, 2, none⟩) n5 (.slice D1 12 d1)) (by kernel_rfl)
  replace Kp : Blk _ Pp 46 #[.int .i64 9, .int .i64 12, .slice (some ⟨gp, 0, none⟩) N N] := blk_cast ((((((((((((((((Kp.far (p := ⟨Pi, 0, none⟩) n2.symm (.int .i64 W)).far (p := ⟨Pi, 1, none⟩) n2.symm (.int .i64 H)).far (p := ⟨Pi, 2, none⟩) n2.symm (.int .i64 B)).far (p := ⟨Pi, 3, none⟩) n2.symm (.string s)).far (p := ⟨Pm, 0, none⟩) n4.symm (.int .i64 a)).far (p := ⟨Pm, 1, none⟩) n4.symm (.int .i64 b)).far (p := ⟨Pm, 2, none⟩) n4.symm (.int .i64 c2)).far (p := ⟨Pm, 3, none⟩) n4.symm (.int .i64 d)).far (p := ⟨Pm, 4, none⟩) n4.symm (.int .i64 e)).far (p := ⟨Pm, 5, none⟩) n4.symm (.int .i64 f)).set_ 0 (.int .i64 9)).set_ 1 (.int .i64 12)).set_ 2 (.slice (some ⟨gp, 0, none⟩) N N)).far (p := ⟨Pr, 0, none⟩) n6 (.int .i64 9)).far (p := ⟨Pr, 1, none⟩) n6 (.int .i64 12)).far (p := ⟨Pr, 2, none⟩) n6 (.slice D1 12 d1)) (by kernel_rfl)
  replace Kr : Blk _ Pr 51 #[.int .i64 9, .int .i64 12, .slice D1 12 d1] := blk_cast ((((((((((((((((Kr.far (p := ⟨Pi, 0, none⟩) n3.symm (.int .i64 W)).far (p := ⟨Pi, 1, none⟩) n3.symm (.int .i64 H)).far (p := ⟨Pi, 2, none⟩) n3.symm (.int .i64 B)).far (p := ⟨Pi, 3, none⟩) n3.symm (.string s)).far (p := ⟨Pm, 0, none⟩) n5.symm (.int .i64 a)).far (p := ⟨Pm, 1, none⟩) n5.symm (.int .i64 b)).far (p := ⟨Pm, 2, none⟩) n5.symm (.int .i64 c2)).far (p := ⟨Pm, 3, none⟩) n5.symm (.int .i64 d)).far (p := ⟨Pm, 4, none⟩) n5.symm (.int .i64 e)).far (p := ⟨Pm, 5, none⟩) n5.symm (.int .i64 f)).far (p := ⟨Pp, 0, none⟩) n6.symm (.int .i64 9)).far (p := ⟨Pp, 1, none⟩) n6.symm (.int .i64 12)).far (p := ⟨Pp, 2, none⟩) n6.symm (.slice (some ⟨gp, 0, none⟩) N N)).set_ 0 (.int .i64 9)).set_ 1 (.int .i64 12)).set_ 2 (.slice D1 12 d1)) (by kernel_rfl)
  have hqPi : w.heap.size ≤ Pi := by omega
  have hqPm : w.heap.size ≤ Pm := by omega
  have hqPp : w.heap.size ≤ Pp := by omega
  have hqPr : w.heap.size ≤ Pr := by omega
  have hsz : ((((((((((((((((w3.setCell ⟨Pi, 0, none⟩ (.int .i64 W)).setCell ⟨Pi, 1, none⟩ (.int .i64 H)).setCell ⟨Pi, 2, none⟩ (.int .i64 B)).setCell ⟨Pi, 3, none⟩ (.string s)).setCell ⟨Pm, 0, none⟩ (.int .i64 a)).setCell ⟨Pm, 1, none⟩ (.int .i64 b)).setCell ⟨Pm, 2, none⟩ (.int .i64 c2)).setCell ⟨Pm, 3, none⟩ (.int .i64 d)).setCell ⟨Pm, 4, none⟩ (.int .i64 e)).setCell ⟨Pm, 5, none⟩ (.int .i64 f)).setCell ⟨Pp, 0, none⟩ (.int .i64 9)).setCell ⟨Pp, 1, none⟩ (.int .i64 12)).setCell ⟨Pp, 2, none⟩ (.slice (some ⟨gp, 0, none⟩) N N)).setCell ⟨Pr, 0, none⟩ (.int .i64 9)).setCell ⟨Pr, 1, none⟩ (.int .i64 12)).setCell ⟨Pr, 2, none⟩ (.slice D1 12 d1)).heap.size = w3.heap.size := by simp only [World.size_setCell]
  have hag : ∀ bq, ¬ (bq = Pi ∨ bq = Pm ∨ bq = Pp ∨ bq = Pr) → ∀ o, ((((((((((((((((w3.setCell ⟨Pi, 0, none⟩ (.int .i64 W)).setCell ⟨Pi, 1, none⟩ (.int .i64 H)).setCell ⟨Pi, 2, none⟩ (.int .i64 B)).setCell ⟨Pi, 3, none⟩ (.string s)).setCell ⟨Pm, 0, none⟩ (.int .i64 a)).setCell ⟨Pm, 1, none⟩ (.int .i64 b)).setCell ⟨Pm, 2, none⟩ (.int .i64 c2)).setCell ⟨Pm, 3, none⟩ (.int .i64 d)).setCell ⟨Pm, 4, none⟩ (.int .i64 e)).setCell ⟨Pm, 5, none⟩ (.int .i64 f)).setCell ⟨Pp, 0, none⟩ (.int .i64 9)).setCell ⟨Pp, 1, none⟩ (.int .i64 12)).setCell ⟨Pp, 2, none⟩ (.slice (some ⟨gp, 0, none⟩) N N)).setCell ⟨Pr, 0, none⟩ (.int .i64 9)).setCell ⟨Pr, 1, none⟩ (.int .i64 12)).setCell ⟨Pr, 2, none⟩ (.slice D1 12 d1)).cell? ⟨bq, o, none⟩ = w3.cell? ⟨bq, o, none⟩ := fun bq hb o => by
    have hbPi : Pi ≠ bq := fun e => hb (.inl e.symm)
    have hbPm : Pm ≠ bq := fun e => hb (.inr (.inl e.symm))
    have hbPp : Pp ≠ bq := fun e => hb (.inr (.inr (.inl e.symm)))
    have hbPr : Pr ≠ bq := fun e => hb (.inr (.inr (.inr e.symm)))
    exact (World.cell?_setCell_far _ ⟨Pr, 2, none⟩ ⟨bq, o, none⟩ _ hbPr).trans ((World.cell?_setCell_far _ ⟨Pr, 1, none⟩ ⟨bq, o, none⟩ _ hbPr).trans ((World.cell?_setCell_far _ ⟨Pr, 0, none⟩ ⟨bq, o, none⟩ _ hbPr).trans ((World.cell?_setCell_far _ ⟨Pp, 2, none⟩ ⟨bq, o, none⟩ _ hbPp).trans ((World.cell?_setCell_far _ ⟨Pp, 1, none⟩ ⟨bq, o, none⟩ _ hbPp).trans ((World.cell?_setCell_far _ ⟨Pp, 0, none⟩ ⟨bq, o, none⟩ _ hbPp).trans ((World.cell?_setCell_far _ ⟨Pm, 5, none⟩ ⟨bq, o, none⟩ _ hbPm).trans ((World.cell?_setCell_far _ ⟨Pm, 4, none⟩ ⟨bq, o, none⟩ _ hbPm).trans ((World.cell?_setCell_far _ ⟨Pm, 3, none⟩ ⟨bq, o, none⟩ _ hbPm).trans ((World.cell?_setCell_far _ ⟨Pm, 2, none⟩ ⟨bq, o, none⟩ _ hbPm).trans ((World.cell?_setCell_far _ ⟨Pm, 1, none⟩ ⟨bq, o, none⟩ _ hbPm).trans ((World.cell?_setCell_far _ ⟨Pm, 0, none⟩ ⟨bq, o, none⟩ _ hbPm).trans ((World.cell?_setCell_far _ ⟨Pi, 3, none⟩ ⟨bq, o, none⟩ _ hbPi).trans ((World.cell?_setCell_far _ ⟨Pi, 2, none⟩ ⟨bq, o, none⟩ _ hbPi).trans ((World.cell?_setCell_far _ ⟨Pi, 1, none⟩ ⟨bq, o, none⟩ _ hbPi).trans (World.cell?_setCell_far _ ⟨Pi, 0, none⟩ ⟨bq, o, none⟩ _ hbPi)))))))))))))))
  replace hbw : Below w.heap.size w ((((((((((((((((w3.setCell ⟨Pi, 0, none⟩ (.int .i64 W)).setCell ⟨Pi, 1, none⟩ (.int .i64 H)).setCell ⟨Pi, 2, none⟩ (.int .i64 B)).setCell ⟨Pi, 3, none⟩ (.string s)).setCell ⟨Pm, 0, none⟩ (.int .i64 a)).setCell ⟨Pm, 1, none⟩ (.int .i64 b)).setCell ⟨Pm, 2, none⟩ (.int .i64 c2)).setCell ⟨Pm, 3, none⟩ (.int .i64 d)).setCell ⟨Pm, 4, none⟩ (.int .i64 e)).setCell ⟨Pm, 5, none⟩ (.int .i64 f)).setCell ⟨Pp, 0, none⟩ (.int .i64 9)).setCell ⟨Pp, 1, none⟩ (.int .i64 12)).setCell ⟨Pp, 2, none⟩ (.slice (some ⟨gp, 0, none⟩) N N)).setCell ⟨Pr, 0, none⟩ (.int .i64 9)).setCell ⟨Pr, 1, none⟩ (.int .i64 12)).setCell ⟨Pr, 2, none⟩ (.slice D1 12 d1)) := (bset (bset (bset (bset (bset (bset (bset (bset (bset (bset (bset (bset (bset (bset (bset (bset hbw hqPi _) hqPi _) hqPi _) hqPi _) hqPm _) hqPm _) hqPm _) hqPm _) hqPm _) hqPm _) hqPp _) hqPp _) hqPp _) hqPr _) hqPr _) hqPr _)
  have hex : Blk ((((((((((((((((w3.setCell ⟨Pi, 0, none⟩ (.int .i64 W)).setCell ⟨Pi, 1, none⟩ (.int .i64 H)).setCell ⟨Pi, 2, none⟩ (.int .i64 B)).setCell ⟨Pi, 3, none⟩ (.string s)).setCell ⟨Pm, 0, none⟩ (.int .i64 a)).setCell ⟨Pm, 1, none⟩ (.int .i64 b)).setCell ⟨Pm, 2, none⟩ (.int .i64 c2)).setCell ⟨Pm, 3, none⟩ (.int .i64 d)).setCell ⟨Pm, 4, none⟩ (.int .i64 e)).setCell ⟨Pm, 5, none⟩ (.int .i64 f)).setCell ⟨Pp, 0, none⟩ (.int .i64 9)).setCell ⟨Pp, 1, none⟩ (.int .i64 12)).setCell ⟨Pp, 2, none⟩ (.slice (some ⟨gp, 0, none⟩) N N)).setCell ⟨Pr, 0, none⟩ (.int .i64 9)).setCell ⟨Pr, 1, none⟩ (.int .i64 12)).setCell ⟨Pr, 2, none⟩ (.slice D1 12 d1)) Pi 23 #[.int .i64 W, .int .i64 H, .int .i64 B, .string s] ∧ Blk ((((((((((((((((w3.setCell ⟨Pi, 0, none⟩ (.int .i64 W)).setCell ⟨Pi, 1, none⟩ (.int .i64 H)).setCell ⟨Pi, 2, none⟩ (.int .i64 B)).setCell ⟨Pi, 3, none⟩ (.string s)).setCell ⟨Pm, 0, none⟩ (.int .i64 a)).setCell ⟨Pm, 1, none⟩ (.int .i64 b)).setCell ⟨Pm, 2, none⟩ (.int .i64 c2)).setCell ⟨Pm, 3, none⟩ (.int .i64 d)).setCell ⟨Pm, 4, none⟩ (.int .i64 e)).setCell ⟨Pm, 5, none⟩ (.int .i64 f)).setCell ⟨Pp, 0, none⟩ (.int .i64 9)).setCell ⟨Pp, 1, none⟩ (.int .i64 12)).setCell ⟨Pp, 2, none⟩ (.slice (some ⟨gp, 0, none⟩) N N)).setCell ⟨Pr, 0, none⟩ (.int .i64 9)).setCell ⟨Pr, 1, none⟩ (.int .i64 12)).setCell ⟨Pr, 2, none⟩ (.slice D1 12 d1)) Pm 25 #[.int .i64 a, .int .i64 b, .int .i64 c2, .int .i64 d, .int .i64 e, .int .i64 f] ∧ Blk ((((((((((((((((w3.setCell ⟨Pi, 0, none⟩ (.int .i64 W)).setCell ⟨Pi, 1, none⟩ (.int .i64 H)).setCell ⟨Pi, 2, none⟩ (.int .i64 B)).setCell ⟨Pi, 3, none⟩ (.string s)).setCell ⟨Pm, 0, none⟩ (.int .i64 a)).setCell ⟨Pm, 1, none⟩ (.int .i64 b)).setCell ⟨Pm, 2, none⟩ (.int .i64 c2)).setCell ⟨Pm, 3, none⟩ (.int .i64 d)).setCell ⟨Pm, 4, none⟩ (.int .i64 e)).setCell ⟨Pm, 5, none⟩ (.int .i64 f)).setCell ⟨Pp, 0, none⟩ (.int .i64 9)).setCell ⟨Pp, 1, none⟩ (.int .i64 12)).setCell ⟨Pp, 2, none⟩ (.slice (some ⟨gp, 0, none⟩) N N)).setCell ⟨Pr, 0, none⟩ (.int .i64 9)).setCell ⟨Pr, 1, none⟩ (.int .i64 12)).setCell ⟨Pr, 2, none⟩ (.slice D1 12 d1)) Pp 46 #[.int .i64 9, .int .i64 12, .slice (some ⟨gp, 0, none⟩) N N] ∧ Blk ((((((((((((((((w3.setCell ⟨Pi, 0, none⟩ (.int .i64 W)).setCell ⟨Pi, 1, none⟩ (.int .i64 H)).setCell ⟨Pi, 2, none⟩ (.int .i64 B)).setCell ⟨Pi, 3, none⟩ (.string s)).setCell ⟨Pm, 0, none⟩ (.int .i64 a)).setCell ⟨Pm, 1, none⟩ (.int .i64 b)).setCell ⟨Pm, 2, none⟩ (.int .i64 c2)).setCell ⟨Pm, 3, none⟩ (.int .i64 d)).setCell ⟨Pm, 4, none⟩ (.int .i64 e)).setCell ⟨Pm, 5, none⟩ (.int .i64 f)).setCell ⟨Pp, 0, none⟩ (.int .i64 9)).setCell ⟨Pp, 1, none⟩ (.int .i64 12)).setCell ⟨Pp, 2, none⟩ (.slice (some ⟨gp, 0, none⟩) N N)).setCell ⟨Pr, 0, none⟩ (.int .i64 9)).setCell ⟨Pr, 1, none⟩ (.int .i64 12)).setCell ⟨Pr, 2, none⟩ (.slice D1 12 d1)) Pr 51 #[.int .i64 9, .int .i64 12, .slice D1 12 d1] ∧ Below w.heap.size w ((((((((((((((((w3.setCell ⟨Pi, 0, none⟩ (.int .i64 W)).setCell ⟨Pi, 1, none⟩ (.int .i64 H)).setCell ⟨Pi, 2, none⟩ (.int .i64 B)).setCell ⟨Pi, 3, none⟩ (.string s)).setCell ⟨Pm, 0, none⟩ (.int .i64 a)).setCell ⟨Pm, 1, none⟩ (.int .i64 b)).setCell ⟨Pm, 2, none⟩ (.int .i64 c2)).setCell ⟨Pm, 3, none⟩ (.int .i64 d)).setCell ⟨Pm, 4, none⟩ (.int .i64 e)).setCell ⟨Pm, 5, none⟩ (.int .i64 f)).setCell ⟨Pp, 0, none⟩ (.int .i64 9)).setCell ⟨Pp, 1, none⟩ (.int .i64 12)).setCell ⟨Pp, 2, none⟩ (.slice (some ⟨gp, 0, none⟩) N N)).setCell ⟨Pr, 0, none⟩ (.int .i64 9)).setCell ⟨Pr, 1, none⟩ (.int .i64 12)).setCell ⟨Pr, 2, none⟩ (.slice D1 12 d1)) ∧ ((((((((((((((((w3.setCell ⟨Pi, 0, none⟩ (.int .i64 W)).setCell ⟨Pi, 1, none⟩ (.int .i64 H)).setCell ⟨Pi, 2, none⟩ (.int .i64 B)).setCell ⟨Pi, 3, none⟩ (.string s)).setCell ⟨Pm, 0, none⟩ (.int .i64 a)).setCell ⟨Pm, 1, none⟩ (.int .i64 b)).setCell ⟨Pm, 2, none⟩ (.int .i64 c2)).setCell ⟨Pm, 3, none⟩ (.int .i64 d)).setCell ⟨Pm, 4, none⟩ (.int .i64 e)).setCell ⟨Pm, 5, none⟩ (.int .i64 f)).setCell ⟨Pp, 0, none⟩ (.int .i64 9)).setCell ⟨Pp, 1, none⟩ (.int .i64 12)).setCell ⟨Pp, 2, none⟩ (.slice (some ⟨gp, 0, none⟩) N N)).setCell ⟨Pr, 0, none⟩ (.int .i64 9)).setCell ⟨Pr, 1, none⟩ (.int .i64 12)).setCell ⟨Pr, 2, none⟩ (.slice D1 12 d1)).heap.size = w3.heap.size ∧ (∀ bq, ¬ (bq = Pi ∨ bq = Pm ∨ bq = Pp ∨ bq = Pr) → ∀ o, ((((((((((((((((w3.setCell ⟨Pi, 0, none⟩ (.int .i64 W)).setCell ⟨Pi, 1, none⟩ (.int .i64 H)).setCell ⟨Pi, 2, none⟩ (.int .i64 B)).setCell ⟨Pi, 3, none⟩ (.string s)).setCell ⟨Pm, 0, none⟩ (.int .i64 a)).setCell ⟨Pm, 1, none⟩ (.int .i64 b)).setCell ⟨Pm, 2, none⟩ (.int .i64 c2)).setCell ⟨Pm, 3, none⟩ (.int .i64 d)).setCell ⟨Pm, 4, none⟩ (.int .i64 e)).setCell ⟨Pm, 5, none⟩ (.int .i64 f)).setCell ⟨Pp, 0, none⟩ (.int .i64 9)).setCell ⟨Pp, 1, none⟩ (.int .i64 12)).setCell ⟨Pp, 2, none⟩ (.slice (some ⟨gp, 0, none⟩) N N)).setCell ⟨Pr, 0, none⟩ (.int .i64 9)).setCell ⟨Pr, 1, none⟩ (.int .i64 12)).setCell ⟨Pr, 2, none⟩ (.slice D1 12 d1)).cell? ⟨bq, o, none⟩ = w3.cell? ⟨bq, o, none⟩) := ⟨Ki, Km, Kp, Kr, hbw, hsz, hag⟩
  clear Ki Km Kp Kr hbw hsz hag
  refine HKx.out _ _ ?_
  clear HKx Kx
  revert hex
  generalize hwx : ((((((((((((((((w3.setCell ⟨Pi, 0, none⟩ (.int .i64 W)).setCell ⟨Pi, 1, none⟩ (.int .i64 H)).setCell ⟨Pi, 2, none⟩ (.int .i64 B)).setCell ⟨Pi, 3, none⟩ (.string s)).setCell ⟨Pm, 0, none⟩ (.int .i64 a)).setCell ⟨Pm, 1, none⟩ (.int .i64 b)).setCell ⟨Pm, 2, none⟩ (.int .i64 c2)).setCell ⟨Pm, 3, none⟩ (.int .i64 d)).setCell ⟨Pm, 4, none⟩ (.int .i64 e)).setCell ⟨Pm, 5, none⟩ (.int .i64 f)).setCell ⟨Pp, 0, none⟩ (.int .i64 9)).setCell ⟨Pp, 1, none⟩ (.int .i64 12)).setCell ⟨Pp, 2, none⟩ (.slice (some ⟨gp, 0, none⟩) N N)).setCell ⟨Pr, 0, none⟩ (.int .i64 9)).setCell ⟨Pr, 1, none⟩ (.int .i64 12)).setCell ⟨Pr, 2, none⟩ (.slice D1 12 d1)) = w4
  intro hex
  clear hwx
  obtain ⟨Ki, Km, Kp, Kr, hbw, hsz, hag⟩ := hex
  have hP := Pg.agree HhP.out HNP.out (fun b => b = Pi ∨ b = Pm ∨ b = Pp ∨ b = Pr) HZR.out hsz hag
  have hR := Rows.agree HhR.out (by decide) (fun b => b = Pi ∨ b = Pm ∨ b = Pp ∨ b = Pr) HZR.out hsz hag
  clear hsz hag HhP HhR HZR
  clear cKi0 fKi0 cKi1 fKi1 cKi2 fKi2 cKi3 fKi3 cKm0 fKm0 cKm1 fKm1 cKm2 fKm2 cKm3 fKm3 cKm4 fKm4 cKm5 fKm5 cKp0 fKp0 cKp1 fKp1 cKp2 fKp2 cKr0 fKr0 cKr1 fKr1 cKr2 fKr2 hs0 hi0 hi1 hm0 hm1 hp0 hp1 hr0 hr1
  have HhP := Lib.hid hP
  clear hP
  have HhR := Lib.hid hR
  clear hR
  have lKi := Ki.lt
  have cKi0 := Ki.cell 0
  have cKi1 := Ki.cell 1
  have cKi2 := Ki.cell 2
  have cKi3 := Ki.cell 3
  have lKm := Km.lt
  have cKm0 := Km.cell 0
  have cKm1 := Km.cell 1
  have cKm2 := Km.cell 2
  have cKm3 := Km.cell 3
  have cKm4 := Km.cell 4
  have cKm5 := Km.cell 5
  have lKp := Kp.lt
  have cKp0 := Kp.cell 0
  have cKp1 := Kp.cell 1
  have cKp2 := Kp.cell 2
  have lKr := Kr.lt
  have cKr0 := Kr.cell 0
  have cKr1 := Kr.cell 1
  have cKr2 := Kr.cell 2
  simp only [List.getElem?_toArray, List.getElem?_cons_succ, List.getElem?_cons_zero] at cKi0 cKi1 cKi2 cKi3 cKm0 cKm1 cKm2 cKm3 cKm4 cKm5 cKp0 cKp1 cKp2 cKr0 cKr1 cKr2
  clear HI1 HI3 HI4
  go_wp2_with fail
  have hst0 : Below w4.heap.size w4 w4 := by (repeat' (first | exact Below.refl _ _ | exact Below.refl _ _ | refine balloc ?_ _ | refine Below.drew ?_ | refine below_drewN ?_ _ | refine bset ?_ (by first | omega | (simp <;> omega)) _))
  refine (HAL.out _).mono ?_
  rintro e_ w5 ⟨gA, hgA, rfl, hAl, hb⟩
  clear hgA
  have hst : Below w4.heap.size w4 w5 := btrans hst0 hb
  replace Ki := Ki.below hb Ki.lt
  replace Km := Km.below hb Km.lt
  replace Kp := Kp.below hb Kp.lt
  replace Kr := Kr.below hb Kr.lt
  replace hbw : Below w.heap.size w w5 := btrans hbw hst
  replace HhP := Lib.hid (HhP.out.below hst)
  replace HhR := Lib.hid (HhR.out.below hst)
  clear hst hst0 hb lKi cKi0 cKi1 cKi2 cKi3 lKm cKm0 cKm1 cKm2 cKm3 cKm4 cKm5 lKp cKp0 cKp1 cKp2 lKr cKr0 cKr1 cKr2
  have HhAl := Lib.hid hAl
  clear hAl
  have lKi := Ki.lt
  have cKi0 := Ki.cell 0
  have cKi1 := Ki.cell 1
  have cKi2 := Ki.cell 2
  have cKi3 := Ki.cell 3
  have lKm := Km.lt
  have cKm0 := Km.cell 0
  have cKm1 := Km.cell 1
  have cKm2 := Km.cell 2
  have cKm3 := Km.cell 3
  have cKm4 := Km.cell 4
  have cKm5 := Km.cell 5
  have lKp := Kp.lt
  have cKp0 := Kp.cell 0
  have cKp1 := Kp.cell 1
  have cKp2 := Kp.cell 2
  have lKr := Kr.lt
  have cKr0 := Kr.cell 0
  have cKr1 := Kr.cell 1
  have cKr2 := Kr.cell 2
  simp only [List.getElem?_toArray, List.getElem?_cons_succ, List.getElem?_cons_zero] at cKi0 cKi1 cKi2 cKi3 cKm0 cKm1 cKm2 cKm3 cKm4 cKm5 cKp0 cKp1 cKp2 cKr0 cKr1 cKr2
  go_wp2_with fail
  have hst0 : Below w5.heap.size w5 (w5.alloc (.cells #[.int .i64 9, .int .i64 12, .slice (some ⟨gA, 0, none⟩) 12 12] 51)) := by (repeat' (first | exact Below.refl _ _ | exact Below.refl _ _ | refine balloc ?_ _ | refine Below.drew ?_ | refine below_drewN ?_ _ | refine bset ?_ (by first | omega | (simp <;> omega)) _))
  refine (HPT.out _ _ _ _ _ _ (HhAl.out.below hst0)).mono ?_
  rintro e_ w6 ⟨rfl, hb⟩
  have hst : Below w5.heap.size w5 w6 := btrans hst0 hb
  replace Ki := (Ki.alloc (.cells #[.int .i64 9, .int .i64 12, .slice (some ⟨gA, 0, none⟩) 12 12] 51))
  replace Km := (Km.alloc (.cells #[.int .i64 9, .int .i64 12, .slice (some ⟨gA, 0, none⟩) 12 12] 51))
  replace Kp := (Kp.alloc (.cells #[.int .i64 9, .int .i64 12, .slice (some ⟨gA, 0, none⟩) 12 12] 51))
  replace Kr := (Kr.alloc (.cells #[.int .i64 9, .int .i64 12, .slice (some ⟨gA, 0, none⟩) 12 12] 51))
  have KA := (Blk.new w5 51 #[.int .i64 9, .int .i64 12, .slice (some ⟨gA, 0, none⟩) 12 12])
  replace Ki := Ki.below hb Ki.lt
  replace Km := Km.below hb Km.lt
  replace Kp := Kp.below hb Kp.lt
  replace Kr := Kr.below hb Kr.lt
  replace KA := KA.below hb KA.lt
  replace hbw : Below w.heap.size w w6 := btrans hbw hst
  replace HhP := Lib.hid (HhP.out.below hst)
  replace HhR := Lib.hid (HhR.out.below hst)
  replace HhAl := Lib.hid (HhAl.out.below hst)
  clear hst hst0 hb lKi cKi0 cKi1 cKi2 cKi3 lKm cKm0 cKm1 cKm2 cKm3 cKm4 cKm5 lKp cKp0 cKp1 cKp2 lKr cKr0 cKr1 cKr2
  have lKi := Ki.lt
  have cKi0 := Ki.cell 0
  have cKi1 := Ki.cell 1
  have cKi2 := Ki.cell 2
  have cKi3 := Ki.cell 3
  have lKm := Km.lt
  have cKm0 := Km.cell 0
  have cKm1 := Km.cell 1
  have cKm2 := Km.cell 2
  have cKm3 := Km.cell 3
  have cKm4 := Km.cell 4
  have cKm5 := Km.cell 5
  have lKp := Kp.lt
  have cKp0 := Kp.cell 0
  have cKp1 := Kp.cell 1
  have cKp2 := Kp.cell 2
  have lKr := Kr.lt
  have cKr0 := Kr.cell 0
  have cKr1 := Kr.cell 1
  have cKr2 := Kr.cell 2
  have lKA := KA.lt
  have cKA0 := KA.cell 0
  have cKA1 := KA.cell 1
  have cKA2 := KA.cell 2
  simp only [List.getElem?_toArray, List.getElem?_cons_succ, List.getElem?_cons_zero] at cKi0 cKi1 cKi2 cKi3 cKm0 cKm1 cKm2 cKm3 cKm4 cKm5 cKp0 cKp1 cKp2 cKr0 cKr1 cKr2 cKA0 cKA1 cKA2
  go_wp2_with fail
  go_ret
  exact ⟨rfl, by (repeat' (first | refine bset ?_ (by first | omega | (simp <;> omega)) _ | refine balloc ?_ _ | refine Below.drew ?_ | refine below_drewN ?_ _ | exact hbw | exact Below.refl _ _))⟩

set_option maxRecDepth 100000 in
set_option maxHeartbeats 6400000 in
theorem iclips_yes (A : Option Addr) (n c : Nat) (ns : Nat → Int) (bits a0 a1 a2 a3 a4 a5 : Int) (A3 : Option Addr) (n3 c3 : Nat) (ns3 : Nat → Int) (A4 : Option Addr) (n4 c4 : Nat) (ns4 : Nat → Int) (at_ : Int) (W H B a b c2 d e f : Int) (s : ByteArray) (w : World) (hr : Ints w A n c ns) (hr3 : Ints w A3 n3 c3 ns3) (hn3 : n3 ≤ 9223372036854775807) (hr4 : Ints w A4 n4 c4 ns4) (hn4 : n4 ≤ 9223372036854775807)
    (HMd : Hid (∀ W', Ints W' A n c ns → Calls Try.prog 23 #[.slice A n c, .int .i64 bits] W' fun ed w' => ed = .returned (.agg #[.int .i64 W, .int .i64 H, .int .i64 B, .string s]) ∧ Below W'.heap.size W' w'))
    (HTu : Hid (∀ W', Calls Try.prog 24 #[.agg #[.int .i64 a0, .int .i64 a1, .int .i64 a2, .int .i64 a3, .int .i64 a4, .int .i64 a5]] W' fun ed w' => ed = .returned (.agg #[.int .i64 a, .int .i64 b, .int .i64 c2, .int .i64 d, .int .i64 e, .int .i64 f]) ∧ Below W'.heap.size W' w'))
    (hmay : mayI W H B s.size = true) (hmat : mt.mayB a b c2 d e f = true) (hd : ¬ a * d - b * c2 = 0) :
    Calls Try.prog 9 #[.slice A n c, .int .i64 bits, .agg #[.int .i64 a0, .int .i64 a1, .int .i64 a2, .int .i64 a3, .int .i64 a4, .int .i64 a5], .slice A3 n3 c3, .slice A4 n4 c4, .int .i64 at_] w fun ed w' => ed = .returned (.bool true) ∧ Below w.heap.size w w' := by
  have hs := may_size hmay
  obtain ⟨N, hN⟩ : ∃ N, N = 3 * (9 * 12) := ⟨_, rfl⟩
  have HNP := Lib.hid (show 0 < N by rw [hN]; decide)
  have HPG := Lib.hid (fun W' h => lpage_any A3 n3 c3 ns3 9 12 N W' h hn3 (by decide) (by decide) hN)
  have HM3 := Lib.hid (fun W' h => lmade_any A4 n4 c4 ns4 9 12 W' h hn4 (by decide) (by decide))
  have HAL := Lib.hid (fun W' => rall_any 9 12 W' (by decide) (by decide))
  have HPT := Lib.hid (fun cp dr A D R Y W' hp hr => paint_any W H B a b c2 d e f _ s 9 12 N cp dr A D R Y W' (by decide) (by decide) hN hs hmay hmat rfl hd hp hr)
  have HPS := Lib.hid (fun c d A D B C W' ha hb h => psame_yes 9 12 N c d A D B C W' ha hb h)
  have HPL := Lib.hid (fun W' => place_any at_ 14 W' (by decide) (by decide))
  generalize at_ % 14 = k at HPL
  have HBD := Lib.hid (fun c A R lo hi W' h => rband_any 9 12 c A R lo hi W' (by decide) (by decide) h)
  have HLA := Lib.hid (fun c d e A E D R B C W' hp hq hr => lay_any 9 12 N c d e A E D R B C W' (by decide) (by decide) hN hp hq hr)
  have HCP := Lib.hid (fun R S G Y t (ht : t < N) => clips_px 9 k R S G Y (by decide) t (hN ▸ ht))
  have HI1 := Lib.hid hr
  have HI3 := Lib.hid hr3
  have HI4 := Lib.hid hr4
  clear hs hmay hmat hd hN hr hr3 hr4 hn3 hn4
  go_enter Try.func9, Try.ntmps9
  go_wp2_with fail
  have hst0 : Below w.heap.size w (w.alloc (.cells #[.int .i64 a0, .int .i64 a1, .int .i64 a2, .int .i64 a3, .int .i64 a4, .int .i64 a5] 34)) := by (repeat' (first | exact Below.refl _ _ | exact Below.refl _ _ | refine balloc ?_ _ | refine Below.drew ?_ | refine below_drewN ?_ _ | refine bset ?_ (by first | omega | (simp <;> omega)) _))
  refine (known_any _).mono ?_
  rintro e_ w1 ⟨rfl, hb⟩
  have hst : Below w.heap.size w w1 := btrans hst0 hb
  have Ka := (Blk.new w 34 #[.int .i64 a0, .int .i64 a1, .int .i64 a2, .int .i64 a3, .int .i64 a4, .int .i64 a5])
  replace Ka := Ka.below hb Ka.lt
  have hbw : Below w.heap.size w w1 := hst
  replace HI1 := Lib.hid (HI1.out.below hst)
  replace HI3 := Lib.hid (HI3.out.below hst)
  replace HI4 := Lib.hid (HI4.out.below hst)
  clear hst hst0 hb 
  have lKa := Ka.lt
  have cKa0 := Ka.cell 0
  have cKa1 := Ka.cell 1
  have cKa2 := Ka.cell 2
  have cKa3 := Ka.cell 3
  have cKa4 := Ka.cell 4
  have cKa5 := Ka.cell 5
  simp only [List.getElem?_toArray, List.getElem?_cons_succ, List.getElem?_cons_zero] at cKa0 cKa1 cKa2 cKa3 cKa4 cKa5
  go_wp2_with fail
  refine wp_region_chain4 9 [0, 1, 2, 3, 4, 5, 7] [6, 8] (.cells #[.int .i64 0, .int .i64 0, .int .i64 0, .string ⟨#[]⟩] 23) (.cells #[.int .i64 0, .int .i64 0, .int .i64 0, .int .i64 0, .int .i64 0, .int .i64 0] 25) (.cells #[.int .i64 0, .int .i64 0, .slice none 0 0] 46) (.cells #[.int .i64 0, .int .i64 0, .slice none 0 0] 51) _ _ _ _ (by kernel_rfl) (by kernel_rfl) rfl rfl rfl rfl (fun ρ w => alloc_img2 _ _ _ _ _ ρ w) (fun ρ w => alloc_mat2 _ _ _ _ _ ρ w) (fun ρ w => alloc_page2 _ _ _ _ _ ρ w) (fun ρ w => alloc_reg2 _ _ _ _ _ ρ w) ?_
  intro u0
  have uKa0 : ∀ u : Up u0.val, u.val.cell? ⟨w.heap.size, 0, none⟩ = some (.int .i64 a0) := fun u => ((u.cell (Nat.lt_of_lt_of_le lKa u0.ok.size)).trans (u0.cell lKa)).trans cKa0
  have uKa1 : ∀ u : Up u0.val, u.val.cell? ⟨w.heap.size, 1, none⟩ = some (.int .i64 a1) := fun u => ((u.cell (Nat.lt_of_lt_of_le lKa u0.ok.size)).trans (u0.cell lKa)).trans cKa1
  have uKa2 : ∀ u : Up u0.val, u.val.cell? ⟨w.heap.size, 2, none⟩ = some (.int .i64 a2) := fun u => ((u.cell (Nat.lt_of_lt_of_le lKa u0.ok.size)).trans (u0.cell lKa)).trans cKa2
  have uKa3 : ∀ u : Up u0.val, u.val.cell? ⟨w.heap.size, 3, none⟩ = some (.int .i64 a3) := fun u => ((u.cell (Nat.lt_of_lt_of_le lKa u0.ok.size)).trans (u0.cell lKa)).trans cKa3
  have uKa4 : ∀ u : Up u0.val, u.val.cell? ⟨w.heap.size, 4, none⟩ = some (.int .i64 a4) := fun u => ((u.cell (Nat.lt_of_lt_of_le lKa u0.ok.size)).trans (u0.cell lKa)).trans cKa4
  have uKa5 : ∀ u : Up u0.val, u.val.cell? ⟨w.heap.size, 5, none⟩ = some (.int .i64 a5) := fun u => ((u.cell (Nat.lt_of_lt_of_le lKa u0.ok.size)).trans (u0.cell lKa)).trans cKa5
  have HU1 := Lib.hid (fun u : Up u0.val => up_of (u := u) (HMd.out u.val (HI1.out.below (btrans u0.ok u.ok))))
  have HU2 := Lib.hid (fun u : Up u0.val => up_of (u := u) (HTu.out u.val))
  change wpQuiet _ _ _ _ (_ :: _ :: _ :: _ :: _ :: _ :: _ :: []) _
  unfold upC
  simp only [List.getElem_toArray, List.getElem_cons_succ, List.getElem_cons_zero]
  repeat (go_big_quiet_step (fail))
  go_big_quiet_step (exact HU1.out _)
  repeat (go_big_quiet_step (fail))
  go_big_quiet_step (exact HU2.out _)
  repeat (go_big_quiet_step (fail))
  refine wpQuiet_nil ?_
  clear HU1 HU2 uKa0 uKa1 uKa2 uKa3 uKa4 uKa5 u0 HMd HTu lKa cKa0 cKa1 cKa2 cKa3 cKa4 cKa5 Ka
  refine fun V1 hV1 => ?_
  refine stepV_of _ 28 #[.slice A3 n3 c3, .int .i64 9, .int .i64 12] rfl (by kernel_rfl) (by kernel_rfl) ?_
  refine (HPG.out V1 (HI3.out.below hV1)).mono ?_
  rintro e_ V2 ⟨gp, Y, rfl, hP, hb2⟩
  refine ⟨_, rfl, hb2, ?_⟩
  refine fun V3 hV3 => ?_
  refine stepV_of _ 46 #[.slice A4 n4 c4, .int .i64 9, .int .i64 12] rfl (by kernel_rfl) (by kernel_rfl) ?_
  refine (HM3.out V3 (HI4.out.below (btrans (btrans hV1 hb2) hV3))).mono ?_
  rintro e_ V4 ⟨D1, d1, R, rfl, hR, hb4⟩
  refine ⟨_, rfl, hb4, ?_⟩
  refine fun w3 hV5 Pi Pm Pp Pr ⟨hi0, hi1, Ki⟩ ⟨hm0, hm1, Km⟩ ⟨hp0, hp1, Kp⟩ ⟨hr0, hr1, Kr⟩ ⟨⟨n1, n2, n3⟩, ⟨n4, n5⟩, n6⟩ => ?_
  have HhP := Lib.hid (hP.below (btrans (btrans hV3 hb4) hV5))
  have HhR := Lib.hid (hR.below hV5)
  have hst := btrans (btrans (btrans hV1 hb2) (btrans hV3 hb4)) hV5
  have hs0 := hbw.size
  replace hbw := btrans hbw hst
  clear hP hR hV1 hb2 hV3 hb4 hst hV5
  replace Ki : Blk w3 Pi 23 #[.int .i64 0, .int .i64 0, .int .i64 0, .string ⟨#[]⟩] := Ki
  replace Km : Blk w3 Pm 25 #[.int .i64 0, .int .i64 0, .int .i64 0, .int .i64 0, .int .i64 0, .int .i64 0] := Km
  replace Kp : Blk w3 Pp 46 #[.int .i64 0, .int .i64 0, .slice none 0 0] := Kp
  replace Kr : Blk w3 Pr 51 #[.int .i64 0, .int .i64 0, .slice none 0 0] := Kr
  simp only [Act.put, List.setIfInBounds_toArray, List.set_cons_zero, List.set_cons_succ, List.drop_succ_cons, List.drop_zero]
  have cKi0 := Ki.cell 0
  have fKi0 := Ki.frozen 0
  have cKi1 := Ki.cell 1
  have fKi1 := Ki.frozen 1
  have cKi2 := Ki.cell 2
  have fKi2 := Ki.frozen 2
  have cKi3 := Ki.cell 3
  have fKi3 := Ki.frozen 3
  have cKm0 := Km.cell 0
  have fKm0 := Km.frozen 0
  have cKm1 := Km.cell 1
  have fKm1 := Km.frozen 1
  have cKm2 := Km.cell 2
  have fKm2 := Km.frozen 2
  have cKm3 := Km.cell 3
  have fKm3 := Km.frozen 3
  have cKm4 := Km.cell 4
  have fKm4 := Km.frozen 4
  have cKm5 := Km.cell 5
  have fKm5 := Km.frozen 5
  have cKp0 := Kp.cell 0
  have fKp0 := Kp.frozen 0
  have cKp1 := Kp.cell 1
  have fKp1 := Kp.frozen 1
  have cKp2 := Kp.cell 2
  have fKp2 := Kp.frozen 2
  have cKr0 := Kr.cell 0
  have fKr0 := Kr.frozen 0
  have cKr1 := Kr.cell 1
  have fKr1 := Kr.frozen 1
  have cKr2 := Kr.cell 2
  have fKr2 := Kr.frozen 2
  simp only [List.getElem?_toArray, List.getElem?_cons_succ, List.getElem?_cons_zero] at cKi0 cKi1 cKi2 cKi3 cKm0 cKm1 cKm2 cKm3 cKm4 cKm5 cKp0 cKp1 cKp2 cKr0 cKr1 cKr2
  have HZR := Lib.hid (show ∀ b, (b = Pi ∨ b = Pm ∨ b = Pp ∨ b = Pr) → Zero w3 b by
    rintro b (rfl | rfl | rfl | rfl)
    · exact Zero.blk Ki zero_img
    · exact Zero.blk Km zero_mat
    · exact Zero.blk Kp zero_page
    · exact Zero.blk Kr zero_page)
  refine wpList_stop fun Kx HKx => ?_
  go_wp2_with fail
  replace Ki : Blk _ Pi 23 #[.int .i64 W, .int .i64 H, .int .i64 B, .string s] := blk_cast ((((((((((((((((Ki.set_ 0 (.int .i64 W)).set_ 1 (.int .i64 H)).set_ 2 (.int .i64 B)).set_ 3 (.string s)).far (p := ⟨Pm, 0, none⟩) n1 (.int .i64 a)).far (p := ⟨Pm, 1, none⟩) n1 (.int .i64 b)).far (p := ⟨Pm, 2, none⟩) n1 (.int .i64 c2)).far (p := ⟨Pm, 3, none⟩) n1 (.int .i64 d)).far (p := ⟨Pm, 4, none⟩) n1 (.int .i64 e)).far (p := ⟨Pm, 5, none⟩) n1 (.int .i64 f)).far (p := ⟨Pp, 0, none⟩) n2 (.int .i64 9)).far (p := ⟨Pp, 1, none⟩) n2 (.int .i64 12)).far (p := ⟨Pp, 2, none⟩) n2 (.slice (some ⟨gp, 0, none⟩) N N)).far (p := ⟨Pr, 0, none⟩) n3 (.int .i64 9)).far (p := ⟨Pr, 1, none⟩) n3 (.int .i64 12)).far (p := ⟨Pr, 2, none⟩) n3 (.slice D1 12 d1)) (by kernel_rfl)
  replace Km : Blk _ Pm 25 #[.int .i64 a, .int .i64 b, .int .i64 c2, .int .i64 d, .int .i64 e, .int .i64 f] := blk_cast ((((((((((((((((Km.far (p := ⟨Pi, 0, none⟩) n1.symm (.int .i64 W)).far (p := ⟨Pi, 1, none⟩) n1.symm (.int .i64 H)).far (p := ⟨Pi, 2, none⟩) n1.symm (.int .i64 B)).far (p := ⟨Pi, 3, none⟩) n1.symm (.string s)).set_ 0 (.int .i64 a)).set_ 1 (.int .i64 b)).set_ 2 (.int .i64 c2)).set_ 3 (.int .i64 d)).set_ 4 (.int .i64 e)).set_ 5 (.int .i64 f)).far (p := ⟨Pp, 0, none⟩) n4 (.int .i64 9)).far (p := ⟨Pp, 1, none⟩) n4 (.int .i64 12)).far (p := ⟨Pp, 2, none⟩) n4 (.slice (some ⟨gp, 0, none⟩) N N)).far (p := ⟨Pr, 0, none⟩) n5 (.int .i64 9)).far (p := ⟨Pr, 1, none⟩) n5 (.int .i64 12)).far (p := ⟨Pr, 2, none⟩) n5 (.slice D1 12 d1)) (by kernel_rfl)
  replace Kp : Blk _ Pp 46 #[.int .i64 9, .int .i64 12, .slice (some ⟨gp, 0, none⟩) N N] := blk_cast ((((((((((((((((Kp.far (p := ⟨Pi, 0, none⟩) n2.symm (.int .i64 W)).far (p := ⟨Pi, 1, none⟩) n2.symm (.int .i64 H)).far (p := ⟨Pi, 2, none⟩) n2.symm (.int .i64 B)).far (p := ⟨Pi, 3, none⟩) n2.symm (.string s)).far (p := ⟨Pm, 0, none⟩) n4.symm (.int .i64 a)).far (p := ⟨Pm, 1, none⟩) n4.symm (.int .i64 b)).far (p := ⟨Pm, 2, none⟩) n4.symm (.int .i64 c2)).far (p := ⟨Pm, 3, none⟩) n4.symm (.int .i64 d)).far (p := ⟨Pm, 4, none⟩) n4.symm (.int .i64 e)).far (p := ⟨Pm, 5, none⟩) n4.symm (.int .i64 f)).set_ 0 (.int .i64 9)).set_ 1 (.int .i64 12)).set_ 2 (.slice (some ⟨gp, 0, none⟩) N N)).far (p := ⟨Pr, 0, none⟩) n6 (.int .i64 9)).far (p := ⟨Pr, 1, none⟩) n6 (.int .i64 12)).far (p := ⟨Pr, 2, none⟩) n6 (.slice D1 12 d1)) (by kernel_rfl)
  replace Kr : Blk _ Pr 51 #[.int .i64 9, .int .i64 12, .slice D1 12 d1] := blk_cast ((((((((((((((((Kr.far (p := ⟨Pi, 0, none⟩) n3.symm (.int .i64 W)).far (p := ⟨Pi, 1, none⟩) n3.symm (.int .i64 H)).far (p := ⟨Pi, 2, none⟩) n3.symm (.int .i64 B)).far (p := ⟨Pi, 3, none⟩) n3.symm (.string s)).far (p := ⟨Pm, 0, none⟩) n5.symm (.int .i64 a)).far (p := ⟨Pm, 1, none⟩) n5.symm (.int .i64 b)).far (p := ⟨Pm, 2, none⟩) n5.symm (.int .i64 c2)).far (p := ⟨Pm, 3, none⟩) n5.symm (.int .i64 d)).far (p := ⟨Pm, 4, none⟩) n5.symm (.int .i64 e)).far (p := ⟨Pm, 5, none⟩) n5.symm (.int .i64 f)).far (p := ⟨Pp, 0, none⟩) n6.symm (.int .i64 9)).far (p := ⟨Pp, 1, none⟩) n6.symm (.int .i64 12)).far (p := ⟨Pp, 2, none⟩) n6.symm (.slice (some ⟨gp, 0, none⟩) N N)).set_ 0 (.int .i64 9)).set_ 1 (.int .i64 12)).set_ 2 (.slice D1 12 d1)) (by kernel_rfl)
  have hqPi : w.heap.size ≤ Pi := by omega
  have hqPm : w.heap.size ≤ Pm := by omega
  have hqPp : w.heap.size ≤ Pp := by omega
  have hqPr : w.heap.size ≤ Pr := by omega
  have hsz : ((((((((((((((((w3.setCell ⟨Pi, 0, none⟩ (.int .i64 W)).setCell ⟨Pi, 1, none⟩ (.int .i64 H)).setCell ⟨Pi, 2, none⟩ (.int .i64 B)).setCell ⟨Pi, 3, none⟩ (.string s)).setCell ⟨Pm, 0, none⟩ (.int .i64 a)).setCell ⟨Pm, 1, none⟩ (.int .i64 b)).setCell ⟨Pm, 2, none⟩ (.int .i64 c2)).setCell ⟨Pm, 3, none⟩ (.int .i64 d)).setCell ⟨Pm, 4, none⟩ (.int .i64 e)).setCell ⟨Pm, 5, none⟩ (.int .i64 f)).setCell ⟨Pp, 0, none⟩ (.int .i64 9)).setCell ⟨Pp, 1, none⟩ (.int .i64 12)).setCell ⟨Pp, 2, none⟩ (.slice (some ⟨gp, 0, none⟩) N N)).setCell ⟨Pr, 0, none⟩ (.int .i64 9)).setCell ⟨Pr, 1, none⟩ (.int .i64 12)).setCell ⟨Pr, 2, none⟩ (.slice D1 12 d1)).heap.size = w3.heap.size := by simp only [World.size_setCell]
  have hag : ∀ bq, ¬ (bq = Pi ∨ bq = Pm ∨ bq = Pp ∨ bq = Pr) → ∀ o, ((((((((((((((((w3.setCell ⟨Pi, 0, none⟩ (.int .i64 W)).setCell ⟨Pi, 1, none⟩ (.int .i64 H)).setCell ⟨Pi, 2, none⟩ (.int .i64 B)).setCell ⟨Pi, 3, none⟩ (.string s)).setCell ⟨Pm, 0, none⟩ (.int .i64 a)).setCell ⟨Pm, 1, none⟩ (.int .i64 b)).setCell ⟨Pm, 2, none⟩ (.int .i64 c2)).setCell ⟨Pm, 3, none⟩ (.int .i64 d)).setCell ⟨Pm, 4, none⟩ (.int .i64 e)).setCell ⟨Pm, 5, none⟩ (.int .i64 f)).setCell ⟨Pp, 0, none⟩ (.int .i64 9)).setCell ⟨Pp, 1, none⟩ (.int .i64 12)).setCell ⟨Pp, 2, none⟩ (.slice (some ⟨gp, 0, none⟩) N N)).setCell ⟨Pr, 0, none⟩ (.int .i64 9)).setCell ⟨Pr, 1, none⟩ (.int .i64 12)).setCell ⟨Pr, 2, none⟩ (.slice D1 12 d1)).cell? ⟨bq, o, none⟩ = w3.cell? ⟨bq, o, none⟩ := fun bq hb o => by
    have hbPi : Pi ≠ bq := fun e => hb (.inl e.symm)
    have hbPm : Pm ≠ bq := fun e => hb (.inr (.inl e.symm))
    have hbPp : Pp ≠ bq := fun e => hb (.inr (.inr (.inl e.symm)))
    have hbPr : Pr ≠ bq := fun e => hb (.inr (.inr (.inr e.symm)))
    exact (World.cell?_setCell_far _ ⟨Pr, 2, none⟩ ⟨bq, o, none⟩ _ hbPr).trans ((World.cell?_setCell_far _ ⟨Pr, 1, none⟩ ⟨bq, o, none⟩ _ hbPr).trans ((World.cell?_setCell_far _ ⟨Pr, 0, none⟩ ⟨bq, o, none⟩ _ hbPr).trans ((World.cell?_setCell_far _ ⟨Pp, 2, none⟩ ⟨bq, o, none⟩ _ hbPp).trans ((World.cell?_setCell_far _ ⟨Pp, 1, none⟩ ⟨bq, o, none⟩ _ hbPp).trans ((World.cell?_setCell_far _ ⟨Pp, 0, none⟩ ⟨bq, o, none⟩ _ hbPp).trans ((World.cell?_setCell_far _ ⟨Pm, 5, none⟩ ⟨bq, o, none⟩ _ hbPm).trans ((World.cell?_setCell_far _ ⟨Pm, 4, none⟩ ⟨bq, o, none⟩ _ hbPm).trans ((World.cell?_setCell_far _ ⟨Pm, 3, none⟩ ⟨bq, o, none⟩ _ hbPm).trans ((World.cell?_setCell_far _ ⟨Pm, 2, none⟩ ⟨bq, o, none⟩ _ hbPm).trans ((World.cell?_setCell_far _ ⟨Pm, 1, none⟩ ⟨bq, o, none⟩ _ hbPm).trans ((World.cell?_setCell_far _ ⟨Pm, 0, none⟩ ⟨bq, o, none⟩ _ hbPm).trans ((World.cell?_setCell_far _ ⟨Pi, 3, none⟩ ⟨bq, o, none⟩ _ hbPi).trans ((World.cell?_setCell_far _ ⟨Pi, 2, none⟩ ⟨bq, o, none⟩ _ hbPi).trans ((World.cell?_setCell_far _ ⟨Pi, 1, none⟩ ⟨bq, o, none⟩ _ hbPi).trans (World.cell?_setCell_far _ ⟨Pi, 0, none⟩ ⟨bq, o, none⟩ _ hbPi)))))))))))))))
  replace hbw : Below w.heap.size w ((((((((((((((((w3.setCell ⟨Pi, 0, none⟩ (.int .i64 W)).setCell ⟨Pi, 1, none⟩ (.int .i64 H)).setCell ⟨Pi, 2, none⟩ (.int .i64 B)).setCell ⟨Pi, 3, none⟩ (.string s)).setCell ⟨Pm, 0, none⟩ (.int .i64 a)).setCell ⟨Pm, 1, none⟩ (.int .i64 b)).setCell ⟨Pm, 2, none⟩ (.int .i64 c2)).setCell ⟨Pm, 3, none⟩ (.int .i64 d)).setCell ⟨Pm, 4, none⟩ (.int .i64 e)).setCell ⟨Pm, 5, none⟩ (.int .i64 f)).setCell ⟨Pp, 0, none⟩ (.int .i64 9)).setCell ⟨Pp, 1, none⟩ (.int .i64 12)).setCell ⟨Pp, 2, none⟩ (.slice (some ⟨gp, 0, none⟩) N N)).setCell ⟨Pr, 0, none⟩ (.int .i64 9)).setCell ⟨Pr, 1, none⟩ (.int .i64 12)).setCell ⟨Pr, 2, none⟩ (.slice D1 12 d1)) := (bset (bset (bset (bset (bset (bset (bset (bset (bset (bset (bset (bset (bset (bset (bset (bset hbw hqPi _) hqPi _) hqPi _) hqPi _) hqPm _) hqPm _) hqPm _) hqPm _) hqPm _) hqPm _) hqPp _) hqPp _) hqPp _) hqPr _) hqPr _) hqPr _)
  have hex : Blk ((((((((((((((((w3.setCell ⟨Pi, 0, none⟩ (.int .i64 W)).setCell ⟨Pi, 1, none⟩ (.int .i64 H)).setCell ⟨Pi, 2, none⟩ (.int .i64 B)).setCell ⟨Pi, 3, none⟩ (.string s)).setCell ⟨Pm, 0, none⟩ (.int .i64 a)).setCell ⟨Pm, 1, none⟩ (.int .i64 b)).setCell ⟨Pm, 2, none⟩ (.int .i64 c2)).setCell ⟨Pm, 3, none⟩ (.int .i64 d)).setCell ⟨Pm, 4, none⟩ (.int .i64 e)).setCell ⟨Pm, 5, none⟩ (.int .i64 f)).setCell ⟨Pp, 0, none⟩ (.int .i64 9)).setCell ⟨Pp, 1, none⟩ (.int .i64 12)).setCell ⟨Pp, 2, none⟩ (.slice (some ⟨gp, 0, none⟩) N N)).setCell ⟨Pr, 0, none⟩ (.int .i64 9)).setCell ⟨Pr, 1, none⟩ (.int .i64 12)).setCell ⟨Pr, 2, none⟩ (.slice D1 12 d1)) Pi 23 #[.int .i64 W, .int .i64 H, .int .i64 B, .string s] ∧ Blk ((((((((((((((((w3.setCell ⟨Pi, 0, none⟩ (.int .i64 W)).setCell ⟨Pi, 1, none⟩ (.int .i64 H)).setCell ⟨Pi, 2, none⟩ (.int .i64 B)).setCell ⟨Pi, 3, none⟩ (.string s)).setCell ⟨Pm, 0, none⟩ (.int .i64 a)).setCell ⟨Pm, 1, none⟩ (.int .i64 b)).setCell ⟨Pm, 2, none⟩ (.int .i64 c2)).setCell ⟨Pm, 3, none⟩ (.int .i64 d)).setCell ⟨Pm, 4, none⟩ (.int .i64 e)).setCell ⟨Pm, 5, none⟩ (.int .i64 f)).setCell ⟨Pp, 0, none⟩ (.int .i64 9)).setCell ⟨Pp, 1, none⟩ (.int .i64 12)).setCell ⟨Pp, 2, none⟩ (.slice (some ⟨gp, 0, none⟩) N N)).setCell ⟨Pr, 0, none⟩ (.int .i64 9)).setCell ⟨Pr, 1, none⟩ (.int .i64 12)).setCell ⟨Pr, 2, none⟩ (.slice D1 12 d1)) Pm 25 #[.int .i64 a, .int .i64 b, .int .i64 c2, .int .i64 d, .int .i64 e, .int .i64 f] ∧ Blk ((((((((((((((((w3.setCell ⟨Pi, 0, none⟩ (.int .i64 W)).setCell ⟨Pi, 1, none⟩ (.int .i64 H)).setCell ⟨Pi, 2, none⟩ (.int .i64 B)).setCell ⟨Pi, 3, none⟩ (.string s)).setCell ⟨Pm, 0, none⟩ (.int .i64 a)).setCell ⟨Pm, 1, none⟩ (.int .i64 b)).setCell ⟨Pm, 2, none⟩ (.int .i64 c2)).setCell ⟨Pm, 3, none⟩ (.int .i64 d)).setCell ⟨Pm, 4, none⟩ (.int .i64 e)).setCell ⟨Pm, 5, none⟩ (.int .i64 f)).setCell ⟨Pp, 0, none⟩ (.int .i64 9)).setCell ⟨Pp, 1, none⟩ (.int .i64 12)).setCell ⟨Pp, 2, none⟩ (.slice (some ⟨gp, 0, none⟩) N N)).setCell ⟨Pr, 0, none⟩ (.int .i64 9)).setCell ⟨Pr, 1, none⟩ (.int .i64 12)).setCell ⟨Pr, 2, none⟩ (.slice D1 12 d1)) Pp 46 #[.int .i64 9, .int .i64 12, .slice (some ⟨gp, 0, none⟩) N N] ∧ Blk ((((((((((((((((w3.setCell ⟨Pi, 0, none⟩ (.int .i64 W)).setCell ⟨Pi, 1, none⟩ (.int .i64 H)).setCell ⟨Pi, 2, none⟩ (.int .i64 B)).setCell ⟨Pi, 3, none⟩ (.string s)).setCell ⟨Pm, 0, none⟩ (.int .i64 a)).setCell ⟨Pm, 1, none⟩ (.int .i64 b)).setCell ⟨Pm, 2, none⟩ (.int .i64 c2)).setCell ⟨Pm, 3, none⟩ (.int .i64 d)).setCell ⟨Pm, 4, none⟩ (.int .i64 e)).setCell ⟨Pm, 5, none⟩ (.int .i64 f)).setCell ⟨Pp, 0, none⟩ (.int .i64 9)).setCell ⟨Pp, 1, none⟩ (.int .i64 12)).setCell ⟨Pp, 2, none⟩ (.slice (some ⟨gp, 0, none⟩) N N)).setCell ⟨Pr, 0, none⟩ (.int .i64 9)).setCell ⟨Pr, 1, none⟩ (.int .i64 12)).setCell ⟨Pr, 2, none⟩ (.slice D1 12 d1)) Pr 51 #[.int .i64 9, .int .i64 12, .slice D1 12 d1] ∧ Below w.heap.size w ((((((((((((((((w3.setCell ⟨Pi, 0, none⟩ (.int .i64 W)).setCell ⟨Pi, 1, none⟩ (.int .i64 H)).setCell ⟨Pi, 2, none⟩ (.int .i64 B)).setCell ⟨Pi, 3, none⟩ (.string s)).setCell ⟨Pm, 0, none⟩ (.int .i64 a)).setCell ⟨Pm, 1, none⟩ (.int .i64 b)).setCell ⟨Pm, 2, none⟩ (.int .i64 c2)).setCell ⟨Pm, 3, none⟩ (.int .i64 d)).setCell ⟨Pm, 4, none⟩ (.int .i64 e)).setCell ⟨Pm, 5, none⟩ (.int .i64 f)).setCell ⟨Pp, 0, none⟩ (.int .i64 9)).setCell ⟨Pp, 1, none⟩ (.int .i64 12)).setCell ⟨Pp, 2, none⟩ (.slice (some ⟨gp, 0, none⟩) N N)).setCell ⟨Pr, 0, none⟩ (.int .i64 9)).setCell ⟨Pr, 1, none⟩ (.int .i64 12)).setCell ⟨Pr, 2, none⟩ (.slice D1 12 d1)) ∧ ((((((((((((((((w3.setCell ⟨Pi, 0, none⟩ (.int .i64 W)).setCell ⟨Pi, 1, none⟩ (.int .i64 H)).setCell ⟨Pi, 2, none⟩ (.int .i64 B)).setCell ⟨Pi, 3, none⟩ (.string s)).setCell ⟨Pm, 0, none⟩ (.int .i64 a)).setCell ⟨Pm, 1, none⟩ (.int .i64 b)).setCell ⟨Pm, 2, none⟩ (.int .i64 c2)).setCell ⟨Pm, 3, none⟩ (.int .i64 d)).setCell ⟨Pm, 4, none⟩ (.int .i64 e)).setCell ⟨Pm, 5, none⟩ (.int .i64 f)).setCell ⟨Pp, 0, none⟩ (.int .i64 9)).setCell ⟨Pp, 1, none⟩ (.int .i64 12)).setCell ⟨Pp, 2, none⟩ (.slice (some ⟨gp, 0, none⟩) N N)).setCell ⟨Pr, 0, none⟩ (.int .i64 9)).setCell ⟨Pr, 1, none⟩ (.int .i64 12)).setCell ⟨Pr, 2, none⟩ (.slice D1 12 d1)).heap.size = w3.heap.size ∧ (∀ bq, ¬ (bq = Pi ∨ bq = Pm ∨ bq = Pp ∨ bq = Pr) → ∀ o, ((((((((((((((((w3.setCell ⟨Pi, 0, none⟩ (.int .i64 W)).setCell ⟨Pi, 1, none⟩ (.int .i64 H)).setCell ⟨Pi, 2, none⟩ (.int .i64 B)).setCell ⟨Pi, 3, none⟩ (.string s)).setCell ⟨Pm, 0, none⟩ (.int .i64 a)).setCell ⟨Pm, 1, none⟩ (.int .i64 b)).setCell ⟨Pm, 2, none⟩ (.int .i64 c2)).setCell ⟨Pm, 3, none⟩ (.int .i64 d)).setCell ⟨Pm, 4, none⟩ (.int .i64 e)).setCell ⟨Pm, 5, none⟩ (.int .i64 f)).setCell ⟨Pp, 0, none⟩ (.int .i64 9)).setCell ⟨Pp, 1, none⟩ (.int .i64 12)).setCell ⟨Pp, 2, none⟩ (.slice (some ⟨gp, 0, none⟩) N N)).setCell ⟨Pr, 0, none⟩ (.int .i64 9)).setCell ⟨Pr, 1, none⟩ (.int .i64 12)).setCell ⟨Pr, 2, none⟩ (.slice D1 12 d1)).cell? ⟨bq, o, none⟩ = w3.cell? ⟨bq, o, none⟩) := ⟨Ki, Km, Kp, Kr, hbw, hsz, hag⟩
  clear Ki Km Kp Kr hbw hsz hag
  refine HKx.out _ _ ?_
  clear HKx Kx
  revert hex
  generalize hwx : ((((((((((((((((w3.setCell ⟨Pi, 0, none⟩ (.int .i64 W)).setCell ⟨Pi, 1, none⟩ (.int .i64 H)).setCell ⟨Pi, 2, none⟩ (.int .i64 B)).setCell ⟨Pi, 3, none⟩ (.string s)).setCell ⟨Pm, 0, none⟩ (.int .i64 a)).setCell ⟨Pm, 1, none⟩ (.int .i64 b)).setCell ⟨Pm, 2, none⟩ (.int .i64 c2)).setCell ⟨Pm, 3, none⟩ (.int .i64 d)).setCell ⟨Pm, 4, none⟩ (.int .i64 e)).setCell ⟨Pm, 5, none⟩ (.int .i64 f)).setCell ⟨Pp, 0, none⟩ (.int .i64 9)).setCell ⟨Pp, 1, none⟩ (.int .i64 12)).setCell ⟨Pp, 2, none⟩ (.slice (some ⟨gp, 0, none⟩) N N)).setCell ⟨Pr, 0, none⟩ (.int .i64 9)).setCell ⟨Pr, 1, none⟩ (.int .i64 12)).setCell ⟨Pr, 2, none⟩ (.slice D1 12 d1)) = w4
  intro hex
  clear hwx
  obtain ⟨Ki, Km, Kp, Kr, hbw, hsz, hag⟩ := hex
  have hP := Pg.agree HhP.out HNP.out (fun b => b = Pi ∨ b = Pm ∨ b = Pp ∨ b = Pr) HZR.out hsz hag
  have hR := Rows.agree HhR.out (by decide) (fun b => b = Pi ∨ b = Pm ∨ b = Pp ∨ b = Pr) HZR.out hsz hag
  clear hsz hag HhP HhR HZR
  clear cKi0 fKi0 cKi1 fKi1 cKi2 fKi2 cKi3 fKi3 cKm0 fKm0 cKm1 fKm1 cKm2 fKm2 cKm3 fKm3 cKm4 fKm4 cKm5 fKm5 cKp0 fKp0 cKp1 fKp1 cKp2 fKp2 cKr0 fKr0 cKr1 fKr1 cKr2 fKr2 hs0 hi0 hi1 hm0 hm1 hp0 hp1 hr0 hr1
  have HhP := Lib.hid hP
  clear hP
  have HhR := Lib.hid hR
  clear hR
  have lKi := Ki.lt
  have cKi0 := Ki.cell 0
  have cKi1 := Ki.cell 1
  have cKi2 := Ki.cell 2
  have cKi3 := Ki.cell 3
  have lKm := Km.lt
  have cKm0 := Km.cell 0
  have cKm1 := Km.cell 1
  have cKm2 := Km.cell 2
  have cKm3 := Km.cell 3
  have cKm4 := Km.cell 4
  have cKm5 := Km.cell 5
  have lKp := Kp.lt
  have cKp0 := Kp.cell 0
  have cKp1 := Kp.cell 1
  have cKp2 := Kp.cell 2
  have lKr := Kr.lt
  have cKr0 := Kr.cell 0
  have cKr1 := Kr.cell 1
  have cKr2 := Kr.cell 2
  simp only [List.getElem?_toArray, List.getElem?_cons_succ, List.getElem?_cons_zero] at cKi0 cKi1 cKi2 cKi3 cKm0 cKm1 cKm2 cKm3 cKm4 cKm5 cKp0 cKp1 cKp2 cKr0 cKr1 cKr2
  clear HI1 HI3 HI4
  go_wp2_with fail
  have hst0 : Below w4.heap.size w4 w4 := by (repeat' (first | exact Below.refl _ _ | exact Below.refl _ _ | refine balloc ?_ _ | refine Below.drew ?_ | refine below_drewN ?_ _ | refine bset ?_ (by first | omega | (simp <;> omega)) _))
  refine (HAL.out _).mono ?_
  rintro e_ w5 ⟨gA, hgA, rfl, hAl, hb⟩
  clear hgA
  have hst : Below w4.heap.size w4 w5 := btrans hst0 hb
  replace Ki := Ki.below hb Ki.lt
  replace Km := Km.below hb Km.lt
  replace Kp := Kp.below hb Kp.lt
  replace Kr := Kr.below hb Kr.lt
  replace hbw : Below w.heap.size w w5 := btrans hbw hst
  replace HhP := Lib.hid (HhP.out.below hst)
  replace HhR := Lib.hid (HhR.out.below hst)
  clear hst hst0 hb lKi cKi0 cKi1 cKi2 cKi3 lKm cKm0 cKm1 cKm2 cKm3 cKm4 cKm5 lKp cKp0 cKp1 cKp2 lKr cKr0 cKr1 cKr2
  have HhAl := Lib.hid hAl
  clear hAl
  have lKi := Ki.lt
  have cKi0 := Ki.cell 0
  have cKi1 := Ki.cell 1
  have cKi2 := Ki.cell 2
  have cKi3 := Ki.cell 3
  have lKm := Km.lt
  have cKm0 := Km.cell 0
  have cKm1 := Km.cell 1
  have cKm2 := Km.cell 2
  have cKm3 := Km.cell 3
  have cKm4 := Km.cell 4
  have cKm5 := Km.cell 5
  have lKp := Kp.lt
  have cKp0 := Kp.cell 0
  have cKp1 := Kp.cell 1
  have cKp2 := Kp.cell 2
  have lKr := Kr.lt
  have cKr0 := Kr.cell 0
  have cKr1 := Kr.cell 1
  have cKr2 := Kr.cell 2
  simp only [List.getElem?_toArray, List.getElem?_cons_succ, List.getElem?_cons_zero] at cKi0 cKi1 cKi2 cKi3 cKm0 cKm1 cKm2 cKm3 cKm4 cKm5 cKp0 cKp1 cKp2 cKr0 cKr1 cKr2
  go_wp2_with fail
  have hst0 : Below w5.heap.size w5 (w5.alloc (.cells #[.int .i64 9, .int .i64 12, .slice (some ⟨gA, 0, none⟩) 12 12] 51)) := by (repeat' (first | exact Below.refl _ _ | exact Below.refl _ _ | refine balloc ?_ _ | refine Below.drew ?_ | refine below_drewN ?_ _ | refine bset ?_ (by first | omega | (simp <;> omega)) _))
  refine (HPT.out _ _ _ _ _ _ _ (HhP.out.below hst0) (HhAl.out.below hst0)).mono ?_
  rintro e_ w6 ⟨gx, fx, hgx, rfl, hX, hb⟩
  clear hgx
  have hst : Below w5.heap.size w5 w6 := btrans hst0 hb
  replace Ki := (Ki.alloc (.cells #[.int .i64 9, .int .i64 12, .slice (some ⟨gA, 0, none⟩) 12 12] 51))
  replace Km := (Km.alloc (.cells #[.int .i64 9, .int .i64 12, .slice (some ⟨gA, 0, none⟩) 12 12] 51))
  replace Kp := (Kp.alloc (.cells #[.int .i64 9, .int .i64 12, .slice (some ⟨gA, 0, none⟩) 12 12] 51))
  replace Kr := (Kr.alloc (.cells #[.int .i64 9, .int .i64 12, .slice (some ⟨gA, 0, none⟩) 12 12] 51))
  have KA := (Blk.new w5 51 #[.int .i64 9, .int .i64 12, .slice (some ⟨gA, 0, none⟩) 12 12])
  replace Ki := Ki.below hb Ki.lt
  replace Km := Km.below hb Km.lt
  replace Kp := Kp.below hb Kp.lt
  replace Kr := Kr.below hb Kr.lt
  replace KA := KA.below hb KA.lt
  replace hbw : Below w.heap.size w w6 := btrans hbw hst
  replace HhP := Lib.hid (HhP.out.below hst)
  replace HhR := Lib.hid (HhR.out.below hst)
  replace HhAl := Lib.hid (HhAl.out.below hst)
  clear hst hst0 hb lKi cKi0 cKi1 cKi2 cKi3 lKm cKm0 cKm1 cKm2 cKm3 cKm4 cKm5 lKp cKp0 cKp1 cKp2 lKr cKr0 cKr1 cKr2
  have HhX := Lib.hid hX
  clear hX
  have lKi := Ki.lt
  have cKi0 := Ki.cell 0
  have cKi1 := Ki.cell 1
  have cKi2 := Ki.cell 2
  have cKi3 := Ki.cell 3
  have lKm := Km.lt
  have cKm0 := Km.cell 0
  have cKm1 := Km.cell 1
  have cKm2 := Km.cell 2
  have cKm3 := Km.cell 3
  have cKm4 := Km.cell 4
  have cKm5 := Km.cell 5
  have lKp := Kp.lt
  have cKp0 := Kp.cell 0
  have cKp1 := Kp.cell 1
  have cKp2 := Kp.cell 2
  have lKr := Kr.lt
  have cKr0 := Kr.cell 0
  have cKr1 := Kr.cell 1
  have cKr2 := Kr.cell 2
  have lKA := KA.lt
  have cKA0 := KA.cell 0
  have cKA1 := KA.cell 1
  have cKA2 := KA.cell 2
  simp only [List.getElem?_toArray, List.getElem?_cons_succ, List.getElem?_cons_zero] at cKi0 cKi1 cKi2 cKi3 cKm0 cKm1 cKm2 cKm3 cKm4 cKm5 cKp0 cKp1 cKp2 cKr0 cKr1 cKr2 cKA0 cKA1 cKA2
  go_wp2_with (go_at_call 25; refine (HPL.out _).mono ?_; rintro e_ w_ ⟨rfl, rfl⟩)
  have hst0 : Below w6.heap.size w6 (w6.alloc (.cells #[.int .i64 9, .int .i64 12, .slice (some ⟨gx, 0, none⟩) N fx] 46)) := by (repeat' (first | exact Below.refl _ _ | exact Below.refl _ _ | refine balloc ?_ _ | refine Below.drew ?_ | refine below_drewN ?_ _ | refine bset ?_ (by first | omega | (simp <;> omega)) _))
  refine (HBD.out _ _ _ 0 k _ (HhR.out.below hst0)).mono ?_
  rintro e_ w7 ⟨gu, hgu, rfl, hU, hb⟩
  clear hgu
  have hst : Below w6.heap.size w6 w7 := btrans hst0 hb
  replace Ki := (Ki.alloc (.cells #[.int .i64 9, .int .i64 12, .slice (some ⟨gx, 0, none⟩) N fx] 46))
  replace Km := (Km.alloc (.cells #[.int .i64 9, .int .i64 12, .slice (some ⟨gx, 0, none⟩) N fx] 46))
  replace Kp := (Kp.alloc (.cells #[.int .i64 9, .int .i64 12, .slice (some ⟨gx, 0, none⟩) N fx] 46))
  replace Kr := (Kr.alloc (.cells #[.int .i64 9, .int .i64 12, .slice (some ⟨gx, 0, none⟩) N fx] 46))
  replace KA := (KA.alloc (.cells #[.int .i64 9, .int .i64 12, .slice (some ⟨gx, 0, none⟩) N fx] 46))
  have Kw := (Blk.new w6 46 #[.int .i64 9, .int .i64 12, .slice (some ⟨gx, 0, none⟩) N fx])
  replace Ki := Ki.below hb Ki.lt
  replace Km := Km.below hb Km.lt
  replace Kp := Kp.below hb Kp.lt
  replace Kr := Kr.below hb Kr.lt
  replace KA := KA.below hb KA.lt
  replace Kw := Kw.below hb Kw.lt
  replace hbw : Below w.heap.size w w7 := btrans hbw hst
  replace HhP := Lib.hid (HhP.out.below hst)
  replace HhR := Lib.hid (HhR.out.below hst)
  replace HhAl := Lib.hid (HhAl.out.below hst)
  replace HhX := Lib.hid (HhX.out.below hst)
  clear hst hst0 hb lKi cKi0 cKi1 cKi2 cKi3 lKm cKm0 cKm1 cKm2 cKm3 cKm4 cKm5 lKp cKp0 cKp1 cKp2 lKr cKr0 cKr1 cKr2 lKA cKA0 cKA1 cKA2 KA
  have HhU := Lib.hid hU
  clear hU
  have lKi := Ki.lt
  have cKi0 := Ki.cell 0
  have cKi1 := Ki.cell 1
  have cKi2 := Ki.cell 2
  have cKi3 := Ki.cell 3
  have lKm := Km.lt
  have cKm0 := Km.cell 0
  have cKm1 := Km.cell 1
  have cKm2 := Km.cell 2
  have cKm3 := Km.cell 3
  have cKm4 := Km.cell 4
  have cKm5 := Km.cell 5
  have lKp := Kp.lt
  have cKp0 := Kp.cell 0
  have cKp1 := Kp.cell 1
  have cKp2 := Kp.cell 2
  have lKr := Kr.lt
  have cKr0 := Kr.cell 0
  have cKr1 := Kr.cell 1
  have cKr2 := Kr.cell 2
  have lKw := Kw.lt
  have cKw0 := Kw.cell 0
  have cKw1 := Kw.cell 1
  have cKw2 := Kw.cell 2
  simp only [List.getElem?_toArray, List.getElem?_cons_succ, List.getElem?_cons_zero] at cKi0 cKi1 cKi2 cKi3 cKm0 cKm1 cKm2 cKm3 cKm4 cKm5 cKp0 cKp1 cKp2 cKr0 cKr1 cKr2 cKw0 cKw1 cKw2
  go_wp2_with fail
  have hst0 : Below w7.heap.size w7 (w7.alloc (.cells #[.int .i64 9, .int .i64 12, .slice (some ⟨gu, 0, none⟩) 12 12] 51)) := by (repeat' (first | exact Below.refl _ _ | exact Below.refl _ _ | refine balloc ?_ _ | refine Below.drew ?_ | refine below_drewN ?_ _ | refine bset ?_ (by first | omega | (simp <;> omega)) _))
  refine (HBD.out _ _ _ k 12 _ (HhR.out.below hst0)).mono ?_
  rintro e_ w8 ⟨gl, hgl, rfl, hL, hb⟩
  clear hgl
  have hst : Below w7.heap.size w7 w8 := btrans hst0 hb
  replace Ki := (Ki.alloc (.cells #[.int .i64 9, .int .i64 12, .slice (some ⟨gu, 0, none⟩) 12 12] 51))
  replace Km := (Km.alloc (.cells #[.int .i64 9, .int .i64 12, .slice (some ⟨gu, 0, none⟩) 12 12] 51))
  replace Kp := (Kp.alloc (.cells #[.int .i64 9, .int .i64 12, .slice (some ⟨gu, 0, none⟩) 12 12] 51))
  replace Kr := (Kr.alloc (.cells #[.int .i64 9, .int .i64 12, .slice (some ⟨gu, 0, none⟩) 12 12] 51))
  replace Kw := (Kw.alloc (.cells #[.int .i64 9, .int .i64 12, .slice (some ⟨gu, 0, none⟩) 12 12] 51))
  have Ku := (Blk.new w7 51 #[.int .i64 9, .int .i64 12, .slice (some ⟨gu, 0, none⟩) 12 12])
  replace Ki := Ki.below hb Ki.lt
  replace Km := Km.below hb Km.lt
  replace Kp := Kp.below hb Kp.lt
  replace Kr := Kr.below hb Kr.lt
  replace Kw := Kw.below hb Kw.lt
  replace Ku := Ku.below hb Ku.lt
  replace hbw : Below w.heap.size w w8 := btrans hbw hst
  replace HhP := Lib.hid (HhP.out.below hst)
  replace HhR := Lib.hid (HhR.out.below hst)
  replace HhAl := Lib.hid (HhAl.out.below hst)
  replace HhX := Lib.hid (HhX.out.below hst)
  replace HhU := Lib.hid (HhU.out.below hst)
  clear hst hst0 hb lKi cKi0 cKi1 cKi2 cKi3 lKm cKm0 cKm1 cKm2 cKm3 cKm4 cKm5 lKp cKp0 cKp1 cKp2 lKr cKr0 cKr1 cKr2 lKw cKw0 cKw1 cKw2
  have HhL := Lib.hid hL
  clear hL
  have lKi := Ki.lt
  have cKi0 := Ki.cell 0
  have cKi1 := Ki.cell 1
  have cKi2 := Ki.cell 2
  have cKi3 := Ki.cell 3
  have lKm := Km.lt
  have cKm0 := Km.cell 0
  have cKm1 := Km.cell 1
  have cKm2 := Km.cell 2
  have cKm3 := Km.cell 3
  have cKm4 := Km.cell 4
  have cKm5 := Km.cell 5
  have lKp := Kp.lt
  have cKp0 := Kp.cell 0
  have cKp1 := Kp.cell 1
  have cKp2 := Kp.cell 2
  have lKr := Kr.lt
  have cKr0 := Kr.cell 0
  have cKr1 := Kr.cell 1
  have cKr2 := Kr.cell 2
  have lKw := Kw.lt
  have cKw0 := Kw.cell 0
  have cKw1 := Kw.cell 1
  have cKw2 := Kw.cell 2
  have lKu := Ku.lt
  have cKu0 := Ku.cell 0
  have cKu1 := Ku.cell 1
  have cKu2 := Ku.cell 2
  simp only [List.getElem?_toArray, List.getElem?_cons_succ, List.getElem?_cons_zero] at cKi0 cKi1 cKi2 cKi3 cKm0 cKm1 cKm2 cKm3 cKm4 cKm5 cKp0 cKp1 cKp2 cKr0 cKr1 cKr2 cKw0 cKw1 cKw2 cKu0 cKu1 cKu2
  go_wp2_with fail
  have hst0 : Below w8.heap.size w8 (w8.alloc (.cells #[.int .i64 9, .int .i64 12, .slice (some ⟨gl, 0, none⟩) 12 12] 51)) := by (repeat' (first | exact Below.refl _ _ | exact Below.refl _ _ | refine balloc ?_ _ | refine Below.drew ?_ | refine below_drewN ?_ _ | refine bset ?_ (by first | omega | (simp <;> omega)) _))
  refine (HPT.out _ _ _ _ _ _ _ (HhP.out.below hst0) (HhU.out.below hst0)).mono ?_
  rintro e_ w9 ⟨gy, fy, hgy, rfl, hXx, hb⟩
  clear hgy
  have hst : Below w8.heap.size w8 w9 := btrans hst0 hb
  replace Ki := (Ki.alloc (.cells #[.int .i64 9, .int .i64 12, .slice (some ⟨gl, 0, none⟩) 12 12] 51))
  replace Km := (Km.alloc (.cells #[.int .i64 9, .int .i64 12, .slice (some ⟨gl, 0, none⟩) 12 12] 51))
  replace Kp := (Kp.alloc (.cells #[.int .i64 9, .int .i64 12, .slice (some ⟨gl, 0, none⟩) 12 12] 51))
  replace Kr := (Kr.alloc (.cells #[.int .i64 9, .int .i64 12, .slice (some ⟨gl, 0, none⟩) 12 12] 51))
  replace Kw := (Kw.alloc (.cells #[.int .i64 9, .int .i64 12, .slice (some ⟨gl, 0, none⟩) 12 12] 51))
  replace Ku := (Ku.alloc (.cells #[.int .i64 9, .int .i64 12, .slice (some ⟨gl, 0, none⟩) 12 12] 51))
  have Kl := (Blk.new w8 51 #[.int .i64 9, .int .i64 12, .slice (some ⟨gl, 0, none⟩) 12 12])
  replace Ki := Ki.below hb Ki.lt
  replace Km := Km.below hb Km.lt
  replace Kp := Kp.below hb Kp.lt
  replace Kr := Kr.below hb Kr.lt
  replace Kw := Kw.below hb Kw.lt
  replace Ku := Ku.below hb Ku.lt
  replace Kl := Kl.below hb Kl.lt
  replace hbw : Below w.heap.size w w9 := btrans hbw hst
  replace HhP := Lib.hid (HhP.out.below hst)
  replace HhR := Lib.hid (HhR.out.below hst)
  replace HhAl := Lib.hid (HhAl.out.below hst)
  replace HhX := Lib.hid (HhX.out.below hst)
  replace HhU := Lib.hid (HhU.out.below hst)
  replace HhL := Lib.hid (HhL.out.below hst)
  clear hst hst0 hb lKi cKi0 cKi1 cKi2 cKi3 lKm cKm0 cKm1 cKm2 cKm3 cKm4 cKm5 lKp cKp0 cKp1 cKp2 lKr cKr0 cKr1 cKr2 lKw cKw0 cKw1 cKw2 lKu cKu0 cKu1 cKu2
  have HhXx := Lib.hid hXx
  clear hXx
  have lKi := Ki.lt
  have cKi0 := Ki.cell 0
  have cKi1 := Ki.cell 1
  have cKi2 := Ki.cell 2
  have cKi3 := Ki.cell 3
  have lKm := Km.lt
  have cKm0 := Km.cell 0
  have cKm1 := Km.cell 1
  have cKm2 := Km.cell 2
  have cKm3 := Km.cell 3
  have cKm4 := Km.cell 4
  have cKm5 := Km.cell 5
  have lKp := Kp.lt
  have cKp0 := Kp.cell 0
  have cKp1 := Kp.cell 1
  have cKp2 := Kp.cell 2
  have lKr := Kr.lt
  have cKr0 := Kr.cell 0
  have cKr1 := Kr.cell 1
  have cKr2 := Kr.cell 2
  have lKw := Kw.lt
  have cKw0 := Kw.cell 0
  have cKw1 := Kw.cell 1
  have cKw2 := Kw.cell 2
  have lKu := Ku.lt
  have cKu0 := Ku.cell 0
  have cKu1 := Ku.cell 1
  have cKu2 := Ku.cell 2
  have lKl := Kl.lt
  have cKl0 := Kl.cell 0
  have cKl1 := Kl.cell 1
  have cKl2 := Kl.cell 2
  simp only [List.getElem?_toArray, List.getElem?_cons_succ, List.getElem?_cons_zero] at cKi0 cKi1 cKi2 cKi3 cKm0 cKm1 cKm2 cKm3 cKm4 cKm5 cKp0 cKp1 cKp2 cKr0 cKr1 cKr2 cKw0 cKw1 cKw2 cKu0 cKu1 cKu2 cKl0 cKl1 cKl2
  go_wp2_with fail
  have hst0 : Below w9.heap.size w9 (w9.alloc (.cells #[.int .i64 9, .int .i64 12, .slice (some ⟨gy, 0, none⟩) N fy] 46)) := by (repeat' (first | exact Below.refl _ _ | exact Below.refl _ _ | refine balloc ?_ _ | refine Below.drew ?_ | refine below_drewN ?_ _ | refine bset ?_ (by first | omega | (simp <;> omega)) _))
  refine (HPT.out _ _ _ _ _ _ _ (HhXx.out.below hst0) (HhL.out.below hst0)).mono ?_
  rintro e_ w10 ⟨gz, fz, hgz, rfl, hY, hb⟩
  clear hgz
  have hst : Below w9.heap.size w9 w10 := btrans hst0 hb
  replace Ki := (Ki.alloc (.cells #[.int .i64 9, .int .i64 12, .slice (some ⟨gy, 0, none⟩) N fy] 46))
  replace Km := (Km.alloc (.cells #[.int .i64 9, .int .i64 12, .slice (some ⟨gy, 0, none⟩) N fy] 46))
  replace Kp := (Kp.alloc (.cells #[.int .i64 9, .int .i64 12, .slice (some ⟨gy, 0, none⟩) N fy] 46))
  replace Kr := (Kr.alloc (.cells #[.int .i64 9, .int .i64 12, .slice (some ⟨gy, 0, none⟩) N fy] 46))
  replace Kw := (Kw.alloc (.cells #[.int .i64 9, .int .i64 12, .slice (some ⟨gy, 0, none⟩) N fy] 46))
  replace Ku := (Ku.alloc (.cells #[.int .i64 9, .int .i64 12, .slice (some ⟨gy, 0, none⟩) N fy] 46))
  replace Kl := (Kl.alloc (.cells #[.int .i64 9, .int .i64 12, .slice (some ⟨gy, 0, none⟩) N fy] 46))
  have Kx := (Blk.new w9 46 #[.int .i64 9, .int .i64 12, .slice (some ⟨gy, 0, none⟩) N fy])
  replace Ki := Ki.below hb Ki.lt
  replace Km := Km.below hb Km.lt
  replace Kp := Kp.below hb Kp.lt
  replace Kr := Kr.below hb Kr.lt
  replace Kw := Kw.below hb Kw.lt
  replace Ku := Ku.below hb Ku.lt
  replace Kl := Kl.below hb Kl.lt
  replace Kx := Kx.below hb Kx.lt
  replace hbw : Below w.heap.size w w10 := btrans hbw hst
  replace HhP := Lib.hid (HhP.out.below hst)
  replace HhR := Lib.hid (HhR.out.below hst)
  replace HhAl := Lib.hid (HhAl.out.below hst)
  replace HhX := Lib.hid (HhX.out.below hst)
  replace HhU := Lib.hid (HhU.out.below hst)
  replace HhL := Lib.hid (HhL.out.below hst)
  replace HhXx := Lib.hid (HhXx.out.below hst)
  clear hst hst0 hb lKi cKi0 cKi1 cKi2 cKi3 lKm cKm0 cKm1 cKm2 cKm3 cKm4 cKm5 lKp cKp0 cKp1 cKp2 lKr cKr0 cKr1 cKr2 lKw cKw0 cKw1 cKw2 lKu cKu0 cKu1 cKu2 lKl cKl0 cKl1 cKl2 Ku
  have HhY := Lib.hid hY
  clear hY
  have lKi := Ki.lt
  have cKi0 := Ki.cell 0
  have cKi1 := Ki.cell 1
  have cKi2 := Ki.cell 2
  have cKi3 := Ki.cell 3
  have lKm := Km.lt
  have cKm0 := Km.cell 0
  have cKm1 := Km.cell 1
  have cKm2 := Km.cell 2
  have cKm3 := Km.cell 3
  have cKm4 := Km.cell 4
  have cKm5 := Km.cell 5
  have lKp := Kp.lt
  have cKp0 := Kp.cell 0
  have cKp1 := Kp.cell 1
  have cKp2 := Kp.cell 2
  have lKr := Kr.lt
  have cKr0 := Kr.cell 0
  have cKr1 := Kr.cell 1
  have cKr2 := Kr.cell 2
  have lKw := Kw.lt
  have cKw0 := Kw.cell 0
  have cKw1 := Kw.cell 1
  have cKw2 := Kw.cell 2
  have lKl := Kl.lt
  have cKl0 := Kl.cell 0
  have cKl1 := Kl.cell 1
  have cKl2 := Kl.cell 2
  have lKx := Kx.lt
  have cKx0 := Kx.cell 0
  have cKx1 := Kx.cell 1
  have cKx2 := Kx.cell 2
  simp only [List.getElem?_toArray, List.getElem?_cons_succ, List.getElem?_cons_zero] at cKi0 cKi1 cKi2 cKi3 cKm0 cKm1 cKm2 cKm3 cKm4 cKm5 cKp0 cKp1 cKp2 cKr0 cKr1 cKr2 cKw0 cKw1 cKw2 cKl0 cKl1 cKl2 cKx0 cKx1 cKx2
  go_wp2_with fail
  have hst0 : Below w10.heap.size w10 (w10.alloc (.cells #[.int .i64 9, .int .i64 12, .slice (some ⟨gz, 0, none⟩) N fz] 46)) := by (repeat' (first | exact Below.refl _ _ | exact Below.refl _ _ | refine balloc ?_ _ | refine Below.drew ?_ | refine below_drewN ?_ _ | refine bset ?_ (by first | omega | (simp <;> omega)) _))
  refine (HLA.out _ _ _ _ _ _ _ _ _ _ (HhP.out.below hst0) (HhX.out.below hst0) (HhR.out.below hst0)).mono ?_
  rintro e_ w11 ⟨gv, fv, hgv, rfl, hV, hb⟩
  clear hgv
  have hst : Below w10.heap.size w10 w11 := btrans hst0 hb
  replace Ki := (Ki.alloc (.cells #[.int .i64 9, .int .i64 12, .slice (some ⟨gz, 0, none⟩) N fz] 46))
  replace Km := (Km.alloc (.cells #[.int .i64 9, .int .i64 12, .slice (some ⟨gz, 0, none⟩) N fz] 46))
  replace Kp := (Kp.alloc (.cells #[.int .i64 9, .int .i64 12, .slice (some ⟨gz, 0, none⟩) N fz] 46))
  replace Kr := (Kr.alloc (.cells #[.int .i64 9, .int .i64 12, .slice (some ⟨gz, 0, none⟩) N fz] 46))
  replace Kw := (Kw.alloc (.cells #[.int .i64 9, .int .i64 12, .slice (some ⟨gz, 0, none⟩) N fz] 46))
  replace Kl := (Kl.alloc (.cells #[.int .i64 9, .int .i64 12, .slice (some ⟨gz, 0, none⟩) N fz] 46))
  replace Kx := (Kx.alloc (.cells #[.int .i64 9, .int .i64 12, .slice (some ⟨gz, 0, none⟩) N fz] 46))
  have Ky := (Blk.new w10 46 #[.int .i64 9, .int .i64 12, .slice (some ⟨gz, 0, none⟩) N fz])
  replace Ki := Ki.below hb Ki.lt
  replace Km := Km.below hb Km.lt
  replace Kp := Kp.below hb Kp.lt
  replace Kr := Kr.below hb Kr.lt
  replace Kw := Kw.below hb Kw.lt
  replace Kl := Kl.below hb Kl.lt
  replace Kx := Kx.below hb Kx.lt
  replace Ky := Ky.below hb Ky.lt
  replace hbw : Below w.heap.size w w11 := btrans hbw hst
  replace HhP := Lib.hid (HhP.out.below hst)
  replace HhR := Lib.hid (HhR.out.below hst)
  replace HhAl := Lib.hid (HhAl.out.below hst)
  replace HhX := Lib.hid (HhX.out.below hst)
  replace HhU := Lib.hid (HhU.out.below hst)
  replace HhL := Lib.hid (HhL.out.below hst)
  replace HhXx := Lib.hid (HhXx.out.below hst)
  replace HhY := Lib.hid (HhY.out.below hst)
  clear hst hst0 hb lKi cKi0 cKi1 cKi2 cKi3 lKm cKm0 cKm1 cKm2 cKm3 cKm4 cKm5 lKp cKp0 cKp1 cKp2 lKr cKr0 cKr1 cKr2 lKw cKw0 cKw1 cKw2 lKl cKl0 cKl1 cKl2 lKx cKx0 cKx1 cKx2 Ki Km Kl Kx
  have HhV := Lib.hid hV
  clear hV
  have lKp := Kp.lt
  have cKp0 := Kp.cell 0
  have cKp1 := Kp.cell 1
  have cKp2 := Kp.cell 2
  have lKr := Kr.lt
  have cKr0 := Kr.cell 0
  have cKr1 := Kr.cell 1
  have cKr2 := Kr.cell 2
  have lKw := Kw.lt
  have cKw0 := Kw.cell 0
  have cKw1 := Kw.cell 1
  have cKw2 := Kw.cell 2
  have lKy := Ky.lt
  have cKy0 := Ky.cell 0
  have cKy1 := Ky.cell 1
  have cKy2 := Ky.cell 2
  simp only [List.getElem?_toArray, List.getElem?_cons_succ, List.getElem?_cons_zero] at cKp0 cKp1 cKp2 cKr0 cKr1 cKr2 cKw0 cKw1 cKw2 cKy0 cKy1 cKy2
  go_wp2_with fail
  have hst0 : Below w11.heap.size w11 (w11.alloc (.cells #[.int .i64 9, .int .i64 12, .slice (some ⟨gv, 0, none⟩) N fv] 46)) := by (repeat' (first | exact Below.refl _ _ | exact Below.refl _ _ | refine balloc ?_ _ | refine Below.drew ?_ | refine below_drewN ?_ _ | refine bset ?_ (by first | omega | (simp <;> omega)) _))
  refine (HPS.out _ _ _ _ _ _ _ (HhY.out.below hst0) (HhV.out.below hst0) (fun t ht => HCP.out _ _ _ _ t ht)).mono ?_
  rintro e_ w12 ⟨rfl, hb⟩
  have hst : Below w11.heap.size w11 w12 := btrans hst0 hb
  replace Kp := (Kp.alloc (.cells #[.int .i64 9, .int .i64 12, .slice (some ⟨gv, 0, none⟩) N fv] 46))
  replace Kr := (Kr.alloc (.cells #[.int .i64 9, .int .i64 12, .slice (some ⟨gv, 0, none⟩) N fv] 46))
  replace Kw := (Kw.alloc (.cells #[.int .i64 9, .int .i64 12, .slice (some ⟨gv, 0, none⟩) N fv] 46))
  replace Ky := (Ky.alloc (.cells #[.int .i64 9, .int .i64 12, .slice (some ⟨gv, 0, none⟩) N fv] 46))
  have Kv := (Blk.new w11 46 #[.int .i64 9, .int .i64 12, .slice (some ⟨gv, 0, none⟩) N fv])
  replace Kp := Kp.below hb Kp.lt
  replace Kr := Kr.below hb Kr.lt
  replace Kw := Kw.below hb Kw.lt
  replace Ky := Ky.below hb Ky.lt
  replace Kv := Kv.below hb Kv.lt
  replace hbw : Below w.heap.size w w12 := btrans hbw hst
  replace HhP := Lib.hid (HhP.out.below hst)
  replace HhR := Lib.hid (HhR.out.below hst)
  replace HhAl := Lib.hid (HhAl.out.below hst)
  replace HhX := Lib.hid (HhX.out.below hst)
  replace HhU := Lib.hid (HhU.out.below hst)
  replace HhL := Lib.hid (HhL.out.below hst)
  replace HhXx := Lib.hid (HhXx.out.below hst)
  replace HhY := Lib.hid (HhY.out.below hst)
  replace HhV := Lib.hid (HhV.out.below hst)
  clear hst hst0 hb lKp cKp0 cKp1 cKp2 lKr cKr0 cKr1 cKr2 lKw cKw0 cKw1 cKw2 lKy cKy0 cKy1 cKy2
  have lKp := Kp.lt
  have cKp0 := Kp.cell 0
  have cKp1 := Kp.cell 1
  have cKp2 := Kp.cell 2
  have lKr := Kr.lt
  have cKr0 := Kr.cell 0
  have cKr1 := Kr.cell 1
  have cKr2 := Kr.cell 2
  have lKw := Kw.lt
  have cKw0 := Kw.cell 0
  have cKw1 := Kw.cell 1
  have cKw2 := Kw.cell 2
  have lKy := Ky.lt
  have cKy0 := Ky.cell 0
  have cKy1 := Ky.cell 1
  have cKy2 := Ky.cell 2
  have lKv := Kv.lt
  have cKv0 := Kv.cell 0
  have cKv1 := Kv.cell 1
  have cKv2 := Kv.cell 2
  simp only [List.getElem?_toArray, List.getElem?_cons_succ, List.getElem?_cons_zero] at cKp0 cKp1 cKp2 cKr0 cKr1 cKr2 cKw0 cKw1 cKw2 cKy0 cKy1 cKy2 cKv0 cKv1 cKv2
  go_wp2_with fail
  go_ret
  exact ⟨rfl, by (repeat' (first | refine bset ?_ (by first | omega | (simp <;> omega)) _ | refine balloc ?_ _ | refine Below.drew ?_ | refine below_drewN ?_ _ | exact hbw | exact Below.refl _ _))⟩

theorem iclips_law (A : Option Addr) (n c : Nat) (ns : Nat → Int) (bits a0 a1 a2 a3 a4 a5 : Int) (A3 : Option Addr) (n3 c3 : Nat) (ns3 : Nat → Int) (A4 : Option Addr) (n4 c4 : Nat) (ns4 : Nat → Int) (at_ : Int) (w : World) (hr : Ints w A n c ns) (hn : n ≤ 9223372036854775807) (_h0 : -9223372036854775808 ≤ bits ∧ bits ≤ 9223372036854775807) (_h1 : -9223372036854775808 ≤ a0 ∧ a0 ≤ 9223372036854775807) (_h2 : -9223372036854775808 ≤ a1 ∧ a1 ≤ 9223372036854775807) (_h3 : -9223372036854775808 ≤ a2 ∧ a2 ≤ 9223372036854775807) (_h4 : -9223372036854775808 ≤ a3 ∧ a3 ≤ 9223372036854775807) (_h5 : -9223372036854775808 ≤ a4 ∧ a4 ≤ 9223372036854775807) (_h6 : -9223372036854775808 ≤ a5 ∧ a5 ≤ 9223372036854775807) (hr3 : Ints w A3 n3 c3 ns3) (hn3 : n3 ≤ 9223372036854775807) (hr4 : Ints w A4 n4 c4 ns4) (hn4 : n4 ≤ 9223372036854775807) (_ht : -9223372036854775808 ≤ at_ ∧ at_ ≤ 9223372036854775807) :
    Calls Try.prog 9 #[.slice A n c, .int .i64 bits, .agg #[.int .i64 a0, .int .i64 a1, .int .i64 a2, .int .i64 a3, .int .i64 a4, .int .i64 a5], .slice A3 n3 c3, .slice A4 n4 c4, .int .i64 at_] w fun ed w' => ed = .returned (.bool true) ∧ Below w.heap.size w w' := by
  obtain ⟨W, H, B, s, hB, hmay, hW9, hH9, hMd⟩ := made_b A n c ns bits hn
  obtain ⟨a, b, c2, d, e, f, hmat, hTu⟩ := turn_b a0 a1 a2 a3 a4 a5
  by_cases hd : a * d - b * c2 = 0
  · exact iclips_zero A n c ns bits a0 a1 a2 a3 a4 a5 A3 n3 c3 ns3 A4 n4 c4 ns4 at_ W H B a b c2 d e f s w hr hr3 hn3 hr4 hn4 (Lib.hid hMd) (Lib.hid hTu) hmay hmat hd
  · exact iclips_yes A n c ns bits a0 a1 a2 a3 a4 a5 A3 n3 c3 ns3 A4 n4 c4 ns4 at_ W H B a b c2 d e f s w hr hr3 hn3 hr4 hn4 (Lib.hid hMd) (Lib.hid hTu) hmay hmat hd
end Go.Proofs.Ytegpjjkbbdfggaa.im
