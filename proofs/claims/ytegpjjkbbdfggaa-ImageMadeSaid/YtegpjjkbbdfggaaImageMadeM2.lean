/-
  Lemmas for ImageMade: LawIMade.
-/
import Derived.Test.YtegpjjkbbdfggaaImageMadeM1

/-
  ImageMade: lines, regions and pages of pictures by numbers, against the document's answer.
-/
namespace Go.Proofs.Ytegpjjkbbdfggaa.im
set_option linter.unusedVariables false
set_option linter.unusedSimpArgs false
open Go.RowKit bs op rg mt
set_option maxRecDepth 100000 in
set_option maxHeartbeats 3200000 in
theorem ilmade_zero (A : Option Addr) (n c : Nat) (ns : Nat → Int) (bits a0 a1 a2 a3 a4 a5 y ty : Int) (A3 : Option Addr) (n3 c3 : Nat) (ns3 : Nat → Int) (W H B a b c2 d e f : Int) (s : ByteArray) (w : World) (hr : Ints w A n c ns) (hr3 : Ints w A3 n3 c3 ns3) (hn3 : n3 ≤ 9223372036854775807)
    (HMd : Hid (∀ W', Ints W' A n c ns → Calls Try.prog 23 #[.slice A n c, .int .i64 bits] W' fun ed w' => ed = .returned (.agg #[.int .i64 W, .int .i64 H, .int .i64 B, .string s]) ∧ Below W'.heap.size W' w'))
    (HTu : Hid (∀ W', Calls Try.prog 24 #[.agg #[.int .i64 a0, .int .i64 a1, .int .i64 a2, .int .i64 a3, .int .i64 a4, .int .i64 a5]] W' fun ed w' => ed = .returned (.agg #[.int .i64 a, .int .i64 b, .int .i64 c2, .int .i64 d, .int .i64 e, .int .i64 f]) ∧ Below W'.heap.size W' w'))
    (HPY : Hid (∀ W', Calls Try.prog 25 #[.int .i64 y, .int .i64 300] W' fun ed w' => ed = .returned (.int .i64 (ty + 40)) ∧ W' = w'))
    (hty0 : -40 ≤ ty) (hty1 : ty ≤ 260)
    (hmay : mayI W H B s.size = true) (hmat : mt.mayB a b c2 d e f = true) (hd : a * d - b * c2 = 0) :
    Calls Try.prog 10 #[.slice A n c, .int .i64 bits, .agg #[.int .i64 a0, .int .i64 a1, .int .i64 a2, .int .i64 a3, .int .i64 a4, .int .i64 a5], .int .i64 y, .slice A3 n3 c3] w fun ed w' => ed = .returned (.bool true) ∧ Below w.heap.size w w' := by
  have hs := may_size hmay
  obtain ⟨N, hN⟩ : ∃ N, N = 3 * (9 * 7) := ⟨_, rfl⟩
  have HPG := Lib.hid (fun W' h => lpage_any A3 n3 c3 ns3 9 7 N W' h hn3 (by decide) (by decide) hN)
  have HM3 := Lib.hid (fun W' h => lmade_any A3 n3 c3 ns3 9 7 W' h hn3 (by decide) (by decide))
  have HMY := Lib.hid (fun W' => by have := may37_any W H B s W' hs; rwa [hmay] at this)
  obtain ⟨Z, hZ⟩ : ∃ Z : Nat → Int, (fun (k : Nat) => AtV W H B s a b c2 d e f (16 * (k : Int) + 8) ty) = Z := ⟨_, rfl⟩
  have hZ1 : ∀ k : Nat, AtV W H B s a b c2 d e f (16 * (k : Int) + 8) ty = Z k := fun k => by rw [← hZ]
  have HA1 := Lib.hid (fun (k : Nat) W' => show Calls Try.prog 18 #[.agg #[.int .i64 W, .int .i64 H, .int .i64 B, .string s], .agg #[.int .i64 a, .int .i64 b, .int .i64 c2, .int .i64 d, .int .i64 e, .int .i64 f], .int .i64 (16 * (k : Int) + 8), .int .i64 ty] W' fun ed w' => ed = .returned (.int .i64 (Z k)) ∧ Below W'.heap.size W' w' by
    have := At_any W H B a b c2 d e f (16 * (k : Int) + 8) ty s W' hs
    rwa [hZ1] at this)
  have HA2 := Lib.hid (fun (k : Nat) W' => show Calls Try.prog 19 #[.agg #[.int .i64 W, .int .i64 H, .int .i64 B, .string s], .agg #[.int .i64 a, .int .i64 b, .int .i64 c2, .int .i64 d, .int .i64 e, .int .i64 f], .int .i64 (16 * (k : Int) + 8), .int .i64 ty] W' fun ed w' => ed = .returned (.int .i64 (Z k)) ∧ Below W'.heap.size W' w' by
    have := rAt_any W H B a b c2 d e f (16 * (k : Int) + 8) ty s W' hs
    rwa [hZ1] at this)
  have HLN := Lib.hid (fun W' => show Calls Try.prog 21 #[.agg #[.int .i64 W, .int .i64 H, .int .i64 B, .string s], .agg #[.int .i64 a, .int .i64 b, .int .i64 c2, .int .i64 d, .int .i64 e, .int .i64 f], .int .i64 ty, .int .i64 16] W' fun ed w' => ∃ lb lc l, ed = .returned (.slice (some ⟨lb, 0, none⟩) 16 lc) ∧ IntsV w' (.slice (some ⟨lb, 0, none⟩) 16 lc) l ∧ l.length = 16 ∧ (∀ (i : Nat) (hi : i < l.length), l[i] = Z i) ∧ Below W'.heap.size W' w' from
    (Line_any W H B a b c2 d e f ty 16 s W' hs (by decide)).mono fun ed w' ⟨lv, e1, e2, e3⟩ => by
      have hll := lineL_len W H B s a b c2 d e f ty 16
      obtain ⟨lb, lc, e4⟩ := e2.shape (by rw [hll]; decide)
      rw [hll] at e4
      subst e4
      exact ⟨lb, lc, _, e1, e2, hll, fun i hi => by rw [lineL_get, hZ1], e3⟩)
  have HPT := Lib.hid (fun cp dr A D R W' hr => paint_det0 W H B a b c2 d e f s 9 7 N cp dr A D R W' (by decide) (by decide) hN hs hmay hmat hd hr)
  have HRG := Lib.hid (fun W' => over_det0 W H B a b c2 d e f s 9 7 W' (by decide) (by decide) hs hmay hmat hd)
  have HRP := Lib.hid (fun cp dr A D R W' hr => rpaint_det0 W H B a b c2 d e f s 9 7 N cp dr A D R W' (by decide) (by decide) hN hs hmay hmat hd hr)
  have HRR := Lib.hid (fun W' => rover_det0 W H B a b c2 d e f s 9 7 W' (by decide) (by decide) hs hmay hmat hd)
  have HHR := Lib.hid (fun W' => hregion_nil W')
  have HHP := Lib.hid (fun W' => hpage_nil W')
  clear hZ hZ1 hs hmay hmat hd hN
  go_enter Try.func10, Try.ntmps10
  go_wp2_with fail
  have hst0 : Below w.heap.size w (w.alloc (.cells #[.int .i64 a0, .int .i64 a1, .int .i64 a2, .int .i64 a3, .int .i64 a4, .int .i64 a5] 34)) := by (repeat' (first | exact Below.refl _ _ | exact Below.refl _ _ | refine balloc ?_ _ | refine Below.drew ?_ | refine below_drewN ?_ _ | refine bset ?_ (by first | omega | (simp <;> omega)) _))
  refine (known_any _).mono ?_
  rintro e_ w1 ⟨rfl, hb⟩
  have hst : Below w.heap.size w w1 := btrans hst0 hb
  have Ka := (Blk.new w 34 #[.int .i64 a0, .int .i64 a1, .int .i64 a2, .int .i64 a3, .int .i64 a4, .int .i64 a5])
  replace Ka := Ka.below hb Ka.lt
  have hbw : Below w.heap.size w w1 := hst
  clear hst hst0 hb 
  have lKa := Ka.lt
  have cKa0 := Ka.cell 0
  have cKa1 := Ka.cell 1
  have cKa2 := Ka.cell 2
  have cKa3 := Ka.cell 3
  have cKa4 := Ka.cell 4
  have cKa5 := Ka.cell 5
  simp only [List.getElem?_toArray, List.getElem?_cons_succ, List.getElem?_cons_zero] at cKa0 cKa1 cKa2 cKa3 cKa4 cKa5
  go_wp2_with fail
  refine wp_region_alloc2 5 [] (.cells #[.int .i64 0, .int .i64 0, .int .i64 0, .string ⟨#[]⟩] 23) (.cells #[.int .i64 0, .int .i64 0, .int .i64 0, .int .i64 0, .int .i64 0, .int .i64 0] 25) _ _ (by kernel_rfl) (by kernel_rfl) (fun d _ _ _ _ h => by cases d <;> exact h) rfl rfl (fun ρ w => alloc_img2 _ _ _ _ _ ρ w) (fun ρ w => alloc_mat2 _ _ _ _ _ ρ w) ?_
  intro u0
  have uKa0 : ∀ u : Up u0.val, u.val.cell? ⟨w.heap.size, 0, none⟩ = some (.int .i64 a0) := fun u => ((u.cell (Nat.lt_of_lt_of_le lKa u0.ok.size)).trans (u0.cell lKa)).trans cKa0
  have uKa1 : ∀ u : Up u0.val, u.val.cell? ⟨w.heap.size, 1, none⟩ = some (.int .i64 a1) := fun u => ((u.cell (Nat.lt_of_lt_of_le lKa u0.ok.size)).trans (u0.cell lKa)).trans cKa1
  have uKa2 : ∀ u : Up u0.val, u.val.cell? ⟨w.heap.size, 2, none⟩ = some (.int .i64 a2) := fun u => ((u.cell (Nat.lt_of_lt_of_le lKa u0.ok.size)).trans (u0.cell lKa)).trans cKa2
  have uKa3 : ∀ u : Up u0.val, u.val.cell? ⟨w.heap.size, 3, none⟩ = some (.int .i64 a3) := fun u => ((u.cell (Nat.lt_of_lt_of_le lKa u0.ok.size)).trans (u0.cell lKa)).trans cKa3
  have uKa4 : ∀ u : Up u0.val, u.val.cell? ⟨w.heap.size, 4, none⟩ = some (.int .i64 a4) := fun u => ((u.cell (Nat.lt_of_lt_of_le lKa u0.ok.size)).trans (u0.cell lKa)).trans cKa4
  have uKa5 : ∀ u : Up u0.val, u.val.cell? ⟨w.heap.size, 5, none⟩ = some (.int .i64 a5) := fun u => ((u.cell (Nat.lt_of_lt_of_le lKa u0.ok.size)).trans (u0.cell lKa)).trans cKa5
  have HU1 := Lib.hid (fun u : Up u0.val => up_of (u := u) (HMd.out u.val (hr.below (btrans (btrans hbw u0.ok) u.ok))))
  have HU2 := Lib.hid (fun u : Up u0.val => up_of (u := u) (HTu.out u.val))
  simp only [List.take_succ_cons, List.take_zero, List.drop_succ_cons, List.drop_zero]
  repeat (go_big_quiet_step (fail))
  go_big_quiet_step (exact HU1.out _)
  repeat (go_big_quiet_step (fail))
  go_big_quiet_step (exact HU2.out _)
  repeat (go_big_quiet_step (fail))
  refine wpQuiet_nil ?_
  rintro _ ⟨uq, rfl⟩ Pi Pm ⟨hi0, hi1, Ki⟩ ⟨hm0, hm1, Km⟩ hne
  replace Ki : Blk uq.val Pi 23 #[.int .i64 0, .int .i64 0, .int .i64 0, .string ⟨#[]⟩] := Ki
  replace Km : Blk uq.val Pm 25 #[.int .i64 0, .int .i64 0, .int .i64 0, .int .i64 0, .int .i64 0, .int .i64 0] := Km
  have hs0 := hbw.size
  replace hbw := btrans hbw uq.ok
  simp only [Act.put]
  generalize hwx : uq.val = w2 at *
  clear hwx uq u0 Ka HU1 HU2 HMd HTu uKa0 uKa1 uKa2 uKa3 uKa4 uKa5 lKa cKa0 cKa1 cKa2 cKa3 cKa4 cKa5
  have ci0 := Ki.cell 0
  have fi0 := Ki.frozen 0
  have ci1 := Ki.cell 1
  have fi1 := Ki.frozen 1
  have ci2 := Ki.cell 2
  have fi2 := Ki.frozen 2
  have ci3 := Ki.cell 3
  have fi3 := Ki.frozen 3
  have cm0 := Km.cell 0
  have fm0 := Km.frozen 0
  have cm1 := Km.cell 1
  have fm1 := Km.frozen 1
  have cm2 := Km.cell 2
  have fm2 := Km.frozen 2
  have cm3 := Km.cell 3
  have fm3 := Km.frozen 3
  have cm4 := Km.cell 4
  have fm4 := Km.frozen 4
  have cm5 := Km.cell 5
  have fm5 := Km.frozen 5
  simp only [List.getElem?_toArray, List.getElem?_cons_succ, List.getElem?_cons_zero] at ci0 ci1 ci2 ci3 cm0 cm1 cm2 cm3 cm4 cm5
  refine wpList_stop fun Kx HKx => ?_
  go_wp2_with fail
  replace Ki : Blk _ Pi 23 #[.int .i64 W, .int .i64 H, .int .i64 B, .string s] := blk_cast ((((((((((Ki.set_ 0 (.int .i64 W)).set_ 1 (.int .i64 H)).set_ 2 (.int .i64 B)).set_ 3 (.string s)).far (p := ⟨Pm, 0, none⟩) (show Pi ≠ Pm by omega) (.int .i64 a)).far (p := ⟨Pm, 1, none⟩) (show Pi ≠ Pm by omega) (.int .i64 b)).far (p := ⟨Pm, 2, none⟩) (show Pi ≠ Pm by omega) (.int .i64 c2)).far (p := ⟨Pm, 3, none⟩) (show Pi ≠ Pm by omega) (.int .i64 d)).far (p := ⟨Pm, 4, none⟩) (show Pi ≠ Pm by omega) (.int .i64 e)).far (p := ⟨Pm, 5, none⟩) (show Pi ≠ Pm by omega) (.int .i64 f)) (by kernel_rfl)
  replace Km : Blk _ Pm 25 #[.int .i64 a, .int .i64 b, .int .i64 c2, .int .i64 d, .int .i64 e, .int .i64 f] := blk_cast ((((((((((Km.far (p := ⟨Pi, 0, none⟩) (show Pm ≠ Pi by omega) (.int .i64 W)).far (p := ⟨Pi, 1, none⟩) (show Pm ≠ Pi by omega) (.int .i64 H)).far (p := ⟨Pi, 2, none⟩) (show Pm ≠ Pi by omega) (.int .i64 B)).far (p := ⟨Pi, 3, none⟩) (show Pm ≠ Pi by omega) (.string s)).set_ 0 (.int .i64 a)).set_ 1 (.int .i64 b)).set_ 2 (.int .i64 c2)).set_ 3 (.int .i64 d)).set_ 4 (.int .i64 e)).set_ 5 (.int .i64 f)) (by kernel_rfl)
  have hq0 : w.heap.size ≤ Pi := by omega
  have hq1 : w.heap.size ≤ Pm := by omega
  replace hbw : Below w.heap.size w ((((((((((w2.setCell ⟨Pi, 0, none⟩ (.int .i64 W)).setCell ⟨Pi, 1, none⟩ (.int .i64 H)).setCell ⟨Pi, 2, none⟩ (.int .i64 B)).setCell ⟨Pi, 3, none⟩ (.string s)).setCell ⟨Pm, 0, none⟩ (.int .i64 a)).setCell ⟨Pm, 1, none⟩ (.int .i64 b)).setCell ⟨Pm, 2, none⟩ (.int .i64 c2)).setCell ⟨Pm, 3, none⟩ (.int .i64 d)).setCell ⟨Pm, 4, none⟩ (.int .i64 e)).setCell ⟨Pm, 5, none⟩ (.int .i64 f)) := by (repeat' (first | refine bset ?_ (by first | omega | (simp <;> omega)) _ | refine balloc ?_ _ | refine Below.drew ?_ | refine below_drewN ?_ _ | exact hbw | exact Below.refl _ _))
  generalize hwx : ((((((((((w2.setCell ⟨Pi, 0, none⟩ (.int .i64 W)).setCell ⟨Pi, 1, none⟩ (.int .i64 H)).setCell ⟨Pi, 2, none⟩ (.int .i64 B)).setCell ⟨Pi, 3, none⟩ (.string s)).setCell ⟨Pm, 0, none⟩ (.int .i64 a)).setCell ⟨Pm, 1, none⟩ (.int .i64 b)).setCell ⟨Pm, 2, none⟩ (.int .i64 c2)).setCell ⟨Pm, 3, none⟩ (.int .i64 d)).setCell ⟨Pm, 4, none⟩ (.int .i64 e)).setCell ⟨Pm, 5, none⟩ (.int .i64 f)) = w3 at *
  clear hwx ci0 fi0 ci1 fi1 ci2 fi2 ci3 fi3 cm0 fm0 cm1 fm1 cm2 fm2 cm3 fm3 cm4 fm4 cm5 fm5 hs0 hi0 hi1 hm0 hm1 hq0 hq1 hne
  have lKi := Ki.lt
  have cKi0 := Ki.cell 0
  have cKi1 := Ki.cell 1
  have cKi2 := Ki.cell 2
  have cKi3 := Ki.cell 3
  have lKm := Km.lt
  have cKm0 := Km.cell 0
  have cKm1 := Km.cell 1
  have cKm2 := Km.cell 2
  have cKm3 := Km.cell 3
  have cKm4 := Km.cell 4
  have cKm5 := Km.cell 5
  simp only [List.getElem?_toArray, List.getElem?_cons_succ, List.getElem?_cons_zero] at cKi0 cKi1 cKi2 cKi3 cKm0 cKm1 cKm2 cKm3 cKm4 cKm5
  refine HKx.out _ _ ?_
  clear HKx Kx
  go_wp2_with fail
  refine (HPY.out _).mono ?_
  rintro e_ w_ ⟨rfl, rfl⟩
  go_wp2_with fail
  have hst0 : Below w3.heap.size w3 w3 := by (repeat' (first | exact Below.refl _ _ | exact Below.refl _ _ | refine balloc ?_ _ | refine Below.drew ?_ | refine below_drewN ?_ _ | refine bset ?_ (by first | omega | (simp <;> omega)) _))
  refine (HLN.out _).mono ?_
  rintro e_ w4 ⟨lb, lc, l, rfl, hIV, hLen, hGet, hb⟩
  have hst : Below w3.heap.size w3 w4 := btrans hst0 hb
  replace Ki := Ki.below hb Ki.lt
  replace Km := Km.below hb Km.lt
  replace hbw : Below w.heap.size w w4 := btrans hbw hst
  clear hst hst0 hb lKi cKi0 cKi1 cKi2 cKi3 lKm cKm0 cKm1 cKm2 cKm3 cKm4 cKm5
  have HhIV := Lib.hid hIV
  clear hIV
  have lKi := Ki.lt
  have cKi0 := Ki.cell 0
  have cKi1 := Ki.cell 1
  have cKi2 := Ki.cell 2
  have cKi3 := Ki.cell 3
  have lKm := Km.lt
  have cKm0 := Km.cell 0
  have cKm1 := Km.cell 1
  have cKm2 := Km.cell 2
  have cKm3 := Km.cell 3
  have cKm4 := Km.cell 4
  have cKm5 := Km.cell 5
  simp only [List.getElem?_toArray, List.getElem?_cons_succ, List.getElem?_cons_zero] at cKi0 cKi1 cKi2 cKi3 cKm0 cKm1 cKm2 cKm3 cKm4 cKm5
  have HLEN := Lib.hid hLen
  have HGET := Lib.hid hGet
  clear hLen hGet
  go_wp2_with fail
  have hst0 : Below w4.heap.size w4 w4 := by (repeat' (first | exact Below.refl _ _ | exact Below.refl _ _ | refine balloc ?_ _ | refine Below.drew ?_ | refine below_drewN ?_ _ | refine bset ?_ (by first | omega | (simp <;> omega)) _))
  refine (HMY.out _).mono ?_
  rintro e_ w5 ⟨rfl, hb⟩
  have hst : Below w4.heap.size w4 w5 := btrans hst0 hb
  replace Ki := Ki.below hb Ki.lt
  replace Km := Km.below hb Km.lt
  replace hbw : Below w.heap.size w w5 := btrans hbw hst
  replace HhIV := Lib.hid (HhIV.out.below hst)
  clear hst hst0 hb lKi cKi0 cKi1 cKi2 cKi3 lKm cKm0 cKm1 cKm2 cKm3 cKm4 cKm5
  have lKi := Ki.lt
  have cKi0 := Ki.cell 0
  have cKi1 := Ki.cell 1
  have cKi2 := Ki.cell 2
  have cKi3 := Ki.cell 3
  have lKm := Km.lt
  have cKm0 := Km.cell 0
  have cKm1 := Km.cell 1
  have cKm2 := Km.cell 2
  have cKm3 := Km.cell 3
  have cKm4 := Km.cell 4
  have cKm5 := Km.cell 5
  simp only [List.getElem?_toArray, List.getElem?_cons_succ, List.getElem?_cons_zero] at cKi0 cKi1 cKi2 cKi3 cKm0 cKm1 cKm2 cKm3 cKm4 cKm5
  go_wp2_with fail
  go_loopw [15] (fun kv wr => ∃ k : Nat, k ≤ 16 ∧ kv = .int .i64 (k : Int) ∧ Below w5.heap.size w5 wr) (fun kv _ => 16 - (intOf kv).toNat)
  case atStart => exact ⟨0, by omega, rfl, Below.refl _ _⟩
  case round =>
    obtain ⟨k, hk, rfl, hbr⟩ := hrel
    by_cases hkl : k < 16
    · have d1 : decide ((k : Int) < 16) = true := by simp; omega
      have hki : (k : Int) < 16 := by omega
      have uKi0 : ∀ u : Up wr, u.val.cell? ⟨Pi, 0, none⟩ = some (.int .i64 W) := fun u => ((btrans hbr u.ok).cell (p := ⟨Pi, 0, none⟩) lKi).trans cKi0
      have uKi1 : ∀ u : Up wr, u.val.cell? ⟨Pi, 1, none⟩ = some (.int .i64 H) := fun u => ((btrans hbr u.ok).cell (p := ⟨Pi, 1, none⟩) lKi).trans cKi1
      have uKi2 : ∀ u : Up wr, u.val.cell? ⟨Pi, 2, none⟩ = some (.int .i64 B) := fun u => ((btrans hbr u.ok).cell (p := ⟨Pi, 2, none⟩) lKi).trans cKi2
      have uKi3 : ∀ u : Up wr, u.val.cell? ⟨Pi, 3, none⟩ = some (.string s) := fun u => ((btrans hbr u.ok).cell (p := ⟨Pi, 3, none⟩) lKi).trans cKi3
      have uKm0 : ∀ u : Up wr, u.val.cell? ⟨Pm, 0, none⟩ = some (.int .i64 a) := fun u => ((btrans hbr u.ok).cell (p := ⟨Pm, 0, none⟩) lKm).trans cKm0
      have uKm1 : ∀ u : Up wr, u.val.cell? ⟨Pm, 1, none⟩ = some (.int .i64 b) := fun u => ((btrans hbr u.ok).cell (p := ⟨Pm, 1, none⟩) lKm).trans cKm1
      have uKm2 : ∀ u : Up wr, u.val.cell? ⟨Pm, 2, none⟩ = some (.int .i64 c2) := fun u => ((btrans hbr u.ok).cell (p := ⟨Pm, 2, none⟩) lKm).trans cKm2
      have uKm3 : ∀ u : Up wr, u.val.cell? ⟨Pm, 3, none⟩ = some (.int .i64 d) := fun u => ((btrans hbr u.ok).cell (p := ⟨Pm, 3, none⟩) lKm).trans cKm3
      have uKm4 : ∀ u : Up wr, u.val.cell? ⟨Pm, 4, none⟩ = some (.int .i64 e) := fun u => ((btrans hbr u.ok).cell (p := ⟨Pm, 4, none⟩) lKm).trans cKm4
      have uKm5 : ∀ u : Up wr, u.val.cell? ⟨Pm, 5, none⟩ = some (.int .i64 f) := fun u => ((btrans hbr u.ok).cell (p := ⟨Pm, 5, none⟩) lKm).trans cKm5
      have UL := fun u : Up wr => ((HhIV.out.below (btrans hbr u.ok)).at_ HLEN.out _ HGET.out k hkl).2
      obtain ⟨z, hz⟩ : ∃ z, Z k = z := ⟨_, rfl⟩
      have HU1 := Lib.hid (fun u : Up wr => up_of (u := u) (HA1.out k u.val))
      have HU2 := Lib.hid (fun u : Up wr => up_of (u := u) (HA2.out k u.val))
      rw [hz] at HU1 HU2
      simp only [hz] at UL
      have HBR := Lib.hid hbr
      clear hz hbr
      go_wp2_with fail
      refine wp_region_up (by kernel_rfl) (by kernel_rfl) ?_
      repeat (go_big_quiet_step (fail))
      go_big_quiet_step (exact HU1.out _)
      repeat (go_big_quiet_step (fail))
      go_big_quiet_step (exact HU2.out _)
      repeat (go_big_quiet_step (fail))
      refine wpQuiet_nil ?_
      rintro _ ⟨uq, rfl⟩
      have HB2 := Lib.hid (btrans HBR.out uq.ok)
      generalize hwx : uq.val = wz at *
      clear hwx uq UL HU1 HU2 HBR uKi0 uKi1 uKi2 uKi3 uKm0 uKm1 uKm2 uKm3 uKm4 uKm5
      go_wp2_with fail
      go_roundw
      case rel => exact ⟨k + 1, by omega, by go_num, HB2.out⟩
      case measure => simp [intOf]; omega
    · obtain rfl : k = 16 := by omega
      have d1 : decide (((16 : Nat) : Int) < 16) = false := by simp
      replace Ki := Ki.below hbr lKi
      replace Km := Km.below hbr lKm
      replace hbw := btrans hbw hbr
      clear hbr lKi cKi0 cKi1 cKi2 cKi3 lKm cKm0 cKm1 cKm2 cKm3 cKm4 cKm5 HhIV HLEN HGET
      obtain ⟨w9, rfl⟩ : ∃ v, v = wr := ⟨_, rfl⟩
      have lKi := Ki.lt
      have cKi0 := Ki.cell 0
      have cKi1 := Ki.cell 1
      have cKi2 := Ki.cell 2
      have cKi3 := Ki.cell 3
      have lKm := Km.lt
      have cKm0 := Km.cell 0
      have cKm1 := Km.cell 1
      have cKm2 := Km.cell 2
      have cKm3 := Km.cell 3
      have cKm4 := Km.cell 4
      have cKm5 := Km.cell 5
      simp only [List.getElem?_toArray, List.getElem?_cons_succ, List.getElem?_cons_zero] at cKi0 cKi1 cKi2 cKi3 cKm0 cKm1 cKm2 cKm3 cKm4 cKm5
      go_wp2_with fail
      have hst0 : Below w9.heap.size w9 w9 := by (repeat' (first | exact Below.refl _ _ | exact Below.refl _ _ | refine balloc ?_ _ | refine Below.drew ?_ | refine below_drewN ?_ _ | refine bset ?_ (by first | omega | (simp <;> omega)) _))
      refine (HPG.out _ (hr3.below (btrans hbw hst0))).mono ?_
      rintro e_ w10 ⟨gp, Y, rfl, hP, hb⟩
      have hst : Below w9.heap.size w9 w10 := btrans hst0 hb
      replace Ki := Ki.below hb Ki.lt
      replace Km := Km.below hb Km.lt
      replace hbw : Below w.heap.size w w10 := btrans hbw hst
      clear hst hst0 hb lKi cKi0 cKi1 cKi2 cKi3 lKm cKm0 cKm1 cKm2 cKm3 cKm4 cKm5
      have HhP := Lib.hid hP
      clear hP
      have lKi := Ki.lt
      have cKi0 := Ki.cell 0
      have cKi1 := Ki.cell 1
      have cKi2 := Ki.cell 2
      have cKi3 := Ki.cell 3
      have lKm := Km.lt
      have cKm0 := Km.cell 0
      have cKm1 := Km.cell 1
      have cKm2 := Km.cell 2
      have cKm3 := Km.cell 3
      have cKm4 := Km.cell 4
      have cKm5 := Km.cell 5
      simp only [List.getElem?_toArray, List.getElem?_cons_succ, List.getElem?_cons_zero] at cKi0 cKi1 cKi2 cKi3 cKm0 cKm1 cKm2 cKm3 cKm4 cKm5
      go_wp2_with fail
      have hst0 : Below w10.heap.size w10 w10 := by (repeat' (first | exact Below.refl _ _ | exact Below.refl _ _ | refine balloc ?_ _ | refine Below.drew ?_ | refine below_drewN ?_ _ | refine bset ?_ (by first | omega | (simp <;> omega)) _))
      refine (HM3.out _ (hr3.below (btrans hbw hst0))).mono ?_
      rintro e_ w11 ⟨D1, d1, R, rfl, hR, hb⟩
      have hst : Below w10.heap.size w10 w11 := btrans hst0 hb
      replace Ki := Ki.below hb Ki.lt
      replace Km := Km.below hb Km.lt
      replace hbw : Below w.heap.size w w11 := btrans hbw hst
      replace HhP := Lib.hid (HhP.out.below hst)
      clear hst hst0 hb lKi cKi0 cKi1 cKi2 cKi3 lKm cKm0 cKm1 cKm2 cKm3 cKm4 cKm5
      have HhR := Lib.hid hR
      clear hR
      have lKi := Ki.lt
      have cKi0 := Ki.cell 0
      have cKi1 := Ki.cell 1
      have cKi2 := Ki.cell 2
      have cKi3 := Ki.cell 3
      have lKm := Km.lt
      have cKm0 := Km.cell 0
      have cKm1 := Km.cell 1
      have cKm2 := Km.cell 2
      have cKm3 := Km.cell 3
      have cKm4 := Km.cell 4
      have cKm5 := Km.cell 5
      simp only [List.getElem?_toArray, List.getElem?_cons_succ, List.getElem?_cons_zero] at cKi0 cKi1 cKi2 cKi3 cKm0 cKm1 cKm2 cKm3 cKm4 cKm5
      go_wp2_with fail
      have hst0 : Below w11.heap.size w11 ((w11.alloc (.cells #[.int .i64 9, .int .i64 7, .slice (some ⟨gp, 0, none⟩) N N] 46)).alloc (.cells #[.int .i64 9, .int .i64 7, .slice D1 7 d1] 51)) := by (repeat' (first | exact Below.refl _ _ | exact Below.refl _ _ | refine balloc ?_ _ | refine Below.drew ?_ | refine below_drewN ?_ _ | refine bset ?_ (by first | omega | (simp <;> omega)) _))
      refine (HRG.out _).mono ?_
      rintro e_ w12 ⟨rfl, hb⟩
      have hst : Below w11.heap.size w11 w12 := btrans hst0 hb
      replace Ki := ((Ki.alloc (.cells #[.int .i64 9, .int .i64 7, .slice (some ⟨gp, 0, none⟩) N N] 46)).alloc (.cells #[.int .i64 9, .int .i64 7, .slice D1 7 d1] 51))
      replace Km := ((Km.alloc (.cells #[.int .i64 9, .int .i64 7, .slice (some ⟨gp, 0, none⟩) N N] 46)).alloc (.cells #[.int .i64 9, .int .i64 7, .slice D1 7 d1] 51))
      have Kp := ((Blk.new w11 46 #[.int .i64 9, .int .i64 7, .slice (some ⟨gp, 0, none⟩) N N]).alloc (.cells #[.int .i64 9, .int .i64 7, .slice D1 7 d1] 51))
      have Kr := (Blk.new (w11.alloc (.cells #[.int .i64 9, .int .i64 7, .slice (some ⟨gp, 0, none⟩) N N] 46)) 51 #[.int .i64 9, .int .i64 7, .slice D1 7 d1])
      have hz_Kr : (w11.alloc (.cells #[.int .i64 9, .int .i64 7, .slice (some ⟨gp, 0, none⟩) N N] 46)).heap.size = w11.heap.size + 1 := by simp
      rw [hz_Kr] at Kr
      clear hz_Kr
      replace Ki := Ki.below hb Ki.lt
      replace Km := Km.below hb Km.lt
      replace Kp := Kp.below hb Kp.lt
      replace Kr := Kr.below hb Kr.lt
      replace hbw : Below w.heap.size w w12 := btrans hbw hst
      replace HhP := Lib.hid (HhP.out.below hst)
      replace HhR := Lib.hid (HhR.out.below hst)
      clear hst hst0 hb lKi cKi0 cKi1 cKi2 cKi3 lKm cKm0 cKm1 cKm2 cKm3 cKm4 cKm5
      have lKi := Ki.lt
      have cKi0 := Ki.cell 0
      have cKi1 := Ki.cell 1
      have cKi2 := Ki.cell 2
      have cKi3 := Ki.cell 3
      have lKm := Km.lt
      have cKm0 := Km.cell 0
      have cKm1 := Km.cell 1
      have cKm2 := Km.cell 2
      have cKm3 := Km.cell 3
      have cKm4 := Km.cell 4
      have cKm5 := Km.cell 5
      have lKp := Kp.lt
      have cKp0 := Kp.cell 0
      have cKp1 := Kp.cell 1
      have cKp2 := Kp.cell 2
      have lKr := Kr.lt
      have cKr0 := Kr.cell 0
      have cKr1 := Kr.cell 1
      have cKr2 := Kr.cell 2
      simp only [List.getElem?_toArray, List.getElem?_cons_succ, List.getElem?_cons_zero] at cKi0 cKi1 cKi2 cKi3 cKm0 cKm1 cKm2 cKm3 cKm4 cKm5 cKp0 cKp1 cKp2 cKr0 cKr1 cKr2
      go_wp2_with fail
      have hst0 : Below w12.heap.size w12 (w12.alloc (.cells #[.int .i64 0, .int .i64 0, .slice none 0 0] 51)) := by (repeat' (first | exact Below.refl _ _ | exact Below.refl _ _ | refine balloc ?_ _ | refine Below.drew ?_ | refine below_drewN ?_ _ | refine bset ?_ (by first | omega | (simp <;> omega)) _))
      refine (HRR.out _).mono ?_
      rintro e_ w13 ⟨rfl, hb⟩
      have hst : Below w12.heap.size w12 w13 := btrans hst0 hb
      replace Ki := (Ki.alloc (.cells #[.int .i64 0, .int .i64 0, .slice none 0 0] 51))
      replace Km := (Km.alloc (.cells #[.int .i64 0, .int .i64 0, .slice none 0 0] 51))
      replace Kp := (Kp.alloc (.cells #[.int .i64 0, .int .i64 0, .slice none 0 0] 51))
      replace Kr := (Kr.alloc (.cells #[.int .i64 0, .int .i64 0, .slice none 0 0] 51))
      have Kb := (Blk.new w12 51 #[.int .i64 0, .int .i64 0, .slice none 0 0])
      replace Ki := Ki.below hb Ki.lt
      replace Km := Km.below hb Km.lt
      replace Kp := Kp.below hb Kp.lt
      replace Kr := Kr.below hb Kr.lt
      replace Kb := Kb.below hb Kb.lt
      replace hbw : Below w.heap.size w w13 := btrans hbw hst
      replace HhP := Lib.hid (HhP.out.below hst)
      replace HhR := Lib.hid (HhR.out.below hst)
      clear hst hst0 hb lKi cKi0 cKi1 cKi2 cKi3 lKm cKm0 cKm1 cKm2 cKm3 cKm4 cKm5 lKp cKp0 cKp1 cKp2 lKr cKr0 cKr1 cKr2
      have lKi := Ki.lt
      have cKi0 := Ki.cell 0
      have cKi1 := Ki.cell 1
      have cKi2 := Ki.cell 2
      have cKi3 := Ki.cell 3
      have lKm := Km.lt
      have cKm0 := Km.cell 0
      have cKm1 := Km.cell 1
      have cKm2 := Km.cell 2
      have cKm3 := Km.cell 3
      have cKm4 := Km.cell 4
      have cKm5 := Km.cell 5
      have lKp := Kp.lt
      have cKp0 := Kp.cell 0
      have cKp1 := Kp.cell 1
      have cKp2 := Kp.cell 2
      have lKr := Kr.lt
      have cKr0 := Kr.cell 0
      have cKr1 := Kr.cell 1
      have cKr2 := Kr.cell 2
      have lKb := Kb.lt
      have cKb0 := Kb.cell 0
      have cKb1 := Kb.cell 1
      have cKb2 := Kb.cell 2
      simp only [List.getElem?_toArray, List.getElem?_cons_succ, List.getElem?_cons_zero] at cKi0 cKi1 cKi2 cKi3 cKm0 cKm1 cKm2 cKm3 cKm4 cKm5 cKp0 cKp1 cKp2 cKr0 cKr1 cKr2 cKb0 cKb1 cKb2
      go_wp2_with fail
      have hst0 : Below w13.heap.size w13 (w13.alloc (.cells #[.int .i64 0, .int .i64 0, .slice none 0 0] 51)) := by (repeat' (first | exact Below.refl _ _ | exact Below.refl _ _ | refine balloc ?_ _ | refine Below.drew ?_ | refine below_drewN ?_ _ | refine bset ?_ (by first | omega | (simp <;> omega)) _))
      refine (HPT.out _ _ _ _ _ _ (HhR.out.below hst0)).mono ?_
      rintro e_ w14 ⟨rfl, hb⟩
      have hst : Below w13.heap.size w13 w14 := btrans hst0 hb
      replace Ki := (Ki.alloc (.cells #[.int .i64 0, .int .i64 0, .slice none 0 0] 51))
      replace Km := (Km.alloc (.cells #[.int .i64 0, .int .i64 0, .slice none 0 0] 51))
      replace Kp := (Kp.alloc (.cells #[.int .i64 0, .int .i64 0, .slice none 0 0] 51))
      replace Kr := (Kr.alloc (.cells #[.int .i64 0, .int .i64 0, .slice none 0 0] 51))
      replace Kb := (Kb.alloc (.cells #[.int .i64 0, .int .i64 0, .slice none 0 0] 51))
      have Kc := (Blk.new w13 51 #[.int .i64 0, .int .i64 0, .slice none 0 0])
      replace Ki := Ki.below hb Ki.lt
      replace Km := Km.below hb Km.lt
      replace Kp := Kp.below hb Kp.lt
      replace Kr := Kr.below hb Kr.lt
      replace Kb := Kb.below hb Kb.lt
      replace Kc := Kc.below hb Kc.lt
      replace hbw : Below w.heap.size w w14 := btrans hbw hst
      replace HhP := Lib.hid (HhP.out.below hst)
      replace HhR := Lib.hid (HhR.out.below hst)
      clear hst hst0 hb lKi cKi0 cKi1 cKi2 cKi3 lKm cKm0 cKm1 cKm2 cKm3 cKm4 cKm5 lKp cKp0 cKp1 cKp2 lKr cKr0 cKr1 cKr2 lKb cKb0 cKb1 cKb2
      have lKi := Ki.lt
      have cKi0 := Ki.cell 0
      have cKi1 := Ki.cell 1
      have cKi2 := Ki.cell 2
      have cKi3 := Ki.cell 3
      have lKm := Km.lt
      have cKm0 := Km.cell 0
      have cKm1 := Km.cell 1
      have cKm2 := Km.cell 2
      have cKm3 := Km.cell 3
      have cKm4 := Km.cell 4
      have cKm5 := Km.cell 5
      have lKp := Kp.lt
      have cKp0 := Kp.cell 0
      have cKp1 := Kp.cell 1
      have cKp2 := Kp.cell 2
      have lKr := Kr.lt
      have cKr0 := Kr.cell 0
      have cKr1 := Kr.cell 1
      have cKr2 := Kr.cell 2
      have lKb := Kb.lt
      have cKb0 := Kb.cell 0
      have cKb1 := Kb.cell 1
      have cKb2 := Kb.cell 2
      have lKc := Kc.lt
      have cKc0 := Kc.cell 0
      have cKc1 := Kc.cell 1
      have cKc2 := Kc.cell 2
      simp only [List.getElem?_toArray, List.getElem?_cons_succ, List.getElem?_cons_zero] at cKi0 cKi1 cKi2 cKi3 cKm0 cKm1 cKm2 cKm3 cKm4 cKm5 cKp0 cKp1 cKp2 cKr0 cKr1 cKr2 cKb0 cKb1 cKb2 cKc0 cKc1 cKc2
      go_wp2_with fail
      have hst0 : Below w14.heap.size w14 (w14.alloc (.cells #[.int .i64 0, .int .i64 0, .slice none 0 0] 46)) := by (repeat' (first | exact Below.refl _ _ | exact Below.refl _ _ | refine balloc ?_ _ | refine Below.drew ?_ | refine below_drewN ?_ _ | refine bset ?_ (by first | omega | (simp <;> omega)) _))
      refine (HRP.out _ _ _ _ _ _ (HhR.out.below hst0)).mono ?_
      rintro e_ w15 ⟨rfl, hb⟩
      have hst : Below w14.heap.size w14 w15 := btrans hst0 hb
      replace Ki := (Ki.alloc (.cells #[.int .i64 0, .int .i64 0, .slice none 0 0] 46))
      replace Km := (Km.alloc (.cells #[.int .i64 0, .int .i64 0, .slice none 0 0] 46))
      replace Kp := (Kp.alloc (.cells #[.int .i64 0, .int .i64 0, .slice none 0 0] 46))
      replace Kr := (Kr.alloc (.cells #[.int .i64 0, .int .i64 0, .slice none 0 0] 46))
      replace Kb := (Kb.alloc (.cells #[.int .i64 0, .int .i64 0, .slice none 0 0] 46))
      replace Kc := (Kc.alloc (.cells #[.int .i64 0, .int .i64 0, .slice none 0 0] 46))
      have Kd := (Blk.new w14 46 #[.int .i64 0, .int .i64 0, .slice none 0 0])
      replace Ki := Ki.below hb Ki.lt
      replace Km := Km.below hb Km.lt
      replace Kp := Kp.below hb Kp.lt
      replace Kr := Kr.below hb Kr.lt
      replace Kb := Kb.below hb Kb.lt
      replace Kc := Kc.below hb Kc.lt
      replace Kd := Kd.below hb Kd.lt
      replace hbw : Below w.heap.size w w15 := btrans hbw hst
      replace HhP := Lib.hid (HhP.out.below hst)
      replace HhR := Lib.hid (HhR.out.below hst)
      clear hst hst0 hb lKi cKi0 cKi1 cKi2 cKi3 lKm cKm0 cKm1 cKm2 cKm3 cKm4 cKm5 lKp cKp0 cKp1 cKp2 lKr cKr0 cKr1 cKr2 lKb cKb0 cKb1 cKb2 lKc cKc0 cKc1 cKc2
      have lKi := Ki.lt
      have cKi0 := Ki.cell 0
      have cKi1 := Ki.cell 1
      have cKi2 := Ki.cell 2
      have cKi3 := Ki.cell 3
      have lKm := Km.lt
      have cKm0 := Km.cell 0
      have cKm1 := Km.cell 1
      have cKm2 := Km.cell 2
      have cKm3 := Km.cell 3
      have cKm4 := Km.cell 4
      have cKm5 := Km.cell 5
      have lKp := Kp.lt
      have cKp0 := Kp.cell 0
      have cKp1 := Kp.cell 1
      have cKp2 := Kp.cell 2
      have lKr := Kr.lt
      have cKr0 := Kr.cell 0
      have cKr1 := Kr.cell 1
      have cKr2 := Kr.cell 2
      have lKb := Kb.lt
      have cKb0 := Kb.cell 0
      have cKb1 := Kb.cell 1
      have cKb2 := Kb.cell 2
      have lKc := Kc.lt
      have cKc0 := Kc.cell 0
      have cKc1 := Kc.cell 1
      have cKc2 := Kc.cell 2
      have lKd := Kd.lt
      have cKd0 := Kd.cell 0
      have cKd1 := Kd.cell 1
      have cKd2 := Kd.cell 2
      simp only [List.getElem?_toArray, List.getElem?_cons_succ, List.getElem?_cons_zero] at cKi0 cKi1 cKi2 cKi3 cKm0 cKm1 cKm2 cKm3 cKm4 cKm5 cKp0 cKp1 cKp2 cKr0 cKr1 cKr2 cKb0 cKb1 cKb2 cKc0 cKc1 cKc2 cKd0 cKd1 cKd2
      go_wp2_with fail
      have hst0 : Below w15.heap.size w15 (w15.alloc (.cells #[.int .i64 0, .int .i64 0, .slice none 0 0] 46)) := by (repeat' (first | exact Below.refl _ _ | exact Below.refl _ _ | refine balloc ?_ _ | refine Below.drew ?_ | refine below_drewN ?_ _ | refine bset ?_ (by first | omega | (simp <;> omega)) _))
      refine (HHR.out _).mono ?_
      rintro e_ w16 ⟨rfl, hb⟩
      have hst : Below w15.heap.size w15 w16 := btrans hst0 hb
      replace Ki := (Ki.alloc (.cells #[.int .i64 0, .int .i64 0, .slice none 0 0] 46))
      replace Km := (Km.alloc (.cells #[.int .i64 0, .int .i64 0, .slice none 0 0] 46))
      replace Kp := (Kp.alloc (.cells #[.int .i64 0, .int .i64 0, .slice none 0 0] 46))
      replace Kr := (Kr.alloc (.cells #[.int .i64 0, .int .i64 0, .slice none 0 0] 46))
      replace Kb := (Kb.alloc (.cells #[.int .i64 0, .int .i64 0, .slice none 0 0] 46))
      replace Kc := (Kc.alloc (.cells #[.int .i64 0, .int .i64 0, .slice none 0 0] 46))
      replace Kd := (Kd.alloc (.cells #[.int .i64 0, .int .i64 0, .slice none 0 0] 46))
      have Ks := (Blk.new w15 46 #[.int .i64 0, .int .i64 0, .slice none 0 0])
      replace Ki := Ki.below hb Ki.lt
      replace Km := Km.below hb Km.lt
      replace Kp := Kp.below hb Kp.lt
      replace Kr := Kr.below hb Kr.lt
      replace Kb := Kb.below hb Kb.lt
      replace Kc := Kc.below hb Kc.lt
      replace Kd := Kd.below hb Kd.lt
      replace Ks := Ks.below hb Ks.lt
      replace hbw : Below w.heap.size w w16 := btrans hbw hst
      replace HhP := Lib.hid (HhP.out.below hst)
      replace HhR := Lib.hid (HhR.out.below hst)
      clear hst hst0 hb lKi cKi0 cKi1 cKi2 cKi3 lKm cKm0 cKm1 cKm2 cKm3 cKm4 cKm5 lKp cKp0 cKp1 cKp2 lKr cKr0 cKr1 cKr2 lKb cKb0 cKb1 cKb2 lKc cKc0 cKc1 cKc2 lKd cKd0 cKd1 cKd2 Ki Km Kp Kr
      have lKb := Kb.lt
      have cKb0 := Kb.cell 0
      have cKb1 := Kb.cell 1
      have cKb2 := Kb.cell 2
      have lKc := Kc.lt
      have cKc0 := Kc.cell 0
      have cKc1 := Kc.cell 1
      have cKc2 := Kc.cell 2
      have lKd := Kd.lt
      have cKd0 := Kd.cell 0
      have cKd1 := Kd.cell 1
      have cKd2 := Kd.cell 2
      have lKs := Ks.lt
      have cKs0 := Ks.cell 0
      have cKs1 := Ks.cell 1
      have cKs2 := Ks.cell 2
      simp only [List.getElem?_toArray, List.getElem?_cons_succ, List.getElem?_cons_zero] at cKb0 cKb1 cKb2 cKc0 cKc1 cKc2 cKd0 cKd1 cKd2 cKs0 cKs1 cKs2
      go_wp2_with fail
      have hst0 : Below w16.heap.size w16 w16 := by (repeat' (first | exact Below.refl _ _ | exact Below.refl _ _ | refine balloc ?_ _ | refine Below.drew ?_ | refine below_drewN ?_ _ | refine bset ?_ (by first | omega | (simp <;> omega)) _))
      refine (HHP.out _).mono ?_
      rintro e_ w17 ⟨rfl, hb⟩
      have hst : Below w16.heap.size w16 w17 := btrans hst0 hb
      replace Kb := Kb.below hb Kb.lt
      replace Kc := Kc.below hb Kc.lt
      replace Kd := Kd.below hb Kd.lt
      replace Ks := Ks.below hb Ks.lt
      replace hbw : Below w.heap.size w w17 := btrans hbw hst
      replace HhP := Lib.hid (HhP.out.below hst)
      replace HhR := Lib.hid (HhR.out.below hst)
      clear hst hst0 hb lKb cKb0 cKb1 cKb2 lKc cKc0 cKc1 cKc2 lKd cKd0 cKd1 cKd2 lKs cKs0 cKs1 cKs2
      have lKb := Kb.lt
      have cKb0 := Kb.cell 0
      have cKb1 := Kb.cell 1
      have cKb2 := Kb.cell 2
      have lKc := Kc.lt
      have cKc0 := Kc.cell 0
      have cKc1 := Kc.cell 1
      have cKc2 := Kc.cell 2
      have lKd := Kd.lt
      have cKd0 := Kd.cell 0
      have cKd1 := Kd.cell 1
      have cKd2 := Kd.cell 2
      have lKs := Ks.lt
      have cKs0 := Ks.cell 0
      have cKs1 := Ks.cell 1
      have cKs2 := Ks.cell 2
      simp only [List.getElem?_toArray, List.getElem?_cons_succ, List.getElem?_cons_zero] at cKb0 cKb1 cKb2 cKc0 cKc1 cKc2 cKd0 cKd1 cKd2 cKs0 cKs1 cKs2
      go_wp2_with fail
      go_ret
      exact ⟨rfl, by (repeat' (first | refine bset ?_ (by first | omega | (simp <;> omega)) _ | refine balloc ?_ _ | refine Below.drew ?_ | refine below_drewN ?_ _ | exact hbw | exact Below.refl _ _))⟩
set_option maxRecDepth 100000 in
set_option maxHeartbeats 3200000 in
theorem ilmade_yes (A : Option Addr) (n c : Nat) (ns : Nat → Int) (bits a0 a1 a2 a3 a4 a5 y ty : Int) (A3 : Option Addr) (n3 c3 : Nat) (ns3 : Nat → Int) (W H B a b c2 d e f : Int) (s : ByteArray) (w : World) (hr : Ints w A n c ns) (hr3 : Ints w A3 n3 c3 ns3) (hn3 : n3 ≤ 9223372036854775807)
    (HMd : Hid (∀ W', Ints W' A n c ns → Calls Try.prog 23 #[.slice A n c, .int .i64 bits] W' fun ed w' => ed = .returned (.agg #[.int .i64 W, .int .i64 H, .int .i64 B, .string s]) ∧ Below W'.heap.size W' w'))
    (HTu : Hid (∀ W', Calls Try.prog 24 #[.agg #[.int .i64 a0, .int .i64 a1, .int .i64 a2, .int .i64 a3, .int .i64 a4, .int .i64 a5]] W' fun ed w' => ed = .returned (.agg #[.int .i64 a, .int .i64 b, .int .i64 c2, .int .i64 d, .int .i64 e, .int .i64 f]) ∧ Below W'.heap.size W' w'))
    (HPY : Hid (∀ W', Calls Try.prog 25 #[.int .i64 y, .int .i64 300] W' fun ed w' => ed = .returned (.int .i64 (ty + 40)) ∧ W' = w'))
    (hty0 : -40 ≤ ty) (hty1 : ty ≤ 260)
    (hmay : mayI W H B s.size = true) (hmat : mt.mayB a b c2 d e f = true) (hd : ¬ a * d - b * c2 = 0) :
    Calls Try.prog 10 #[.slice A n c, .int .i64 bits, .agg #[.int .i64 a0, .int .i64 a1, .int .i64 a2, .int .i64 a3, .int .i64 a4, .int .i64 a5], .int .i64 y, .slice A3 n3 c3] w fun ed w' => ed = .returned (.bool true) ∧ Below w.heap.size w w' := by
  have hs := may_size hmay
  obtain ⟨N, hN⟩ : ∃ N, N = 3 * (9 * 7) := ⟨_, rfl⟩
  have HPG := Lib.hid (fun W' h => lpage_any A3 n3 c3 ns3 9 7 N W' h hn3 (by decide) (by decide) hN)
  have HM3 := Lib.hid (fun W' h => lmade_any A3 n3 c3 ns3 9 7 W' h hn3 (by decide) (by decide))
  have HMY := Lib.hid (fun W' => by have := may37_any W H B s W' hs; rwa [hmay] at this)
  obtain ⟨Z, hZ⟩ : ∃ Z : Nat → Int, (fun (k : Nat) => AtV W H B s a b c2 d e f (16 * (k : Int) + 8) ty) = Z := ⟨_, rfl⟩
  have hZ1 : ∀ k : Nat, AtV W H B s a b c2 d e f (16 * (k : Int) + 8) ty = Z k := fun k => by rw [← hZ]
  have HA1 := Lib.hid (fun (k : Nat) W' => show Calls Try.prog 18 #[.agg #[.int .i64 W, .int .i64 H, .int .i64 B, .string s], .agg #[.int .i64 a, .int .i64 b, .int .i64 c2, .int .i64 d, .int .i64 e, .int .i64 f], .int .i64 (16 * (k : Int) + 8), .int .i64 ty] W' fun ed w' => ed = .returned (.int .i64 (Z k)) ∧ Below W'.heap.size W' w' by
    have := At_any W H B a b c2 d e f (16 * (k : Int) + 8) ty s W' hs
    rwa [hZ1] at this)
  have HA2 := Lib.hid (fun (k : Nat) W' => show Calls Try.prog 19 #[.agg #[.int .i64 W, .int .i64 H, .int .i64 B, .string s], .agg #[.int .i64 a, .int .i64 b, .int .i64 c2, .int .i64 d, .int .i64 e, .int .i64 f], .int .i64 (16 * (k : Int) + 8), .int .i64 ty] W' fun ed w' => ed = .returned (.int .i64 (Z k)) ∧ Below W'.heap.size W' w' by
    have := rAt_any W H B a b c2 d e f (16 * (k : Int) + 8) ty s W' hs
    rwa [hZ1] at this)
  have HLN := Lib.hid (fun W' => show Calls Try.prog 21 #[.agg #[.int .i64 W, .int .i64 H, .int .i64 B, .string s], .agg #[.int .i64 a, .int .i64 b, .int .i64 c2, .int .i64 d, .int .i64 e, .int .i64 f], .int .i64 ty, .int .i64 16] W' fun ed w' => ∃ lb lc l, ed = .returned (.slice (some ⟨lb, 0, none⟩) 16 lc) ∧ IntsV w' (.slice (some ⟨lb, 0, none⟩) 16 lc) l ∧ l.length = 16 ∧ (∀ (i : Nat) (hi : i < l.length), l[i] = Z i) ∧ Below W'.heap.size W' w' from
    (Line_any W H B a b c2 d e f ty 16 s W' hs (by decide)).mono fun ed w' ⟨lv, e1, e2, e3⟩ => by
      have hll := lineL_len W H B s a b c2 d e f ty 16
      obtain ⟨lb, lc, e4⟩ := e2.shape (by rw [hll]; decide)
      rw [hll] at e4
      subst e4
      exact ⟨lb, lc, _, e1, e2, hll, fun i hi => by rw [lineL_get, hZ1], e3⟩)
  have HPT := Lib.hid (fun cp dr A D R Y W' hp hr => paint_any W H B a b c2 d e f _ s 9 7 N cp dr A D R Y W' (by decide) (by decide) hN hs hmay hmat rfl hd hp hr)
  have HRG := Lib.hid (fun W' => over_any W H B a b c2 d e f _ s 9 7 W' (by decide) (by decide) hs hmay hmat rfl hd)
  have HRP := Lib.hid (fun cp dr A D R Y W' hp hr => rpaint_any W H B a b c2 d e f _ s 9 7 N cp dr A D R Y W' (by decide) (by decide) hN hs hmay hmat rfl hd hp hr)
  have HRR := Lib.hid (fun W' => rover_any W H B a b c2 d e f _ s 9 7 W' (by decide) (by decide) hs hmay hmat rfl hd)
  have HHR := Lib.hid (fun c d A D R S W' ha hb h => hregion_same 9 7 c d A D R S W' (by decide) ha hb h)
  have HHP := Lib.hid (fun c d A D B C W' ha hb h => hpage_same 9 7 N c d A D B C W' ha hb h)
  clear hZ hZ1 hs hmay hmat hd hN
  go_enter Try.func10, Try.ntmps10
  go_wp2_with fail
  have hst0 : Below w.heap.size w (w.alloc (.cells #[.int .i64 a0, .int .i64 a1, .int .i64 a2, .int .i64 a3, .int .i64 a4, .int .i64 a5] 34)) := by (repeat' (first | exact Below.refl _ _ | exact Below.refl _ _ | refine balloc ?_ _ | refine Below.drew ?_ | refine below_drewN ?_ _ | refine bset ?_ (by first | omega | (simp <;> omega)) _))
  refine (known_any _).mono ?_
  rintro e_ w1 ⟨rfl, hb⟩
  have hst : Below w.heap.size w w1 := btrans hst0 hb
  have Ka := (Blk.new w 34 #[.int .i64 a0, .int .i64 a1, .int .i64 a2, .int .i64 a3, .int .i64 a4, .int .i64 a5])
  replace Ka := Ka.below hb Ka.lt
  have hbw : Below w.heap.size w w1 := hst
  clear hst hst0 hb 
  have lKa := Ka.lt
  have cKa0 := Ka.cell 0
  have cKa1 := Ka.cell 1
  have cKa2 := Ka.cell 2
  have cKa3 := Ka.cell 3
  have cKa4 := Ka.cell 4
  have cKa5 := Ka.cell 5
  simp only [List.getElem?_toArray, List.getElem?_cons_succ, List.getElem?_cons_zero] at cKa0 cKa1 cKa2 cKa3 cKa4 cKa5
  go_wp2_with fail
  refine wp_region_alloc2 5 [] (.cells #[.int .i64 0, .int .i64 0, .int .i64 0, .string ⟨#[]⟩] 23) (.cells #[.int .i64 0, .int .i64 0, .int .i64 0, .int .i64 0, .int .i64 0, .int .i64 0] 25) _ _ (by kernel_rfl) (by kernel_rfl) (fun d _ _ _ _ h => by cases d <;> exact h) rfl rfl (fun ρ w => alloc_img2 _ _ _ _ _ ρ w) (fun ρ w => alloc_mat2 _ _ _ _ _ ρ w) ?_
  intro u0
  have uKa0 : ∀ u : Up u0.val, u.val.cell? ⟨w.heap.size, 0, none⟩ = some (.int .i64 a0) := fun u => ((u.cell (Nat.lt_of_lt_of_le lKa u0.ok.size)).trans (u0.cell lKa)).trans cKa0
  have uKa1 : ∀ u : Up u0.val, u.val.cell? ⟨w.heap.size, 1, none⟩ = some (.int .i64 a1) := fun u => ((u.cell (Nat.lt_of_lt_of_le lKa u0.ok.size)).trans (u0.cell lKa)).trans cKa1
  have uKa2 : ∀ u : Up u0.val, u.val.cell? ⟨w.heap.size, 2, none⟩ = some (.int .i64 a2) := fun u => ((u.cell (Nat.lt_of_lt_of_le lKa u0.ok.size)).trans (u0.cell lKa)).trans cKa2
  have uKa3 : ∀ u : Up u0.val, u.val.cell? ⟨w.heap.size, 3, none⟩ = some (.int .i64 a3) := fun u => ((u.cell (Nat.lt_of_lt_of_le lKa u0.ok.size)).trans (u0.cell lKa)).trans cKa3
  have uKa4 : ∀ u : Up u0.val, u.val.cell? ⟨w.heap.size, 4, none⟩ = some (.int .i64 a4) := fun u => ((u.cell (Nat.lt_of_lt_of_le lKa u0.ok.size)).trans (u0.cell lKa)).trans cKa4
  have uKa5 : ∀ u : Up u0.val, u.val.cell? ⟨w.heap.size, 5, none⟩ = some (.int .i64 a5) := fun u => ((u.cell (Nat.lt_of_lt_of_le lKa u0.ok.size)).trans (u0.cell lKa)).trans cKa5
  have HU1 := Lib.hid (fun u : Up u0.val => up_of (u := u) (HMd.out u.val (hr.below (btrans (btrans hbw u0.ok) u.ok))))
  have HU2 := Lib.hid (fun u : Up u0.val => up_of (u := u) (HTu.out u.val))
  simp only [List.take_succ_cons, List.take_zero, List.drop_succ_cons, List.drop_zero]
  repeat (go_big_quiet_step (fail))
  go_big_quiet_step (exact HU1.out _)
  repeat (go_big_quiet_step (fail))
  go_big_quiet_step (exact HU2.out _)
  repeat (go_big_quiet_step (fail))
  refine wpQuiet_nil ?_
  rintro _ ⟨uq, rfl⟩ Pi Pm ⟨hi0, hi1, Ki⟩ ⟨hm0, hm1, Km⟩ hne
  replace Ki : Blk uq.val Pi 23 #[.int .i64 0, .int .i64 0, .int .i64 0, .string ⟨#[]⟩] := Ki
  replace Km : Blk uq.val Pm 25 #[.int .i64 0, .int .i64 0, .int .i64 0, .int .i64 0, .int .i64 0, .int .i64 0] := Km
  have hs0 := hbw.size
  replace hbw := btrans hbw uq.ok
  simp only [Act.put]
  generalize hwx : uq.val = w2 at *
  clear hwx uq u0 Ka HU1 HU2 HMd HTu uKa0 uKa1 uKa2 uKa3 uKa4 uKa5 lKa cKa0 cKa1 cKa2 cKa3 cKa4 cKa5
  have ci0 := Ki.cell 0
  have fi0 := Ki.frozen 0
  have ci1 := Ki.cell 1
  have fi1 := Ki.frozen 1
  have ci2 := Ki.cell 2
  have fi2 := Ki.frozen 2
  have ci3 := Ki.cell 3
  have fi3 := Ki.frozen 3
  have cm0 := Km.cell 0
  have fm0 := Km.frozen 0
  have cm1 := Km.cell 1
  have fm1 := Km.frozen 1
  have cm2 := Km.cell 2
  have fm2 := Km.frozen 2
  have cm3 := Km.cell 3
  have fm3 := Km.frozen 3
  have cm4 := Km.cell 4
  have fm4 := Km.frozen 4
  have cm5 := Km.cell 5
  have fm5 := Km.frozen 5
  simp only [List.getElem?_toArray, List.getElem?_cons_succ, List.getElem?_cons_zero] at ci0 ci1 ci2 ci3 cm0 cm1 cm2 cm3 cm4 cm5
  refine wpList_stop fun Kx HKx => ?_
  go_wp2_with fail
  replace Ki : Blk _ Pi 23 #[.int .i64 W, .int .i64 H, .int .i64 B, .string s] := blk_cast ((((((((((Ki.set_ 0 (.int .i64 W)).set_ 1 (.int .i64 H)).set_ 2 (.int .i64 B)).set_ 3 (.string s)).far (p := ⟨Pm, 0, none⟩) (show Pi ≠ Pm by omega) (.int .i64 a)).far (p := ⟨Pm, 1, none⟩) (show Pi ≠ Pm by omega) (.int .i64 b)).far (p := ⟨Pm, 2, none⟩) (show Pi ≠ Pm by omega) (.int .i64 c2)).far (p := ⟨Pm, 3, none⟩) (show Pi ≠ Pm by omega) (.int .i64 d)).far (p := ⟨Pm, 4, none⟩) (show Pi ≠ Pm by omega) (.int .i64 e)).far (p := ⟨Pm, 5, none⟩) (show Pi ≠ Pm by omega) (.int .i64 f)) (by kernel_rfl)
  replace Km : Blk _ Pm 25 #[.int .i64 a, .int .i64 b, .int .i64 c2, .int .i64 d, .int .i64 e, .int .i64 f] := blk_cast ((((((((((Km.far (p := ⟨Pi, 0, none⟩) (show Pm ≠ Pi by omega) (.int .i64 W)).far (p := ⟨Pi, 1, none⟩) (show Pm ≠ Pi by omega) (.int .i64 H)).far (p := ⟨Pi, 2, none⟩) (show Pm ≠ Pi by omega) (.int .i64 B)).far (p := ⟨Pi, 3, none⟩) (show Pm ≠ Pi by omega) (.string s)).set_ 0 (.int .i64 a)).set_ 1 (.int .i64 b)).set_ 2 (.int .i64 c2)).set_ 3 (.int .i64 d)).set_ 4 (.int .i64 e)).set_ 5 (.int .i64 f)) (by kernel_rfl)
  have hq0 : w.heap.size ≤ Pi := by omega
  have hq1 : w.heap.size ≤ Pm := by omega
  replace hbw : Below w.heap.size w ((((((((((w2.setCell ⟨Pi, 0, none⟩ (.int .i64 W)).setCell ⟨Pi, 1, none⟩ (.int .i64 H)).setCell ⟨Pi, 2, none⟩ (.int .i64 B)).setCell ⟨Pi, 3, none⟩ (.string s)).setCell ⟨Pm, 0, none⟩ (.int .i64 a)).setCell ⟨Pm, 1, none⟩ (.int .i64 b)).setCell ⟨Pm, 2, none⟩ (.int .i64 c2)).setCell ⟨Pm, 3, none⟩ (.int .i64 d)).setCell ⟨Pm, 4, none⟩ (.int .i64 e)).setCell ⟨Pm, 5, none⟩ (.int .i64 f)) := by (repeat' (first | refine bset ?_ (by first | omega | (simp <;> omega)) _ | refine balloc ?_ _ | refine Below.drew ?_ | refine below_drewN ?_ _ | exact hbw | exact Below.refl _ _))
  generalize hwx : ((((((((((w2.setCell ⟨Pi, 0, none⟩ (.int .i64 W)).setCell ⟨Pi, 1, none⟩ (.int .i64 H)).setCell ⟨Pi, 2, none⟩ (.int .i64 B)).setCell ⟨Pi, 3, none⟩ (.string s)).setCell ⟨Pm, 0, none⟩ (.int .i64 a)).setCell ⟨Pm, 1, none⟩ (.int .i64 b)).setCell ⟨Pm, 2, none⟩ (.int .i64 c2)).setCell ⟨Pm, 3, none⟩ (.int .i64 d)).setCell ⟨Pm, 4, none⟩ (.int .i64 e)).setCell ⟨Pm, 5, none⟩ (.int .i64 f)) = w3 at *
  clear hwx ci0 fi0 ci1 fi1 ci2 fi2 ci3 fi3 cm0 fm0 cm1 fm1 cm2 fm2 cm3 fm3 cm4 fm4 cm5 fm5 hs0 hi0 hi1 hm0 hm1 hq0 hq1 hne
  have lKi := Ki.lt
  have cKi0 := Ki.cell 0
  have cKi1 := Ki.cell 1
  have cKi2 := Ki.cell 2
  have cKi3 := Ki.cell 3
  have lKm := Km.lt
  have cKm0 := Km.cell 0
  have cKm1 := Km.cell 1
  have cKm2 := Km.cell 2
  have cKm3 := Km.cell 3
  have cKm4 := Km.cell 4
  have cKm5 := Km.cell 5
  simp only [List.getElem?_toArray, List.getElem?_cons_succ, List.getElem?_cons_zero] at cKi0 cKi1 cKi2 cKi3 cKm0 cKm1 cKm2 cKm3 cKm4 cKm5
  refine HKx.out _ _ ?_
  clear HKx Kx
  go_wp2_with fail
  refine (HPY.out _).mono ?_
  rintro e_ w_ ⟨rfl, rfl⟩
  go_wp2_with fail
  have hst0 : Below w3.heap.size w3 w3 := by (repeat' (first | exact Below.refl _ _ | exact Below.refl _ _ | refine balloc ?_ _ | refine Below.drew ?_ | refine below_drewN ?_ _ | refine bset ?_ (by first | omega | (simp <;> omega)) _))
  refine (HLN.out _).mono ?_
  rintro e_ w4 ⟨lb, lc, l, rfl, hIV, hLen, hGet, hb⟩
  have hst : Below w3.heap.size w3 w4 := btrans hst0 hb
  replace Ki := Ki.below hb Ki.lt
  replace Km := Km.below hb Km.lt
  replace hbw : Below w.heap.size w w4 := btrans hbw hst
  clear hst hst0 hb lKi cKi0 cKi1 cKi2 cKi3 lKm cKm0 cKm1 cKm2 cKm3 cKm4 cKm5
  have HhIV := Lib.hid hIV
  clear hIV
  have lKi := Ki.lt
  have cKi0 := Ki.cell 0
  have cKi1 := Ki.cell 1
  have cKi2 := Ki.cell 2
  have cKi3 := Ki.cell 3
  have lKm := Km.lt
  have cKm0 := Km.cell 0
  have cKm1 := Km.cell 1
  have cKm2 := Km.cell 2
  have cKm3 := Km.cell 3
  have cKm4 := Km.cell 4
  have cKm5 := Km.cell 5
  simp only [List.getElem?_toArray, List.getElem?_cons_succ, List.getElem?_cons_zero] at cKi0 cKi1 cKi2 cKi3 cKm0 cKm1 cKm2 cKm3 cKm4 cKm5
  have HLEN := Lib.hid hLen
  have HGET := Lib.hid hGet
  clear hLen hGet
  go_wp2_with fail
  have hst0 : Below w4.heap.size w4 w4 := by (repeat' (first | exact Below.refl _ _ | exact Below.refl _ _ | refine balloc ?_ _ | refine Below.drew ?_ | refine below_drewN ?_ _ | refine bset ?_ (by first | omega | (simp <;> omega)) _))
  refine (HMY.out _).mono ?_
  rintro e_ w5 ⟨rfl, hb⟩
  have hst : Below w4.heap.size w4 w5 := btrans hst0 hb
  replace Ki := Ki.below hb Ki.lt
  replace Km := Km.below hb Km.lt
  replace hbw : Below w.heap.size w w5 := btrans hbw hst
  replace HhIV := Lib.hid (HhIV.out.below hst)
  clear hst hst0 hb lKi cKi0 cKi1 cKi2 cKi3 lKm cKm0 cKm1 cKm2 cKm3 cKm4 cKm5
  have lKi := Ki.lt
  have cKi0 := Ki.cell 0
  have cKi1 := Ki.cell 1
  have cKi2 := Ki.cell 2
  have cKi3 := Ki.cell 3
  have lKm := Km.lt
  have cKm0 := Km.cell 0
  have cKm1 := Km.cell 1
  have cKm2 := Km.cell 2
  have cKm3 := Km.cell 3
  have cKm4 := Km.cell 4
  have cKm5 := Km.cell 5
  simp only [List.getElem?_toArray, List.getElem?_cons_succ, List.getElem?_cons_zero] at cKi0 cKi1 cKi2 cKi3 cKm0 cKm1 cKm2 cKm3 cKm4 cKm5
  go_wp2_with fail
  go_loopw [15] (fun kv wr => ∃ k : Nat, k ≤ 16 ∧ kv = .int .i64 (k : Int) ∧ Below w5.heap.size w5 wr) (fun kv _ => 16 - (intOf kv).toNat)
  case atStart => exact ⟨0, by omega, rfl, Below.refl _ _⟩
  case round =>
    obtain ⟨k, hk, rfl, hbr⟩ := hrel
    by_cases hkl : k < 16
    · have d1 : decide ((k : Int) < 16) = true := by simp; omega
      have hki : (k : Int) < 16 := by omega
      have uKi0 : ∀ u : Up wr, u.val.cell? ⟨Pi, 0, none⟩ = some (.int .i64 W) := fun u => ((btrans hbr u.ok).cell (p := ⟨Pi, 0, none⟩) lKi).trans cKi0
      have uKi1 : ∀ u : Up wr, u.val.cell? ⟨Pi, 1, none⟩ = some (.int .i64 H) := fun u => ((btrans hbr u.ok).cell (p := ⟨Pi, 1, none⟩) lKi).trans cKi1
      have uKi2 : ∀ u : Up wr, u.val.cell? ⟨Pi, 2, none⟩ = some (.int .i64 B) := fun u => ((btrans hbr u.ok).cell (p := ⟨Pi, 2, none⟩) lKi).trans cKi2
      have uKi3 : ∀ u : Up wr, u.val.cell? ⟨Pi, 3, none⟩ = some (.string s) := fun u => ((btrans hbr u.ok).cell (p := ⟨Pi, 3, none⟩) lKi).trans cKi3
      have uKm0 : ∀ u : Up wr, u.val.cell? ⟨Pm, 0, none⟩ = some (.int .i64 a) := fun u => ((btrans hbr u.ok).cell (p := ⟨Pm, 0, none⟩) lKm).trans cKm0
      have uKm1 : ∀ u : Up wr, u.val.cell? ⟨Pm, 1, none⟩ = some (.int .i64 b) := fun u => ((btrans hbr u.ok).cell (p := ⟨Pm, 1, none⟩) lKm).trans cKm1
      have uKm2 : ∀ u : Up wr, u.val.cell? ⟨Pm, 2, none⟩ = some (.int .i64 c2) := fun u => ((btrans hbr u.ok).cell (p := ⟨Pm, 2, none⟩) lKm).trans cKm2
      have uKm3 : ∀ u : Up wr, u.val.cell? ⟨Pm, 3, none⟩ = some (.int .i64 d) := fun u => ((btrans hbr u.ok).cell (p := ⟨Pm, 3, none⟩) lKm).trans cKm3
      have uKm4 : ∀ u : Up wr, u.val.cell? ⟨Pm, 4, none⟩ = some (.int .i64 e) := fun u => ((btrans hbr u.ok).cell (p := ⟨Pm, 4, none⟩) lKm).trans cKm4
      have uKm5 : ∀ u : Up wr, u.val.cell? ⟨Pm, 5, none⟩ = some (.int .i64 f) := fun u => ((btrans hbr u.ok).cell (p := ⟨Pm, 5, none⟩) lKm).trans cKm5
      have UL := fun u : Up wr => ((HhIV.out.below (btrans hbr u.ok)).at_ HLEN.out _ HGET.out k hkl).2
      obtain ⟨z, hz⟩ : ∃ z, Z k = z := ⟨_, rfl⟩
      have HU1 := Lib.hid (fun u : Up wr => up_of (u := u) (HA1.out k u.val))
      have HU2 := Lib.hid (fun u : Up wr => up_of (u := u) (HA2.out k u.val))
      rw [hz] at HU1 HU2
      simp only [hz] at UL
      have HBR := Lib.hid hbr
      clear hz hbr
      go_wp2_with fail
      refine wp_region_up (by kernel_rfl) (by kernel_rfl) ?_
      repeat (go_big_quiet_step (fail))
      go_big_quiet_step (exact HU1.out _)
      repeat (go_big_quiet_step (fail))
      go_big_quiet_step (exact HU2.out _)
      repeat (go_big_quiet_step (fail))
      refine wpQuiet_nil ?_
      rintro _ ⟨uq, rfl⟩
      have HB2 := Lib.hid (btrans HBR.out uq.ok)
      generalize hwx : uq.val = wz at *
      clear hwx uq UL HU1 HU2 HBR uKi0 uKi1 uKi2 uKi3 uKm0 uKm1 uKm2 uKm3 uKm4 uKm5
      go_wp2_with fail
      go_roundw
      case rel => exact ⟨k + 1, by omega, by go_num, HB2.out⟩
      case measure => simp [intOf]; omega
    · obtain rfl : k = 16 := by omega
      have d1 : decide (((16 : Nat) : Int) < 16) = false := by simp
      replace Ki := Ki.below hbr lKi
      replace Km := Km.below hbr lKm
      replace hbw := btrans hbw hbr
      clear hbr lKi cKi0 cKi1 cKi2 cKi3 lKm cKm0 cKm1 cKm2 cKm3 cKm4 cKm5 HhIV HLEN HGET
      obtain ⟨w9, rfl⟩ : ∃ v, v = wr := ⟨_, rfl⟩
      have lKi := Ki.lt
      have cKi0 := Ki.cell 0
      have cKi1 := Ki.cell 1
      have cKi2 := Ki.cell 2
      have cKi3 := Ki.cell 3
      have lKm := Km.lt
      have cKm0 := Km.cell 0
      have cKm1 := Km.cell 1
      have cKm2 := Km.cell 2
      have cKm3 := Km.cell 3
      have cKm4 := Km.cell 4
      have cKm5 := Km.cell 5
      simp only [List.getElem?_toArray, List.getElem?_cons_succ, List.getElem?_cons_zero] at cKi0 cKi1 cKi2 cKi3 cKm0 cKm1 cKm2 cKm3 cKm4 cKm5
      go_wp2_with fail
      have hst0 : Below w9.heap.size w9 w9 := by (repeat' (first | exact Below.refl _ _ | exact Below.refl _ _ | refine balloc ?_ _ | refine Below.drew ?_ | refine below_drewN ?_ _ | refine bset ?_ (by first | omega | (simp <;> omega)) _))
      refine (HPG.out _ (hr3.below (btrans hbw hst0))).mono ?_
      rintro e_ w10 ⟨gp, Y, rfl, hP, hb⟩
      have hst : Below w9.heap.size w9 w10 := btrans hst0 hb
      replace Ki := Ki.below hb Ki.lt
      replace Km := Km.below hb Km.lt
      replace hbw : Below w.heap.size w w10 := btrans hbw hst
      clear hst hst0 hb lKi cKi0 cKi1 cKi2 cKi3 lKm cKm0 cKm1 cKm2 cKm3 cKm4 cKm5
      have HhP := Lib.hid hP
      clear hP
      have lKi := Ki.lt
      have cKi0 := Ki.cell 0
      have cKi1 := Ki.cell 1
      have cKi2 := Ki.cell 2
      have cKi3 := Ki.cell 3
      have lKm := Km.lt
      have cKm0 := Km.cell 0
      have cKm1 := Km.cell 1
      have cKm2 := Km.cell 2
      have cKm3 := Km.cell 3
      have cKm4 := Km.cell 4
      have cKm5 := Km.cell 5
      simp only [List.getElem?_toArray, List.getElem?_cons_succ, List.getElem?_cons_zero] at cKi0 cKi1 cKi2 cKi3 cKm0 cKm1 cKm2 cKm3 cKm4 cKm5
      go_wp2_with fail
      have hst0 : Below w10.heap.size w10 w10 := by (repeat' (first | exact Below.refl _ _ | exact Below.refl _ _ | refine balloc ?_ _ | refine Below.drew ?_ | refine below_drewN ?_ _ | refine bset ?_ (by first | omega | (simp <;> omega)) _))
      refine (HM3.out _ (hr3.below (btrans hbw hst0))).mono ?_
      rintro e_ w11 ⟨D1, d1, R, rfl, hR, hb⟩
      have hst : Below w10.heap.size w10 w11 := btrans hst0 hb
      replace Ki := Ki.below hb Ki.lt
      replace Km := Km.below hb Km.lt
      replace hbw : Below w.heap.size w w11 := btrans hbw hst
      replace HhP := Lib.hid (HhP.out.below hst)
      clear hst hst0 hb lKi cKi0 cKi1 cKi2 cKi3 lKm cKm0 cKm1 cKm2 cKm3 cKm4 cKm5
      have HhR := Lib.hid hR
      clear hR
      have lKi := Ki.lt
      have cKi0 := Ki.cell 0
      have cKi1 := Ki.cell 1
      have cKi2 := Ki.cell 2
      have cKi3 := Ki.cell 3
      have lKm := Km.lt
      have cKm0 := Km.cell 0
      have cKm1 := Km.cell 1
      have cKm2 := Km.cell 2
      have cKm3 := Km.cell 3
      have cKm4 := Km.cell 4
      have cKm5 := Km.cell 5
      simp only [List.getElem?_toArray, List.getElem?_cons_succ, List.getElem?_cons_zero] at cKi0 cKi1 cKi2 cKi3 cKm0 cKm1 cKm2 cKm3 cKm4 cKm5
      go_wp2_with fail
      have hst0 : Below w11.heap.size w11 ((w11.alloc (.cells #[.int .i64 9, .int .i64 7, .slice (some ⟨gp, 0, none⟩) N N] 46)).alloc (.cells #[.int .i64 9, .int .i64 7, .slice D1 7 d1] 51)) := by (repeat' (first | exact Below.refl _ _ | exact Below.refl _ _ | refine balloc ?_ _ | refine Below.drew ?_ | refine below_drewN ?_ _ | refine bset ?_ (by first | omega | (simp <;> omega)) _))
      refine (HRG.out _).mono ?_
      rintro e_ w12 ⟨gb, hgb, rfl, hB1, hb⟩
      clear hgb
      have hst : Below w11.heap.size w11 w12 := btrans hst0 hb
      replace Ki := ((Ki.alloc (.cells #[.int .i64 9, .int .i64 7, .slice (some ⟨gp, 0, none⟩) N N] 46)).alloc (.cells #[.int .i64 9, .int .i64 7, .slice D1 7 d1] 51))
      replace Km := ((Km.alloc (.cells #[.int .i64 9, .int .i64 7, .slice (some ⟨gp, 0, none⟩) N N] 46)).alloc (.cells #[.int .i64 9, .int .i64 7, .slice D1 7 d1] 51))
      have Kp := ((Blk.new w11 46 #[.int .i64 9, .int .i64 7, .slice (some ⟨gp, 0, none⟩) N N]).alloc (.cells #[.int .i64 9, .int .i64 7, .slice D1 7 d1] 51))
      have Kr := (Blk.new (w11.alloc (.cells #[.int .i64 9, .int .i64 7, .slice (some ⟨gp, 0, none⟩) N N] 46)) 51 #[.int .i64 9, .int .i64 7, .slice D1 7 d1])
      have hz_Kr : (w11.alloc (.cells #[.int .i64 9, .int .i64 7, .slice (some ⟨gp, 0, none⟩) N N] 46)).heap.size = w11.heap.size + 1 := by simp
      rw [hz_Kr] at Kr
      clear hz_Kr
      replace Ki := Ki.below hb Ki.lt
      replace Km := Km.below hb Km.lt
      replace Kp := Kp.below hb Kp.lt
      replace Kr := Kr.below hb Kr.lt
      replace hbw : Below w.heap.size w w12 := btrans hbw hst
      replace HhP := Lib.hid (HhP.out.below hst)
      replace HhR := Lib.hid (HhR.out.below hst)
      clear hst hst0 hb lKi cKi0 cKi1 cKi2 cKi3 lKm cKm0 cKm1 cKm2 cKm3 cKm4 cKm5
      have HhB1 := Lib.hid hB1
      clear hB1
      have lKi := Ki.lt
      have cKi0 := Ki.cell 0
      have cKi1 := Ki.cell 1
      have cKi2 := Ki.cell 2
      have cKi3 := Ki.cell 3
      have lKm := Km.lt
      have cKm0 := Km.cell 0
      have cKm1 := Km.cell 1
      have cKm2 := Km.cell 2
      have cKm3 := Km.cell 3
      have cKm4 := Km.cell 4
      have cKm5 := Km.cell 5
      have lKp := Kp.lt
      have cKp0 := Kp.cell 0
      have cKp1 := Kp.cell 1
      have cKp2 := Kp.cell 2
      have lKr := Kr.lt
      have cKr0 := Kr.cell 0
      have cKr1 := Kr.cell 1
      have cKr2 := Kr.cell 2
      simp only [List.getElem?_toArray, List.getElem?_cons_succ, List.getElem?_cons_zero] at cKi0 cKi1 cKi2 cKi3 cKm0 cKm1 cKm2 cKm3 cKm4 cKm5 cKp0 cKp1 cKp2 cKr0 cKr1 cKr2
      go_wp2_with fail
      have hst0 : Below w12.heap.size w12 (w12.alloc (.cells #[.int .i64 9, .int .i64 7, .slice (some ⟨gb, 0, none⟩) 7 7] 51)) := by (repeat' (first | exact Below.refl _ _ | exact Below.refl _ _ | refine balloc ?_ _ | refine Below.drew ?_ | refine below_drewN ?_ _ | refine bset ?_ (by first | omega | (simp <;> omega)) _))
      refine (HRR.out _).mono ?_
      rintro e_ w13 ⟨gc, dc, rfl, hC1, hb⟩
      have hst : Below w12.heap.size w12 w13 := btrans hst0 hb
      replace Ki := (Ki.alloc (.cells #[.int .i64 9, .int .i64 7, .slice (some ⟨gb, 0, none⟩) 7 7] 51))
      replace Km := (Km.alloc (.cells #[.int .i64 9, .int .i64 7, .slice (some ⟨gb, 0, none⟩) 7 7] 51))
      replace Kp := (Kp.alloc (.cells #[.int .i64 9, .int .i64 7, .slice (some ⟨gb, 0, none⟩) 7 7] 51))
      replace Kr := (Kr.alloc (.cells #[.int .i64 9, .int .i64 7, .slice (some ⟨gb, 0, none⟩) 7 7] 51))
      have Kb := (Blk.new w12 51 #[.int .i64 9, .int .i64 7, .slice (some ⟨gb, 0, none⟩) 7 7])
      replace Ki := Ki.below hb Ki.lt
      replace Km := Km.below hb Km.lt
      replace Kp := Kp.below hb Kp.lt
      replace Kr := Kr.below hb Kr.lt
      replace Kb := Kb.below hb Kb.lt
      replace hbw : Below w.heap.size w w13 := btrans hbw hst
      replace HhP := Lib.hid (HhP.out.below hst)
      replace HhR := Lib.hid (HhR.out.below hst)
      replace HhB1 := Lib.hid (HhB1.out.below hst)
      clear hst hst0 hb lKi cKi0 cKi1 cKi2 cKi3 lKm cKm0 cKm1 cKm2 cKm3 cKm4 cKm5 lKp cKp0 cKp1 cKp2 lKr cKr0 cKr1 cKr2
      have HhC1 := Lib.hid hC1
      clear hC1
      have lKi := Ki.lt
      have cKi0 := Ki.cell 0
      have cKi1 := Ki.cell 1
      have cKi2 := Ki.cell 2
      have cKi3 := Ki.cell 3
      have lKm := Km.lt
      have cKm0 := Km.cell 0
      have cKm1 := Km.cell 1
      have cKm2 := Km.cell 2
      have cKm3 := Km.cell 3
      have cKm4 := Km.cell 4
      have cKm5 := Km.cell 5
      have lKp := Kp.lt
      have cKp0 := Kp.cell 0
      have cKp1 := Kp.cell 1
      have cKp2 := Kp.cell 2
      have lKr := Kr.lt
      have cKr0 := Kr.cell 0
      have cKr1 := Kr.cell 1
      have cKr2 := Kr.cell 2
      have lKb := Kb.lt
      have cKb0 := Kb.cell 0
      have cKb1 := Kb.cell 1
      have cKb2 := Kb.cell 2
      simp only [List.getElem?_toArray, List.getElem?_cons_succ, List.getElem?_cons_zero] at cKi0 cKi1 cKi2 cKi3 cKm0 cKm1 cKm2 cKm3 cKm4 cKm5 cKp0 cKp1 cKp2 cKr0 cKr1 cKr2 cKb0 cKb1 cKb2
      go_wp2_with fail
      have hst0 : Below w13.heap.size w13 (w13.alloc (.cells #[.int .i64 9, .int .i64 7, .slice (some ⟨gc, 0, none⟩) 7 dc] 51)) := by (repeat' (first | exact Below.refl _ _ | exact Below.refl _ _ | refine balloc ?_ _ | refine Below.drew ?_ | refine below_drewN ?_ _ | refine bset ?_ (by first | omega | (simp <;> omega)) _))
      refine (HPT.out _ _ _ _ _ _ _ (HhP.out.below hst0) (HhR.out.below hst0)).mono ?_
      rintro e_ w14 ⟨gd, fd, hgd, rfl, hD1, hb⟩
      clear hgd
      have hst : Below w13.heap.size w13 w14 := btrans hst0 hb
      replace Ki := (Ki.alloc (.cells #[.int .i64 9, .int .i64 7, .slice (some ⟨gc, 0, none⟩) 7 dc] 51))
      replace Km := (Km.alloc (.cells #[.int .i64 9, .int .i64 7, .slice (some ⟨gc, 0, none⟩) 7 dc] 51))
      replace Kp := (Kp.alloc (.cells #[.int .i64 9, .int .i64 7, .slice (some ⟨gc, 0, none⟩) 7 dc] 51))
      replace Kr := (Kr.alloc (.cells #[.int .i64 9, .int .i64 7, .slice (some ⟨gc, 0, none⟩) 7 dc] 51))
      replace Kb := (Kb.alloc (.cells #[.int .i64 9, .int .i64 7, .slice (some ⟨gc, 0, none⟩) 7 dc] 51))
      have Kc := (Blk.new w13 51 #[.int .i64 9, .int .i64 7, .slice (some ⟨gc, 0, none⟩) 7 dc])
      replace Ki := Ki.below hb Ki.lt
      replace Km := Km.below hb Km.lt
      replace Kp := Kp.below hb Kp.lt
      replace Kr := Kr.below hb Kr.lt
      replace Kb := Kb.below hb Kb.lt
      replace Kc := Kc.below hb Kc.lt
      replace hbw : Below w.heap.size w w14 := btrans hbw hst
      replace HhP := Lib.hid (HhP.out.below hst)
      replace HhR := Lib.hid (HhR.out.below hst)
      replace HhB1 := Lib.hid (HhB1.out.below hst)
      replace HhC1 := Lib.hid (HhC1.out.below hst)
      clear hst hst0 hb lKi cKi0 cKi1 cKi2 cKi3 lKm cKm0 cKm1 cKm2 cKm3 cKm4 cKm5 lKp cKp0 cKp1 cKp2 lKr cKr0 cKr1 cKr2 lKb cKb0 cKb1 cKb2
      have HhD1 := Lib.hid hD1
      clear hD1
      have lKi := Ki.lt
      have cKi0 := Ki.cell 0
      have cKi1 := Ki.cell 1
      have cKi2 := Ki.cell 2
      have cKi3 := Ki.cell 3
      have lKm := Km.lt
      have cKm0 := Km.cell 0
      have cKm1 := Km.cell 1
      have cKm2 := Km.cell 2
      have cKm3 := Km.cell 3
      have cKm4 := Km.cell 4
      have cKm5 := Km.cell 5
      have lKp := Kp.lt
      have cKp0 := Kp.cell 0
      have cKp1 := Kp.cell 1
      have cKp2 := Kp.cell 2
      have lKr := Kr.lt
      have cKr0 := Kr.cell 0
      have cKr1 := Kr.cell 1
      have cKr2 := Kr.cell 2
      have lKb := Kb.lt
      have cKb0 := Kb.cell 0
      have cKb1 := Kb.cell 1
      have cKb2 := Kb.cell 2
      have lKc := Kc.lt
      have cKc0 := Kc.cell 0
      have cKc1 := Kc.cell 1
      have cKc2 := Kc.cell 2
      simp only [List.getElem?_toArray, List.getElem?_cons_succ, List.getElem?_cons_zero] at cKi0 cKi1 cKi2 cKi3 cKm0 cKm1 cKm2 cKm3 cKm4 cKm5 cKp0 cKp1 cKp2 cKr0 cKr1 cKr2 cKb0 cKb1 cKb2 cKc0 cKc1 cKc2
      go_wp2_with fail
      have hst0 : Below w14.heap.size w14 (w14.alloc (.cells #[.int .i64 9, .int .i64 7, .slice (some ⟨gd, 0, none⟩) N fd] 46)) := by (repeat' (first | exact Below.refl _ _ | exact Below.refl _ _ | refine balloc ?_ _ | refine Below.drew ?_ | refine below_drewN ?_ _ | refine bset ?_ (by first | omega | (simp <;> omega)) _))
      refine (HRP.out _ _ _ _ _ _ _ (HhP.out.below hst0) (HhR.out.below hst0)).mono ?_
      rintro e_ w15 ⟨gs, fs, hgs, rfl, hS1, hb⟩
      clear hgs
      have hst : Below w14.heap.size w14 w15 := btrans hst0 hb
      replace Ki := (Ki.alloc (.cells #[.int .i64 9, .int .i64 7, .slice (some ⟨gd, 0, none⟩) N fd] 46))
      replace Km := (Km.alloc (.cells #[.int .i64 9, .int .i64 7, .slice (some ⟨gd, 0, none⟩) N fd] 46))
      replace Kp := (Kp.alloc (.cells #[.int .i64 9, .int .i64 7, .slice (some ⟨gd, 0, none⟩) N fd] 46))
      replace Kr := (Kr.alloc (.cells #[.int .i64 9, .int .i64 7, .slice (some ⟨gd, 0, none⟩) N fd] 46))
      replace Kb := (Kb.alloc (.cells #[.int .i64 9, .int .i64 7, .slice (some ⟨gd, 0, none⟩) N fd] 46))
      replace Kc := (Kc.alloc (.cells #[.int .i64 9, .int .i64 7, .slice (some ⟨gd, 0, none⟩) N fd] 46))
      have Kd := (Blk.new w14 46 #[.int .i64 9, .int .i64 7, .slice (some ⟨gd, 0, none⟩) N fd])
      replace Ki := Ki.below hb Ki.lt
      replace Km := Km.below hb Km.lt
      replace Kp := Kp.below hb Kp.lt
      replace Kr := Kr.below hb Kr.lt
      replace Kb := Kb.below hb Kb.lt
      replace Kc := Kc.below hb Kc.lt
      replace Kd := Kd.below hb Kd.lt
      replace hbw : Below w.heap.size w w15 := btrans hbw hst
      replace HhP := Lib.hid (HhP.out.below hst)
      replace HhR := Lib.hid (HhR.out.below hst)
      replace HhB1 := Lib.hid (HhB1.out.below hst)
      replace HhC1 := Lib.hid (HhC1.out.below hst)
      replace HhD1 := Lib.hid (HhD1.out.below hst)
      clear hst hst0 hb lKi cKi0 cKi1 cKi2 cKi3 lKm cKm0 cKm1 cKm2 cKm3 cKm4 cKm5 lKp cKp0 cKp1 cKp2 lKr cKr0 cKr1 cKr2 lKb cKb0 cKb1 cKb2 lKc cKc0 cKc1 cKc2
      have HhS1 := Lib.hid hS1
      clear hS1
      have lKi := Ki.lt
      have cKi0 := Ki.cell 0
      have cKi1 := Ki.cell 1
      have cKi2 := Ki.cell 2
      have cKi3 := Ki.cell 3
      have lKm := Km.lt
      have cKm0 := Km.cell 0
      have cKm1 := Km.cell 1
      have cKm2 := Km.cell 2
      have cKm3 := Km.cell 3
      have cKm4 := Km.cell 4
      have cKm5 := Km.cell 5
      have lKp := Kp.lt
      have cKp0 := Kp.cell 0
      have cKp1 := Kp.cell 1
      have cKp2 := Kp.cell 2
      have lKr := Kr.lt
      have cKr0 := Kr.cell 0
      have cKr1 := Kr.cell 1
      have cKr2 := Kr.cell 2
      have lKb := Kb.lt
      have cKb0 := Kb.cell 0
      have cKb1 := Kb.cell 1
      have cKb2 := Kb.cell 2
      have lKc := Kc.lt
      have cKc0 := Kc.cell 0
      have cKc1 := Kc.cell 1
      have cKc2 := Kc.cell 2
      have lKd := Kd.lt
      have cKd0 := Kd.cell 0
      have cKd1 := Kd.cell 1
      have cKd2 := Kd.cell 2
      simp only [List.getElem?_toArray, List.getElem?_cons_succ, List.getElem?_cons_zero] at cKi0 cKi1 cKi2 cKi3 cKm0 cKm1 cKm2 cKm3 cKm4 cKm5 cKp0 cKp1 cKp2 cKr0 cKr1 cKr2 cKb0 cKb1 cKb2 cKc0 cKc1 cKc2 cKd0 cKd1 cKd2
      go_wp2_with fail
      have hst0 : Below w15.heap.size w15 (w15.alloc (.cells #[.int .i64 9, .int .i64 7, .slice (some ⟨gs, 0, none⟩) N fs] 46)) := by (repeat' (first | exact Below.refl _ _ | exact Below.refl _ _ | refine balloc ?_ _ | refine Below.drew ?_ | refine below_drewN ?_ _ | refine bset ?_ (by first | omega | (simp <;> omega)) _))
      refine (HHR.out _ _ _ _ _ _ _ (HhB1.out.below hst0) (HhC1.out.below hst0) (fun j hj i hi => rfl)).mono ?_
      rintro e_ w16 ⟨rfl, hb⟩
      have hst : Below w15.heap.size w15 w16 := btrans hst0 hb
      replace Ki := (Ki.alloc (.cells #[.int .i64 9, .int .i64 7, .slice (some ⟨gs, 0, none⟩) N fs] 46))
      replace Km := (Km.alloc (.cells #[.int .i64 9, .int .i64 7, .slice (some ⟨gs, 0, none⟩) N fs] 46))
      replace Kp := (Kp.alloc (.cells #[.int .i64 9, .int .i64 7, .slice (some ⟨gs, 0, none⟩) N fs] 46))
      replace Kr := (Kr.alloc (.cells #[.int .i64 9, .int .i64 7, .slice (some ⟨gs, 0, none⟩) N fs] 46))
      replace Kb := (Kb.alloc (.cells #[.int .i64 9, .int .i64 7, .slice (some ⟨gs, 0, none⟩) N fs] 46))
      replace Kc := (Kc.alloc (.cells #[.int .i64 9, .int .i64 7, .slice (some ⟨gs, 0, none⟩) N fs] 46))
      replace Kd := (Kd.alloc (.cells #[.int .i64 9, .int .i64 7, .slice (some ⟨gs, 0, none⟩) N fs] 46))
      have Ks := (Blk.new w15 46 #[.int .i64 9, .int .i64 7, .slice (some ⟨gs, 0, none⟩) N fs])
      replace Ki := Ki.below hb Ki.lt
      replace Km := Km.below hb Km.lt
      replace Kp := Kp.below hb Kp.lt
      replace Kr := Kr.below hb Kr.lt
      replace Kb := Kb.below hb Kb.lt
      replace Kc := Kc.below hb Kc.lt
      replace Kd := Kd.below hb Kd.lt
      replace Ks := Ks.below hb Ks.lt
      replace hbw : Below w.heap.size w w16 := btrans hbw hst
      replace HhP := Lib.hid (HhP.out.below hst)
      replace HhR := Lib.hid (HhR.out.below hst)
      replace HhB1 := Lib.hid (HhB1.out.below hst)
      replace HhC1 := Lib.hid (HhC1.out.below hst)
      replace HhD1 := Lib.hid (HhD1.out.below hst)
      replace HhS1 := Lib.hid (HhS1.out.below hst)
      clear hst hst0 hb lKi cKi0 cKi1 cKi2 cKi3 lKm cKm0 cKm1 cKm2 cKm3 cKm4 cKm5 lKp cKp0 cKp1 cKp2 lKr cKr0 cKr1 cKr2 lKb cKb0 cKb1 cKb2 lKc cKc0 cKc1 cKc2 lKd cKd0 cKd1 cKd2 Ki Km Kp Kr
      have lKb := Kb.lt
      have cKb0 := Kb.cell 0
      have cKb1 := Kb.cell 1
      have cKb2 := Kb.cell 2
      have lKc := Kc.lt
      have cKc0 := Kc.cell 0
      have cKc1 := Kc.cell 1
      have cKc2 := Kc.cell 2
      have lKd := Kd.lt
      have cKd0 := Kd.cell 0
      have cKd1 := Kd.cell 1
      have cKd2 := Kd.cell 2
      have lKs := Ks.lt
      have cKs0 := Ks.cell 0
      have cKs1 := Ks.cell 1
      have cKs2 := Ks.cell 2
      simp only [List.getElem?_toArray, List.getElem?_cons_succ, List.getElem?_cons_zero] at cKb0 cKb1 cKb2 cKc0 cKc1 cKc2 cKd0 cKd1 cKd2 cKs0 cKs1 cKs2
      go_wp2_with fail
      have hst0 : Below w16.heap.size w16 w16 := by (repeat' (first | exact Below.refl _ _ | exact Below.refl _ _ | refine balloc ?_ _ | refine Below.drew ?_ | refine below_drewN ?_ _ | refine bset ?_ (by first | omega | (simp <;> omega)) _))
      refine (HHP.out _ _ _ _ _ _ _ (HhD1.out.below hst0) (HhS1.out.below hst0) (fun j hj => rfl)).mono ?_
      rintro e_ w17 ⟨rfl, hb⟩
      have hst : Below w16.heap.size w16 w17 := btrans hst0 hb
      replace Kb := Kb.below hb Kb.lt
      replace Kc := Kc.below hb Kc.lt
      replace Kd := Kd.below hb Kd.lt
      replace Ks := Ks.below hb Ks.lt
      replace hbw : Below w.heap.size w w17 := btrans hbw hst
      replace HhP := Lib.hid (HhP.out.below hst)
      replace HhR := Lib.hid (HhR.out.below hst)
      replace HhB1 := Lib.hid (HhB1.out.below hst)
      replace HhC1 := Lib.hid (HhC1.out.below hst)
      replace HhD1 := Lib.hid (HhD1.out.below hst)
      replace HhS1 := Lib.hid (HhS1.out.below hst)
      clear hst hst0 hb lKb cKb0 cKb1 cKb2 lKc cKc0 cKc1 cKc2 lKd cKd0 cKd1 cKd2 lKs cKs0 cKs1 cKs2
      have lKb := Kb.lt
      have cKb0 := Kb.cell 0
      have cKb1 := Kb.cell 1
      have cKb2 := Kb.cell 2
      have lKc := Kc.lt
      have cKc0 := Kc.cell 0
      have cKc1 := Kc.cell 1
      have cKc2 := Kc.cell 2
      have lKd := Kd.lt
      have cKd0 := Kd.cell 0
      have cKd1 := Kd.cell 1
      have cKd2 := Kd.cell 2
      have lKs := Ks.lt
      have cKs0 := Ks.cell 0
      have cKs1 := Ks.cell 1
      have cKs2 := Ks.cell 2
      simp only [List.getElem?_toArray, List.getElem?_cons_succ, List.getElem?_cons_zero] at cKb0 cKb1 cKb2 cKc0 cKc1 cKc2 cKd0 cKd1 cKd2 cKs0 cKs1 cKs2
      go_wp2_with fail
      go_ret
      exact ⟨rfl, by (repeat' (first | refine bset ?_ (by first | omega | (simp <;> omega)) _ | refine balloc ?_ _ | refine Below.drew ?_ | refine below_drewN ?_ _ | exact hbw | exact Below.refl _ _))⟩
theorem ilmade_law (A : Option Addr) (n c : Nat) (ns : Nat → Int) (bits a0 a1 a2 a3 a4 a5 y : Int) (A3 : Option Addr) (n3 c3 : Nat) (ns3 : Nat → Int) (w : World) (hr : Ints w A n c ns) (hn : n ≤ 9223372036854775807) (_h0 : -9223372036854775808 ≤ bits ∧ bits ≤ 9223372036854775807) (_h1 : -9223372036854775808 ≤ a0 ∧ a0 ≤ 9223372036854775807) (_h2 : -9223372036854775808 ≤ a1 ∧ a1 ≤ 9223372036854775807) (_h3 : -9223372036854775808 ≤ a2 ∧ a2 ≤ 9223372036854775807) (_h4 : -9223372036854775808 ≤ a3 ∧ a3 ≤ 9223372036854775807) (_h5 : -9223372036854775808 ≤ a4 ∧ a4 ≤ 9223372036854775807) (_h6 : -9223372036854775808 ≤ a5 ∧ a5 ≤ 9223372036854775807) (_h7 : -9223372036854775808 ≤ y ∧ y ≤ 9223372036854775807) (hr3 : Ints w A3 n3 c3 ns3) (hn3 : n3 ≤ 9223372036854775807) :
    Calls Try.prog 10 #[.slice A n c, .int .i64 bits, .agg #[.int .i64 a0, .int .i64 a1, .int .i64 a2, .int .i64 a3, .int .i64 a4, .int .i64 a5], .int .i64 y, .slice A3 n3 c3] w fun ed w' => ed = .returned (.bool true) ∧ Below w.heap.size w w' := by
  obtain ⟨W, H, B, s, hB, hmay, hW9, hH9, hMd⟩ := made_b A n c ns bits hn
  obtain ⟨a, b, c2, d, e, f, hmat, hTu⟩ := turn_b a0 a1 a2 a3 a4 a5
  have hPy := fun W' => place_any y 300 W' (by decide) (by decide)
  have ey : 0 ≤ y % 300 ∧ y % 300 < 300 := by omega
  generalize y % 300 = py at *
  rw [show py = (py - 40) + 40 by omega] at hPy
  by_cases hd : a * d - b * c2 = 0
  · exact ilmade_zero A n c ns bits a0 a1 a2 a3 a4 a5 y (py - 40) A3 n3 c3 ns3 W H B a b c2 d e f s w hr hr3 hn3 (Lib.hid hMd) (Lib.hid hTu) (Lib.hid hPy) (by omega) (by omega) hmay hmat hd
  · exact ilmade_yes A n c ns bits a0 a1 a2 a3 a4 a5 y (py - 40) A3 n3 c3 ns3 W H B a b c2 d e f s w hr hr3 hn3 (Lib.hid hMd) (Lib.hid hTu) (Lib.hid hPy) (by omega) (by omega) hmay hmat hd
end Go.Proofs.Ytegpjjkbbdfggaa.im
