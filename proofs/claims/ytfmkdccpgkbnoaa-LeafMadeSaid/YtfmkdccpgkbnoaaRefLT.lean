/-
  Layer 39's reference: TakeLeaf.
-/
import Derived.Test.YtfmkdccpgkbnoaaRefLW
import Derived.Test.YtfmkdccpgkbnoaaLeafTake
import Derived.Deep.RegionLaw
import Derived.BigRegion
namespace Go.Proofs.Ytfmkdccpgkbnoaa.lr
set_option linter.unusedVariables false
set_option linter.unusedSimpArgs false
open Go.RowKit bs rg
open lf (S tkV tkS wt failS hd tkV_len OwnB LB Held vals vals_one plainL rowedL rowL rowsL rowL_len runsL wt_ok tkS_ok RdB ofNat_toNat takeB headS szS szS_ok hd_lt own_far own_far3)

theorem st_far {N : Nat} {w : World} {g p o : Nat} {s : S} (h : St N w g s) (hN : N ≤ p) (hp : g ≠ p) (u : Value) : St N (w.setCell ⟨p, o, none⟩ u) g s := by
  obtain ⟨A, n, c, h1, h2, h3, h4⟩ := h
  refine ⟨A, n, c, h1.far hp u, ?_, h3, h4⟩
  obtain ⟨a1, a2, a3⟩ := h2
  refine ⟨a1, a2, fun hn => ?_⟩
  obtain ⟨b, o2, e, hlt, hc⟩ := a3 hn
  have hb := h4 hn _ e
  exact ⟨b, o2, e, by simpa [World.setCell] using hlt, fun j hj => (World.cell?_setCell_other _ _ _ _ (fun e => by have := (Addr.mk.inj e).1; simp at hb; omega)).trans (hc j hj)⟩
theorem plainR_any {N : Nat} (g W : Nat) (s1 : S) (w : World) (h : St N w g s1) (hNw : N ≤ w.heap.size) (hW : 1 ≤ W ∧ W ≤ 64) :
    Calls Try.prog 41 #[.pointer (some ⟨g, 0, none⟩), .int .i64 (W : Int)] w fun en w' => ∃ v, en = .returned v ∧ RdB w' v (plainL W s1).1 ∧ St N w' g (plainL W s1).2 ∧ w.grownBy w' (some g) := by
  refine (plain_any g W s1 w h hW).mono ?_
  rintro e w' ⟨A, c, rfl, hb, hs, hg⟩
  have hl : (plainL W s1).1.length = 3 * W := by simp [plainL, tkV_len]
  exact ⟨_, rfl, ⟨A, c, by rw [hl], by rw [hl]; exact hb⟩, hs, hg⟩
theorem side_dec (x : Nat) : ik.sideB (x : Int) = (decide (1 ≤ x) && decide (x ≤ 64)) := by
  unfold ik.sideB
  by_cases h1 : 1 ≤ x
  · by_cases h2 : x ≤ 64
    · rw [decide_eq_true (show 1 ≤ (x : Int) ∧ (x : Int) ≤ 64 by omega), decide_eq_true h1, decide_eq_true h2]; rfl
    · rw [decide_eq_false (show ¬ (1 ≤ (x : Int) ∧ (x : Int) ≤ 64) by omega), decide_eq_true h1, decide_eq_false h2]; rfl
  · rw [decide_eq_false (show ¬ (1 ≤ (x : Int) ∧ (x : Int) ≤ 64) by omega), decide_eq_false h1]; rfl
/-- ahead of row j -/
def TakeAt (w : World) (p W H : Nat) (tot : List UInt8 × S) (j : Nat) (pix : List UInt8) (s : S) (pv : Value) (wr : World) : Prop :=
  rowsL W (H - j) pix s = tot ∧ Blk wr p 24 #[.int .i64 (W : Int), .int .i64 (H : Int), pv] ∧ OwnB wr (p + 1) pv pix ∧ St w.heap.size wr (w.heap.size + 1) s ∧
    Blk wr w.heap.size 24 #[.int .i64 0, .int .i64 0, .slice none 0 0] ∧ Below w.heap.size w wr ∧ pix.length ≤ j * 192 ∧ (s.2 = 0 → (1 ≤ W ∧ W ≤ 64) ∧ (1 ≤ H ∧ H ≤ 64))

set_option maxRecDepth 100000 in
set_option maxHeartbeats 800000 in
theorem takeleaf_long (A : Option Addr) (n c : Nat) (w : World) (hn : 12356 < n) :
    Calls Try.prog 16 #[.slice A n c] w fun en w' => en = .returned (.tuple #[.agg #[.int .i64 0, .int .i64 0, .slice none 0 0], .int .i64 5]) ∧ Below w.heap.size w w' := by
  have h1 : decide ((12356 : Int) < (n : Int)) = true := by simp; omega
  go_enter Try.func16, Try.ntmps16
  go_wp2_with fail
  refine ret_struct2 (g := w.heap.size) (t := 24) (cs := #[.int .i64 0, .int .i64 0, .slice none 0 0]) rfl rfl ?_ Try.underlying24 rfl rfl rfl ?_
  · exact Blk.new w 24 #[.int .i64 0, .int .i64 0, .slice none 0 0]
  · exact ⟨rfl, by (repeat' (first | exact Below.refl _ _ | exact Below.refl _ _ | refine balloc ?_ _ | refine Below.drew ?_ | refine below_drewN ?_ _ | refine bset ?_ (by first | omega | (simp <;> omega)) _))⟩

set_option maxRecDepth 100000 in
set_option maxHeartbeats 3200000 in
theorem takeleaf_any (A : Option Addr) (n c : Nat) (l : List UInt8) (w : World) (hn : n ≤ 12356) (hb : Bytes w A n c l) (W H : Nat) (pix : List UInt8) (sf : S) (ht : takeB l = (W, H, pix, sf)) :
    Calls Try.prog 16 #[.slice A n c] w fun en w' => (sf.2 = 0 ∧ ∃ v, en = .returned (.tuple #[.agg #[.int .i64 (W : Int), .int .i64 (H : Int), v], .int .i64 0]) ∧ OwnB w' w.heap.size v pix ∧ Below w.heap.size w w') ∨
      (sf.2 ≠ 0 ∧ en = .returned (.tuple #[.agg #[.int .i64 0, .int .i64 0, .slice none 0 0], .int .i64 sf.2]) ∧ Below w.heap.size w w') := by
  obtain ⟨q1, E1⟩ : ∃ s, must2S 84 (l, 0) = s := ⟨_, rfl⟩
  obtain ⟨q2, E2⟩ : ∃ s, must2S 89 q1 = s := ⟨_, rfl⟩
  obtain ⟨W', hW⟩ : ∃ x, hd 1 q2 = x := ⟨_, rfl⟩
  obtain ⟨q3, E3⟩ : ∃ s, szS q2 = s := ⟨_, rfl⟩
  obtain ⟨H', hH⟩ : ∃ x, hd 1 q3 = x := ⟨_, rfl⟩
  obtain ⟨q4, E4⟩ : ∃ s, szS q3 = s := ⟨_, rfl⟩
  obtain ⟨tot, htot⟩ : ∃ t, rowsL W' H' [] q4 = t := ⟨_, rfl⟩
  have hT : takeB l = (W', H', tot.1, wt (decide (tot.2.1.length = 0)) tot.2) := by
    have e1 : wt (decide (hd 1 ((l, 0) : S) = 84)) (tkS 1 (l, 0)) = q1 := E1
    have e2 : wt (decide (hd 1 q1 = 89)) (tkS 1 q1) = q2 := E2
    unfold takeB headS
    simp only [e1, e2, hW, E3, hH, E4, htot]
  rw [ht] at hT
  simp only [Prod.mk.injEq] at hT
  obtain ⟨rfl, rfl, hpix, hsf⟩ := hT
  have hW255 : W ≤ 255 := by rw [← hW]; exact hd_lt _
  have hH255 : H ≤ 255 := by rw [← hH]; exact hd_lt _
  have hWH : q4.2 = 0 → (1 ≤ W ∧ W ≤ 64) ∧ (1 ≤ H ∧ H ≤ 64) := fun h => by
    rw [← E4] at h
    have a := szS_ok h
    have b : (szS q2).2 = 0 := by rw [E3]; exact a.2.2
    have b := szS_ok b
    rw [hH] at a
    rw [hW] at b
    omega
  have hwi : (((tkV 1 q2).getD 0 0).toNat : Int) = (W : Int) := by rw [← hW]; rfl
  have hhi : (((tkV 1 q3).getD 0 0).toNat : Int) = (H : Int) := by rw [← hH]; rfl
  replace E3 : wt (ik.sideB (W : Int)) (tkS 1 q2) = q3 := by rw [side_dec, ← hW]; exact E3
  replace E4 : wt (ik.sideB (H : Int)) (tkS 1 q3) = q4 := by rw [side_dec, ← hH]; exact E4
  have HTOT := Lib.hid htot
  have HPIX := Lib.hid hpix
  have HSF := Lib.hid hsf
  have HWH := Lib.hid hWH
  clear ht hW hH htot hpix hsf hWH
  obtain ⟨bW, hbW⟩ : ∃ b, ik.sideB (W : Int) = b := ⟨_, rfl⟩
  obtain ⟨bH, hbH⟩ : ∃ b, ik.sideB (H : Int) = b := ⟨_, rfl⟩
  have HIW := Lib.hid (fun u => ik.isside_any (W : Int) u)
  have HIH := Lib.hid (fun u => ik.isside_any (H : Int) u)
  rw [hbW] at E3 HIW
  rw [hbH] at E4 HIH
  clear hbW hbH
  have Kr := (Blk.new w 24 #[.int .i64 0, .int .i64 0, .slice none 0 0]).alloc (.cells #[.slice A n c, .int .i64 0] 72)
  have Kg := Blk.new (w.alloc (.cells #[.int .i64 0, .int .i64 0, .slice none 0 0] 24)) 72 #[.slice A n c, .int .i64 0]
  have e1 : ∀ (u : World) (o : Obj), (u.alloc o).heap.size = u.heap.size + 1 := fun u o => by simp
  simp only [e1] at Kg
  clear e1
  have HBA := Lib.hid (show Below w.heap.size w ((w.alloc (.cells #[.int .i64 0, .int .i64 0, .slice none 0 0] 24)).alloc (.cells #[.slice A n c, .int .i64 0] 72)) by (repeat' (first | exact Below.refl _ _ | exact Below.refl _ _ | refine balloc ?_ _ | refine Below.drew ?_ | refine below_drewN ?_ _ | refine bset ?_ (by first | omega | (simp <;> omega)) _)))
  have HS0 := Lib.hid (show St w.heap.size ((w.alloc (.cells #[.int .i64 0, .int .i64 0, .slice none 0 0] 24)).alloc (.cells #[.slice A n c, .int .i64 0] 72)) (w.heap.size + 1) (l, 0) from ⟨A, n, c, Kg, hb.below HBA.out, by omega, fun hp a e => by obtain ⟨b, o, e2, hlt, _⟩ := hb.2.2 hp; rw [e2] at e; cases e; exact hlt⟩)
  have HKR := Lib.hid Kr
  have hd0 : decide ((12356 : Int) < (n : Int)) = false := by simp; omega
  clear Kr Kg hb
  obtain ⟨i0, hi, hz0, hz1, hz2⟩ := info_parts (show (Try.prog.info? 5).map (fun i => (i.zero, i.size, i.bytes)) = some (some (.int .u8 0), 1, 1) by kernel_rfl)
  go_enter Try.func16, Try.ntmps16
  go_wp2_with fail
  refine (must2_any (w.heap.size + 1) 84 _ _ HS0.out (by decide)).mono ?_
  rintro e w1 ⟨rfl, hs1, hg1⟩
  rw [E1] at hs1
  have HS1 := Lib.hid hs1
  have HG1 := Lib.hid hg1
  clear hs1 hg1 HS0
  go_wp2_with fail
  refine (must2_any (w.heap.size + 1) 89 _ _ HS1.out (by decide)).mono ?_
  rintro e w2 ⟨rfl, hs2, hg2⟩
  rw [E2] at hs2
  have HS2 := Lib.hid hs2
  have HG2 := Lib.hid (HG1.out.trans hg2)
  clear hs2 hg2 HS1 HG1
  go_wp2_with fail
  refine (next_any (w.heap.size + 1) 1 _ _ HS2.out (by omega)).mono ?_
  rintro e w3 ⟨A3, c3, rfl, hb3, hs3, hg3, _⟩
  obtain ⟨b3, o3, rfl, hlt3, hc3⟩ := hb3.at_ (by omega)
  have c0 := hc3 0 (by omega)
  simp only [Nat.add_zero] at c0
  rw [hwi] at c0
  have HG3 := Lib.hid (HG2.out.trans hg3)
  have hB3 : Below w.heap.size w w3 := Below.grown HBA.out HG3.out HBA.out.size (fun k e => by cases e; exact Nat.le_succ _)
  have Kp := Blk.new w3 24 #[.int .i64 (W : Int), .int .i64 0, .slice none 0 0]
  have HS3 := Lib.hid (hs3.below (balloc (Below.refl _ _) (.cells #[.int .i64 (W : Int), .int .i64 0, .slice none 0 0] 24)))
  have HB3 := Lib.hid (show Below w.heap.size w (w3.alloc (.cells #[.int .i64 (W : Int), .int .i64 0, .slice none 0 0] 24)) from hB3.alloc hB3.size _)
  have HKR3 := Lib.hid ((HKR.out.grown HG3.out (by simp)).alloc (.cells #[.int .i64 (W : Int), .int .i64 0, .slice none 0 0] 24))
  have hgp : w.heap.size + 1 < w3.heap.size := hs3.lt
  have z0 := Kp.cell 0
  simp only [List.getElem?_toArray, List.getElem?_cons_succ, List.getElem?_cons_zero] at z0
  have HKP := Lib.hid Kp
  clear hb3 hs3 hg3 hc3 hB3 Kp HS2 HG2 HG3 HKR HBA
  go_wp2_with fail
  refine (HIW.out _).mono ?_
  rintro e w_ ⟨rfl, rfl⟩
  go_wp2_with fail
  refine (must_any (w.heap.size + 1) bW _ _ HS3.out).mono ?_
  rintro e w4 ⟨rfl, hs4, hg4⟩
  rw [E3] at hs4
  have HS4 := Lib.hid hs4
  have HB4 := Lib.hid (show Below w.heap.size w w4 from Below.grown HB3.out hg4 HB3.out.size (fun k e => by cases e; exact Nat.le_succ _))
  have HKP4 := Lib.hid (HKP.out.grown hg4 (by simp; omega))
  have HKR4 := Lib.hid (HKR3.out.grown hg4 (by simp))
  clear hs4 hg4 HS3 HB3 HKP HKR3 z0 c0
  generalize w3.heap.size = p at *
  go_wp2_with fail
  refine (next_any (w.heap.size + 1) 1 _ _ HS4.out (by omega)).mono ?_
  rintro e w5 ⟨A5, c5, rfl, hb5, hs5, hg5, _⟩
  obtain ⟨b5, o5, rfl, hlt5, hc5⟩ := hb5.at_ (by omega)
  have c0 := hc5 0 (by omega)
  simp only [Nat.add_zero] at c0
  rw [hhi] at c0
  have Kp := HKP4.out.grown hg5 (by simp; omega)
  have z1 := Kp.cell 1
  have y1 := Kp.frozen 1
  simp only [List.getElem?_toArray, List.getElem?_cons_succ, List.getElem?_cons_zero] at z1
  have hpw : p < w5.heap.size := Kp.lt
  have HKP5 := Lib.hid (Kp.set_ 1 (.int .i64 (H : Int)))
  have HS5 := Lib.hid (st_far (p := p) (o := 1) hs5 (by omega) (by omega) (.int .i64 (H : Int)))
  have HB5a : Below w.heap.size w w5 := Below.grown HB4.out hg5 HB4.out.size (fun k e => by cases e; exact Nat.le_succ _)
  have HB5 := Lib.hid (bset HB5a (p := ⟨p, 1, none⟩) (by show w.heap.size ≤ p; omega) (.int .i64 (H : Int)))
  have HKR5 := Lib.hid ((HKR4.out.grown hg5 (by simp)).far (p := ⟨p, 1, none⟩) (by show w.heap.size ≠ p; omega) (.int .i64 (H : Int)))
  clear hb5 hs5 hg5 hc5 Kp HB5a HS4 HB4 HKP4 HKR4
  have z2 := HKP5.out.cell 1
  simp only [List.setIfInBounds_toArray, List.set_cons_succ, List.set_cons_zero, List.getElem?_toArray, List.getElem?_cons_succ, List.getElem?_cons_zero] at z2
  go_wp2_with fail
  refine (HIH.out _).mono ?_
  rintro e w_ ⟨rfl, rfl⟩
  go_wp2_with fail
  refine (must_any (w.heap.size + 1) bH _ _ HS5.out).mono ?_
  rintro e w6 ⟨rfl, hs6, hg6⟩
  rw [E4] at hs6
  have HS6 := Lib.hid hs6
  have HB6 := Lib.hid (show Below w.heap.size w w6 from Below.grown HB5.out hg6 HB5.out.size (fun k e => by cases e; exact Nat.le_succ _))
  have HKP6 := Lib.hid (show Blk w6 p 24 #[.int .i64 (W : Int), .int .i64 (H : Int), .slice none 0 0] from HKP5.out.grown hg6 (by simp; omega))
  have HKR6 := Lib.hid (HKR5.out.grown hg6 (by simp))
  clear hs6 hg6 HS5 HB5 HKP5 HKR5 z1 z2 y1 c0 hpw
  go_wp2_with fail
  go_loopw [6] (fun jv wr => ∃ (j : Nat) (px : List UInt8) (s : S) (pv : Value), j ≤ H ∧ jv = .int .i64 (j : Int) ∧ Hid (TakeAt w p W H tot j px s pv wr)) (fun jv _ => 255 - (intOf jv).toNat)
  case atStart => exact ⟨0, [], q4, .slice none 0 0, Nat.zero_le _, rfl, Lib.hid ⟨HTOT.out, HKP6.out, lf.OwnB.none_ _ _, HS6.out, HKR6.out, HB6.out, Nat.zero_le _, HWH.out⟩⟩
  case round =>
    obtain ⟨j, px, s, u_pv, hj, rfl, hR⟩ := hrel
    obtain ⟨wo, rfl⟩ : ∃ wo, wo = wr := ⟨_, rfl⟩
    clear HKP6 HS6 HKR6 HB6
    obtain ⟨hT, hKp, hO, hSt, hKr, hBB, hpl, hwh⟩ := hR.out
    obtain ⟨Ap, cp, rfl, _, _⟩ := lf.OwnB.bytes hO
    obtain ⟨A6, n6, c6, hbx, _, _⟩ := id hSt
    have k1 := hbx.cell 1
    have p0 := hKp.cell 0
    have p1 := hKp.cell 1
    have p2 := hKp.cell 2
    simp only [List.getElem?_toArray, List.getElem?_cons_succ, List.getElem?_cons_zero] at k1 p0 p1 p2
    obtain ⟨ec, hec⟩ : ∃ e, s.2 = e := ⟨_, rfl⟩
    rw [hec] at k1
    have hpsz := hKp.lt
    have HT := Lib.hid hT
    have HKP := Lib.hid hKp
    have HO := Lib.hid hO
    have HST := Lib.hid hSt
    have HKR := Lib.hid hKr
    have HBB := Lib.hid hBB
    have HEC := Lib.hid hec
    have HWHs := Lib.hid hwh
    clear hT hKp hO hSt hKr hBB hbx hec hR hwh
    by_cases hjH : j = H
    · have hjd : decide ((j : Int) < (H : Int)) = false := by simp; omega
      have hjd2 : ¬ j < H := by omega
      have HJ := Lib.hid hjH
      clear hjH
      obtain ⟨A6, n6, c6, hbx6, hby6, _⟩ := id HST.out
      have k0 := hbx6.cell 0
      simp only [List.getElem?_toArray, List.getElem?_cons_succ, List.getElem?_cons_zero] at k0
      have hl6 : s.1.length = n6 := hby6.1
      clear hbx6 hby6
      have hTT : tot = (px, s) := by rw [← HT.out]; rw [HJ.out, Nat.sub_self]; rfl
      have hpx : pix = px := by rw [HPIX.out, hTT]
      have hsf : wt (decide ((n6 : Int) = 0)) s = sf := by
        rw [HSF.out, hTT, hl6]
        congr 1; simp
      clear hTT
      obtain ⟨ef, hef⟩ : ∃ e, sf.2 = e := ⟨_, rfl⟩
      by_cases hef0 : ef = 0
      · subst hef0
        go_wp2_with (go_at_call 39; refine (must_any (w.heap.size + 1) (decide ((n6 : Int) = 0)) s _ HST.out).mono ?_; rintro e w9 ⟨rfl, hs9, hg9⟩; rw [hsf] at hs9; obtain ⟨A7, n7, c7, hbx7, _, _⟩ := id hs9; have q1 := hbx7.cell 1; simp only [List.getElem?_toArray, List.getElem?_cons_succ, List.getElem?_cons_zero] at q1; rw [hef] at q1; have Kp9 := HKP.out.grown hg9 (by simp; omega); have r0 := Kp9.cell 0; have r1 := Kp9.cell 1; have r2 := Kp9.cell 2; simp only [List.getElem?_toArray, List.getElem?_cons_succ, List.getElem?_cons_zero] at r0 r1 r2; have HK9 := Lib.hid (HKR.out.grown hg9 (by simp)); have HB9 := Lib.hid (HBB.out.grown hg9 HBB.out.size (fun k e => by cases e; omega)); have HO9 := Lib.hid (lf.OwnB.grown HO.out hg9 (by omega)); have hK9 := HK9.out; have y0 := hK9.frozen 0; have y1 := hK9.frozen 1; have y2 := hK9.frozen 2; have x0 := hK9.cell 0; have x1 := hK9.cell 1; have x2 := hK9.cell 2; simp only [List.getElem?_toArray, List.getElem?_cons_succ, List.getElem?_cons_zero] at x0 x1 x2; clear hbx7 hs9 hg9 Kp9 hK9)
        refine ret_struct2 (g := w.heap.size) (t := 24) (cs := #[.int .i64 (W : Int), .int .i64 (H : Int), .slice Ap px.length cp]) rfl rfl ?_ Try.underlying24 rfl rfl rfl ?_
        · exact ((HK9.out.set_ 0 (.int .i64 (W : Int))).set_ 1 (.int .i64 (H : Int))).set_ 2 (.slice Ap px.length cp)
        · exact .inl ⟨hef, _, rfl, by rw [hpx]; exact (lf.OwnB.mono (own_far3 HO9.out (by omega) _ _ _) (by omega)), by (repeat' (first | refine bset ?_ (by first | omega | (simp <;> omega)) _ | refine balloc ?_ _ | refine Below.drew ?_ | refine below_drewN ?_ _ | exact HB9.out | exact Below.refl _ _))⟩
      · have hef1 : (ef == 0) = false := by simpa using hef0
        go_wp2_with (go_at_call 39; refine (must_any (w.heap.size + 1) (decide ((n6 : Int) = 0)) s _ HST.out).mono ?_; rintro e w9 ⟨rfl, hs9, hg9⟩; rw [hsf] at hs9; obtain ⟨A7, n7, c7, hbx7, _, _⟩ := id hs9; have q1 := hbx7.cell 1; simp only [List.getElem?_toArray, List.getElem?_cons_succ, List.getElem?_cons_zero] at q1; rw [hef] at q1; have HK9 := Lib.hid (HKR.out.grown hg9 (by simp)); have HB9 := Lib.hid (HBB.out.grown hg9 HBB.out.size (fun k e => by cases e; omega)); have hK9 := HK9.out; have y0 := hK9.frozen 0; have y1 := hK9.frozen 1; have y2 := hK9.frozen 2; have x0 := hK9.cell 0; have x1 := hK9.cell 1; have x2 := hK9.cell 2; simp only [List.getElem?_toArray, List.getElem?_cons_succ, List.getElem?_cons_zero] at x0 x1 x2; clear hbx7 hs9 hg9 hK9)
        go_region
        go_wp2_with fail
        refine ret_struct2 (g := w.heap.size) (t := 24) (cs := #[.int .i64 0, .int .i64 0, .slice none 0 0]) rfl rfl ?_ Try.underlying24 rfl rfl rfl ?_
        · exact ((HK9.out.set_ 0 (.int .i64 0)).set_ 1 (.int .i64 0)).set_ 2 (.slice none 0 0)
        · exact .inr ⟨by rw [hef]; exact hef0, by rw [hef]; rfl, by (repeat' (first | refine bset ?_ (by first | omega | (simp <;> omega)) _ | refine balloc ?_ _ | refine Below.drew ?_ | refine below_drewN ?_ _ | exact HB9.out | exact Below.refl _ _))⟩
    · have hjl : j < H := by omega
      by_cases hec0 : ec = 0
      · subst hec0
        obtain ⟨⟨hWb1, hWb2⟩, hHb1, hHb2⟩ := HWHs.out HEC.out
        obtain ⟨k, hk⟩ : ∃ k, H - j = k + 1 := ⟨H - j - 1, by omega⟩
        have HT2 := Lib.hid (show rowsL W k (px ++ (rowL W s).1) (rowL W s).2 = tot by have h := HT.out; rw [hk, rowsL, if_pos HEC.out] at h; exact h)
        have HK := Lib.hid hk
        obtain ⟨x, hx⟩ : ∃ x, hd 1 s = x := ⟨_, rfl⟩
        obtain ⟨s1, hs1⟩ : ∃ s1, wt (decide (x ≤ 1)) (tkS 1 s) = s1 := ⟨_, rfl⟩
        have hRL : rowL W s = if s1.2 = 0 then (if x = 0 then plainL W s1 else rowedL W s1) else ([], s1) := by unfold rowL; simp only [hx, hs1]
        have hrl9 := rowL_len W s
        have hxi : (((tkV 1 s).getD 0 0).toNat : Int) = (x : Int) := by rw [← hx]; rfl
        have hx255 : x ≤ 255 := by rw [← hx]; exact hd_lt _
        have hs1' : wt (decide ((x : Int) ≤ 1)) (tkS 1 s) = s1 := by rw [← hs1]; congr 1; simp; omega
        have hx01 : s1.2 = 0 → x = 0 ∨ x = 1 := fun h => by
          have := (wt_ok (hs1 ▸ h)).1
          simp only [decide_eq_true_eq] at this
          omega
        have HX01 := Lib.hid hx01
        have HRL := Lib.hid hRL
        have HRN := Lib.hid hrl9
        have hszw : w.heap.size ≤ wo.heap.size := HBB.out.size
        have hpx : px.length ≤ 64 * 192 := by have : j * 192 ≤ 64 * 192 := Nat.mul_le_mul_right _ (by omega); omega
        have hjd : decide ((j : Int) < (H : Int)) = true := by simp; omega
        clear hk hx hs1 hRL hrl9 hx01
        go_wp2_with fail
        refine (next_any (w.heap.size + 1) 1 _ _ HST.out (by omega)).mono ?_
        rintro e w7 ⟨A7, c7, rfl, hb7, hs7, hg7, _⟩
        obtain ⟨b7, o7, rfl, hlt7, hc7⟩ := hb7.at_ (by omega)
        have c0 := hc7 0 (by omega)
        simp only [Nat.add_zero] at c0
        rw [hxi] at c0
        have HS7 := Lib.hid hs7
        have HG7 := Lib.hid hg7
        clear hb7 hs7 hg7 hc7 k1 p0 p1 p2
        go_wp2_with fail
        refine (must_any (w.heap.size + 1) (decide ((x : Int) ≤ 1)) _ _ HS7.out).mono ?_
        rintro e w8 ⟨rfl, hs8, hg8⟩
        rw [hs1'] at hs8
        have HG8 := Lib.hid (HG7.out.trans hg8)
        obtain ⟨A8, n8, c8, hbx8, _, _⟩ := id hs8
        have k1 := hbx8.cell 1
        obtain ⟨e1, he1⟩ : ∃ e, s1.2 = e := ⟨_, rfl⟩
        simp only [List.getElem?_toArray, List.getElem?_cons_succ, List.getElem?_cons_zero] at k1
        rw [he1] at k1
        have Kp8 := HKP.out.grown HG8.out (by simp; omega)
        have p0 := Kp8.cell 0
        have p2 := Kp8.cell 2
        simp only [List.getElem?_toArray, List.getElem?_cons_succ, List.getElem?_cons_zero] at p0 p2
        have hpsz8 := Kp8.lt
        have HKP8 := Lib.hid Kp8
        have HO8 := Lib.hid (lf.OwnB.grown HO.out HG8.out (by omega))
        have HKR8 := Lib.hid (HKR.out.grown HG8.out (by simp))
        have HBB8 := Lib.hid (Below.grown HBB.out HG8.out HBB.out.size (fun k e => by cases e; exact Nat.le_succ _))
        have hszw8 : w.heap.size ≤ w8.heap.size := HBB8.out.size
        have HS8 := Lib.hid hs8
        have HE1 := Lib.hid he1
        clear hs8 hg8 hbx8 he1 HS7 HG7 HG8 c0 hxi hs1' HST HKP HO HKR HBB
        by_cases he0 : e1 = 0
        · subst he0
          rcases HX01.out HE1.out with rfl | rfl
          · clear HX01
            obtain ⟨rw8, hrw⟩ : ∃ x, (plainL W s1).1 = x := ⟨_, rfl⟩
            obtain ⟨s9, hs9e⟩ : ∃ x, (plainL W s1).2 = x := ⟨_, rfl⟩
            have HRX := Lib.hid (show rowL W s = (rw8, s9) by rw [HRL.out, if_pos HE1.out, if_pos rfl, ← hrw, ← hs9e])
            have hrl : rw8.length ≤ 192 := by have := HRN.out; rw [HRX.out] at this; simp only at this; omega
            have HRW := Lib.hid (And.intro hrw hs9e)
            obtain ⟨l9, hl9⟩ : ∃ x, px ++ rw8 = x := ⟨_, rfl⟩
            have HL9 := Lib.hid hl9
            have HSTD := Lib.hid (show St w.heap.size w8.drew (w.heap.size + 1) s1 from HS8.out)
            have HKPD := Lib.hid (show Blk w8.drew p 24 _ from HKP8.out)
            have HOD := Lib.hid (show OwnB w8.drew (p + 1) (.slice Ap px.length cp) px from HO8.out)
            have HKRD := Lib.hid (show Blk w8.drew w.heap.size 24 _ from HKR8.out)
            have HBBD := Lib.hid (show Below w.heap.size w w8.drew from Below.drew HBB8.out)
            clear hrw hs9e hl9
            go_wp2_with fail
            go_region_law (first
              | (go_simp; go_at_call 41; refine (plainR_any (w.heap.size + 1) W s1 _ HSTD.out (by first | exact hszw8 | (simp; exact hszw8)) ⟨hWb1, hWb2⟩).mono ?_; rintro e w9 ⟨v9, rfl, hv9, hs9, hg9⟩; rw [HRW.out.1] at hv9; rw [HRW.out.2] at hs9; obtain ⟨A9, c9, rfl, hb9⟩ := hv9; have Kp9 := HKPD.out.grown hg9 (by simp; omega); have r0 := Kp9.cell 0; have r2 := Kp9.cell 2; simp only [List.getElem?_toArray, List.getElem?_cons_succ, List.getElem?_cons_zero] at r0 r2; have HKP9 := Lib.hid Kp9; have HO9 := Lib.hid (lf.OwnB.grown HOD.out hg9 (by omega)); have HB9 := Lib.hid hb9; have HS9 := Lib.hid hs9; have HKR9 := Lib.hid (HKRD.out.grown hg9 (by simp)); have HBB9 := Lib.hid (Below.grown HBBD.out hg9 HBBD.out.size (fun k e => by cases e; exact Nat.le_succ _)); have hsz9 := Kp9.lt; clear hb9 hs9 hg9 Kp9)
              | (go_loud (refine step_append_any _ rfl (.tmp 72) (.tmp 76) 22 rfl (p + 1) 5 i0 (.int .u8 0) 1 1 Try.underlying22 hi hz0 hz1 hz2 rfl (by omega) (.slice Ap px.length cp) px.length (vals px) (by rfl) HO9.out _ A9 rw8.length c9 (vals rw8) (by rfl) (lf.Bytes.reads HB9.out) (vals_one _) (by simp [maxLen]; omega) (by omega) (by omega) ?_; intro v10 w10 hown10 hg10 _; have hO10 := lf.OwnB.push (l := px) (x := rw8) hown10 rfl; rw [HL9.out] at hO10; obtain ⟨A10, c10, rfl, _, _⟩ := lf.OwnB.bytes hO10; have Kp10 := HKP9.out.grown hg10 (fun e => by have := (lf.OwnB.ge HO9.out _ e.symm).1; omega); have r2b := Kp10.cell 2; have y2 := Kp10.frozen 2; simp only [List.getElem?_toArray, List.getElem?_cons_succ, List.getElem?_cons_zero] at r2b; have HKP10 := Lib.hid Kp10; have HO10 := Lib.hid hO10; have HS10 := Lib.hid (HS9.out.row hg10 (fun j e => (lf.OwnB.ge HO9.out j e).1) (by omega) (by omega)); have HKR10 := Lib.hid (HKR9.out.grown hg10 (fun e => by have := (lf.OwnB.ge HO9.out _ e.symm).1; omega)); have HBB10 := Lib.hid (Below.grown HBB9.out hg10 HBB9.out.size (fun k e => by have := (lf.OwnB.ge HO9.out k e).1; omega)); clear hown10 hg10 hO10 Kp10)))
            all_goals
              have HKPx := Lib.hid (HKP10.out.set_ 2 (.slice A10 l9.length c10))
              have HOx := Lib.hid (own_far HO10.out (p := ⟨p, 2, none⟩) (by show p < p + 1; omega) (.slice A10 l9.length c10))
              have HSx := Lib.hid (st_far (p := p) (o := 2) HS10.out (by omega) (by omega) (.slice A10 l9.length c10))
              have HKRx := Lib.hid (HKR10.out.far (p := ⟨p, 2, none⟩) (by show w.heap.size ≠ p; omega) (.slice A10 l9.length c10))
              have HBBx := Lib.hid (bset HBB10.out (p := ⟨p, 2, none⟩) (by show w.heap.size ≤ p; omega) (.slice A10 l9.length c10))
              obtain ⟨Ay, ny, cy, hby, _, _⟩ := id HSx.out
              have ky := hby.cell 1
              obtain ⟨e9, he9⟩ : ∃ e, s9.2 = e := ⟨_, rfl⟩
              simp only [List.getElem?_toArray, List.getElem?_cons_succ, List.getElem?_cons_zero] at ky
              rw [he9] at ky
              generalize hwy : w10.setCell ⟨p, 2, none⟩ (.slice A10 l9.length c10) = wy at *
              clear hwy hby he9
              clear k1
              by_cases he3 : e9 = 0
              · subst he3
                go_wp2_with fail
                go_roundw
                case rel =>
                  exact ⟨j + 1, l9, s9, .slice A10 l9.length c10, by omega, by go_num, Lib.hid ⟨by rw [show H - (j + 1) = k by have := HK.out; omega, ← HL9.out]; have h := HT2.out; rw [HRX.out] at h; exact h, HKPx.out, HOx.out, HSx.out, HKRx.out, HBBx.out, by rw [← HL9.out, List.length_append]; omega, fun _ => ⟨⟨hWb1, hWb2⟩, hHb1, hHb2⟩⟩⟩
                case measure => simp [intOf]; omega
              · have he4 : (e9 == 0) = false := by simpa using he3
                go_wp2_with fail
                go_roundw
                case rel =>
                  exact ⟨j + 1, l9, s9, .slice A10 l9.length c10, by omega, by go_num, Lib.hid ⟨by rw [show H - (j + 1) = k by have := HK.out; omega, ← HL9.out]; have h := HT2.out; rw [HRX.out] at h; exact h, HKPx.out, HOx.out, HSx.out, HKRx.out, HBBx.out, by rw [← HL9.out, List.length_append]; omega, fun _ => ⟨⟨hWb1, hWb2⟩, hHb1, hHb2⟩⟩⟩
                case measure => simp [intOf]; omega
          · clear HX01
            obtain ⟨rw8, hrw⟩ : ∃ x, (rowedL W s1).1 = x := ⟨_, rfl⟩
            obtain ⟨s9, hs9e⟩ : ∃ x, (rowedL W s1).2 = x := ⟨_, rfl⟩
            have HRX := Lib.hid (show rowL W s = (rw8, s9) by rw [HRL.out, if_pos HE1.out, if_neg (by decide), ← hrw, ← hs9e])
            have hrl : rw8.length ≤ 192 := by have := HRN.out; rw [HRX.out] at this; simp only at this; omega
            have HRW := Lib.hid (And.intro hrw hs9e)
            obtain ⟨l9, hl9⟩ : ∃ x, px ++ rw8 = x := ⟨_, rfl⟩
            have HL9 := Lib.hid hl9
            have HSTD := Lib.hid (show St w.heap.size w8.drew (w.heap.size + 1) s1 from HS8.out)
            have HKPD := Lib.hid (show Blk w8.drew p 24 _ from HKP8.out)
            have HOD := Lib.hid (show OwnB w8.drew (p + 1) (.slice Ap px.length cp) px from HO8.out)
            have HKRD := Lib.hid (show Blk w8.drew w.heap.size 24 _ from HKR8.out)
            have HBBD := Lib.hid (show Below w.heap.size w w8.drew from Below.drew HBB8.out)
            clear hrw hs9e hl9
            go_wp2_with fail
            go_region_law (first
              | (go_simp; go_at_call 42; refine (rowed_any (w.heap.size + 1) W s1 _ HSTD.out (by first | exact hszw8 | (simp; exact hszw8)) ⟨hWb1, hWb2⟩).mono ?_; rintro e w9 ⟨v9, rfl, hv9, hs9, hg9⟩; rw [HRW.out.1] at hv9; rw [HRW.out.2] at hs9; obtain ⟨A9, c9, rfl, hb9⟩ := hv9; have Kp9 := HKPD.out.grown hg9 (by simp; omega); have r0 := Kp9.cell 0; have r2 := Kp9.cell 2; simp only [List.getElem?_toArray, List.getElem?_cons_succ, List.getElem?_cons_zero] at r0 r2; have HKP9 := Lib.hid Kp9; have HO9 := Lib.hid (lf.OwnB.grown HOD.out hg9 (by omega)); have HB9 := Lib.hid hb9; have HS9 := Lib.hid hs9; have HKR9 := Lib.hid (HKRD.out.grown hg9 (by simp)); have HBB9 := Lib.hid (Below.grown HBBD.out hg9 HBBD.out.size (fun k e => by cases e; exact Nat.le_succ _)); have hsz9 := Kp9.lt; clear hb9 hs9 hg9 Kp9)
              | (go_loud (refine step_append_any _ rfl (.tmp 89) (.tmp 93) 22 rfl (p + 1) 5 i0 (.int .u8 0) 1 1 Try.underlying22 hi hz0 hz1 hz2 rfl (by omega) (.slice Ap px.length cp) px.length (vals px) (by rfl) HO9.out _ A9 rw8.length c9 (vals rw8) (by rfl) (lf.Bytes.reads HB9.out) (vals_one _) (by simp [maxLen]; omega) (by omega) (by omega) ?_; intro v10 w10 hown10 hg10 _; have hO10 := lf.OwnB.push (l := px) (x := rw8) hown10 rfl; rw [HL9.out] at hO10; obtain ⟨A10, c10, rfl, _, _⟩ := lf.OwnB.bytes hO10; have Kp10 := HKP9.out.grown hg10 (fun e => by have := (lf.OwnB.ge HO9.out _ e.symm).1; omega); have r2b := Kp10.cell 2; have y2 := Kp10.frozen 2; simp only [List.getElem?_toArray, List.getElem?_cons_succ, List.getElem?_cons_zero] at r2b; have HKP10 := Lib.hid Kp10; have HO10 := Lib.hid hO10; have HS10 := Lib.hid (HS9.out.row hg10 (fun j e => (lf.OwnB.ge HO9.out j e).1) (by omega) (by omega)); have HKR10 := Lib.hid (HKR9.out.grown hg10 (fun e => by have := (lf.OwnB.ge HO9.out _ e.symm).1; omega)); have HBB10 := Lib.hid (Below.grown HBB9.out hg10 HBB9.out.size (fun k e => by have := (lf.OwnB.ge HO9.out k e).1; omega)); clear hown10 hg10 hO10 Kp10)))
            all_goals
              have HKPx := Lib.hid (HKP10.out.set_ 2 (.slice A10 l9.length c10))
              have HOx := Lib.hid (own_far HO10.out (p := ⟨p, 2, none⟩) (by show p < p + 1; omega) (.slice A10 l9.length c10))
              have HSx := Lib.hid (st_far (p := p) (o := 2) HS10.out (by omega) (by omega) (.slice A10 l9.length c10))
              have HKRx := Lib.hid (HKR10.out.far (p := ⟨p, 2, none⟩) (by show w.heap.size ≠ p; omega) (.slice A10 l9.length c10))
              have HBBx := Lib.hid (bset HBB10.out (p := ⟨p, 2, none⟩) (by show w.heap.size ≤ p; omega) (.slice A10 l9.length c10))
              go_wp2_with fail
              go_roundw
              case rel =>
                exact ⟨j + 1, l9, s9, .slice A10 l9.length c10, by omega, by go_num, Lib.hid ⟨by rw [show H - (j + 1) = k by have := HK.out; omega, ← HL9.out]; have h := HT2.out; rw [HRX.out] at h; exact h, HKPx.out, HOx.out, HSx.out, HKRx.out, HBBx.out, by rw [← HL9.out, List.length_append]; omega, fun _ => ⟨⟨hWb1, hWb2⟩, hHb1, hHb2⟩⟩⟩
              case measure => simp [intOf]; omega
        · have HRW := Lib.hid (show rowL W s = ([], s1) by rw [HRL.out, if_neg (by rw [HE1.out]; exact he0)])
          have he2 : (e1 == 0) = false := by simpa using he0
          go_wp2_with fail
          go_roundw
          case rel =>
            exact ⟨j + 1, px, s1, .slice Ap px.length cp, by omega, by go_num, Lib.hid ⟨by have h := HT2.out; rw [HRW.out, List.append_nil] at h; rw [show H - (j + 1) = k by have := HK.out; omega]; exact h, HKP8.out, HO8.out, HS8.out, HKR8.out, HBB8.out, by omega, fun _ => ⟨⟨hWb1, hWb2⟩, hHb1, hHb2⟩⟩⟩
          case measure => simp [intOf]; omega
      · obtain ⟨k, hk⟩ : ∃ k, H - j = k + 1 := ⟨H - j - 1, by omega⟩
        have hec1 : (ec == 0) = false := by simpa using hec0
        have hjd : decide ((j : Int) < (H : Int)) = true := by simp; omega
        obtain ⟨A6, n6, c6, hbx6, hby6, _⟩ := id HST.out
        have k0 := hbx6.cell 0
        simp only [List.getElem?_toArray, List.getElem?_cons_succ, List.getElem?_cons_zero] at k0
        have hl6 : s.1.length = n6 := hby6.1
        clear hbx6 hby6
        have hTT : tot = (px, s) := by rw [← HT.out]; rw [hk, rowsL, if_neg (by rw [HEC.out]; exact hec0)]
        have hpx : pix = px := by rw [HPIX.out, hTT]
        have hsf : wt (decide ((n6 : Int) = 0)) s = sf := by
          rw [HSF.out, hTT, hl6]
          congr 1; simp
        clear hTT
        obtain ⟨ef, hef⟩ : ∃ e, sf.2 = e := ⟨_, rfl⟩
        by_cases hef0 : ef = 0
        · subst hef0
          go_wp2_with (go_at_call 39; refine (must_any (w.heap.size + 1) (decide ((n6 : Int) = 0)) s _ HST.out).mono ?_; rintro e w9 ⟨rfl, hs9, hg9⟩; rw [hsf] at hs9; obtain ⟨A7, n7, c7, hbx7, _, _⟩ := id hs9; have q1 := hbx7.cell 1; simp only [List.getElem?_toArray, List.getElem?_cons_succ, List.getElem?_cons_zero] at q1; rw [hef] at q1; have Kp9 := HKP.out.grown hg9 (by simp; omega); have r0 := Kp9.cell 0; have r1 := Kp9.cell 1; have r2 := Kp9.cell 2; simp only [List.getElem?_toArray, List.getElem?_cons_succ, List.getElem?_cons_zero] at r0 r1 r2; have HK9 := Lib.hid (HKR.out.grown hg9 (by simp)); have HB9 := Lib.hid (HBB.out.grown hg9 HBB.out.size (fun k e => by cases e; omega)); have HO9 := Lib.hid (lf.OwnB.grown HO.out hg9 (by omega)); have hK9 := HK9.out; have y0 := hK9.frozen 0; have y1 := hK9.frozen 1; have y2 := hK9.frozen 2; have x0 := hK9.cell 0; have x1 := hK9.cell 1; have x2 := hK9.cell 2; simp only [List.getElem?_toArray, List.getElem?_cons_succ, List.getElem?_cons_zero] at x0 x1 x2; clear hbx7 hs9 hg9 Kp9 hK9)
          refine ret_struct2 (g := w.heap.size) (t := 24) (cs := #[.int .i64 (W : Int), .int .i64 (H : Int), .slice Ap px.length cp]) rfl rfl ?_ Try.underlying24 rfl rfl rfl ?_
          · exact ((HK9.out.set_ 0 (.int .i64 (W : Int))).set_ 1 (.int .i64 (H : Int))).set_ 2 (.slice Ap px.length cp)
          · exact .inl ⟨hef, _, rfl, by rw [hpx]; exact (lf.OwnB.mono (own_far3 HO9.out (by omega) _ _ _) (by omega)), by (repeat' (first | refine bset ?_ (by first | omega | (simp <;> omega)) _ | refine balloc ?_ _ | refine Below.drew ?_ | refine below_drewN ?_ _ | exact HB9.out | exact Below.refl _ _))⟩
        · have hef1 : (ef == 0) = false := by simpa using hef0
          go_wp2_with (go_at_call 39; refine (must_any (w.heap.size + 1) (decide ((n6 : Int) = 0)) s _ HST.out).mono ?_; rintro e w9 ⟨rfl, hs9, hg9⟩; rw [hsf] at hs9; obtain ⟨A7, n7, c7, hbx7, _, _⟩ := id hs9; have q1 := hbx7.cell 1; simp only [List.getElem?_toArray, List.getElem?_cons_succ, List.getElem?_cons_zero] at q1; rw [hef] at q1; have HK9 := Lib.hid (HKR.out.grown hg9 (by simp)); have HB9 := Lib.hid (HBB.out.grown hg9 HBB.out.size (fun k e => by cases e; omega)); have hK9 := HK9.out; have y0 := hK9.frozen 0; have y1 := hK9.frozen 1; have y2 := hK9.frozen 2; have x0 := hK9.cell 0; have x1 := hK9.cell 1; have x2 := hK9.cell 2; simp only [List.getElem?_toArray, List.getElem?_cons_succ, List.getElem?_cons_zero] at x0 x1 x2; clear hbx7 hs9 hg9 hK9)
          go_region
          go_wp2_with fail
          refine ret_struct2 (g := w.heap.size) (t := 24) (cs := #[.int .i64 0, .int .i64 0, .slice none 0 0]) rfl rfl ?_ Try.underlying24 rfl rfl rfl ?_
          · exact ((HK9.out.set_ 0 (.int .i64 0)).set_ 1 (.int .i64 0)).set_ 2 (.slice none 0 0)
          · exact .inr ⟨by rw [hef]; exact hef0, by rw [hef]; rfl, by (repeat' (first | refine bset ?_ (by first | omega | (simp <;> omega)) _ | refine balloc ?_ _ | refine Below.drew ?_ | refine below_drewN ?_ _ | exact HB9.out | exact Below.refl _ _))⟩
end Go.Proofs.Ytfmkdccpgkbnoaa.lr
