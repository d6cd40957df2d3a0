/-
  leaf.Take.
-/
import Derived.Test.YtfmkdccpgkbnoaaLeafRowA
import Derived.Deep.RegionLaw
import Derived.BigRegion
namespace Go.Proofs.Ytfmkdccpgkbnoaa.lf
set_option linter.unusedVariables false
set_option linter.unusedSimpArgs false
open Go.RowKit bs

theorem szS_ok {s : S} (h : (szS s).2 = 0) : 1 ≤ hd 1 s ∧ hd 1 s ≤ 64 ∧ s.2 = 0 := by
  unfold szS at h
  have h1 := wt_ok h
  have h2 := tkS_ok h1.2
  simp only [Bool.and_eq_true, decide_eq_true_eq] at h1
  exact ⟨h1.1.1, h1.1.2, h2.1⟩
theorem hd_lt (s : S) : hd 1 s ≤ 255 := by unfold hd; have := ((tkV 1 s).getD 0 0).toNat_lt; omega
theorem st_far {N : Nat} {w : World} {g p o : Nat} {s : S} (h : St N w g s) (hN : N ≤ p) (hp : g ≠ p) (u : Value) : St N (w.setCell ⟨p, o, none⟩ u) g s := by
  obtain ⟨A, n, c, h1, h2, h3, h4⟩ := h
  refine ⟨A, n, c, h1.far hp u, ?_, h3, h4⟩
  obtain ⟨a1, a2, a3⟩ := h2
  refine ⟨a1, a2, fun hn => ?_⟩
  obtain ⟨b, o2, e, hlt, hc⟩ := a3 hn
  have hb := h4 _ e
  exact ⟨b, o2, e, by simpa [World.setCell] using hlt, fun j hj => (World.cell?_setCell_other _ _ _ _ (fun e => by have := (Addr.mk.inj e).1; simp at hb; omega)).trans (hc j hj)⟩
theorem own_far {w : World} {base : Nat} {v : Value} {l : List UInt8} (h : OwnB w base v l) {p : Addr} (hp : p.block < base) (u : Value) : OwnB (w.setCell p u) base v l := by
  refine ⟨h.1, ?_⟩
  rcases h.2 with h0 | ⟨g, cap, cur, e, h1, hg, h2⟩
  · exact .inl h0
  · exact .inr ⟨g, cap, cur, e, h1, (Below.heap_setCell w p u g (by omega)).trans hg, h2⟩
theorem own_far3 {w : World} {base p : Nat} {v : Value} {l : List UInt8} (h : OwnB w base v l) (hp : p < base) (a b c : Value) : OwnB (((w.setCell ⟨p, 0, none⟩ a).setCell ⟨p, 1, none⟩ b).setCell ⟨p, 2, none⟩ c) base v l :=
  own_far (own_far (own_far h (p := ⟨p, 0, none⟩) hp a) (p := ⟨p, 1, none⟩) hp b) (p := ⟨p, 2, none⟩) hp c
/-- ahead of row j -/
def TakeAt (w : World) (p W H : Nat) (tot : List UInt8 × S) (j : Nat) (pix : List UInt8) (s : S) (pv : Value) (wr : World) : Prop :=
  rowsL W (H - j) pix s = tot ∧ Blk wr p 24 #[.int .i64 (W : Int), .int .i64 (H : Int), pv] ∧ OwnB wr (p + 1) pv pix ∧ St w.heap.size wr (w.heap.size + 1) s ∧
    Blk wr w.heap.size 24 #[.int .i64 0, .int .i64 0, .slice none 0 0] ∧ Below w.heap.size w wr ∧ pix.length ≤ j * 192 ∧ (s.2 = 0 → (1 ≤ W ∧ W ≤ 64) ∧ (1 ≤ H ∧ H ≤ 64))

set_option maxRecDepth 100000 in
set_option maxHeartbeats 1600000 in
theorem take_long (A : Option Addr) (n c : Nat) (w : World) (hn : 12356 < n) (hn2 : n ≤ 100000) :
    Calls Try.prog 15 #[.slice A n c] w fun en w' => en = .returned (.tuple #[.agg #[.int .i64 0, .int .i64 0, .slice none 0 0], .int .i64 5]) ∧ Below w.heap.size w w' := by
  go_enter Try.func15, Try.ntmps15
  go_wp2_with fail
  refine ret_struct2 (g := w.heap.size) (t := 24) (cs := #[.int .i64 0, .int .i64 0, .slice none 0 0]) rfl rfl ?_ Try.underlying24 rfl rfl rfl ?_
  · exact Blk.new w 24 #[.int .i64 0, .int .i64 0, .slice none 0 0]
  · exact ⟨rfl, by (repeat' (first | exact Below.refl _ _ | exact Below.refl _ _ | refine balloc ?_ _ | refine Below.drew ?_ | refine below_drewN ?_ _ | refine bset ?_ (by first | omega | (simp <;> omega)) _))⟩

set_option maxRecDepth 100000 in
set_option maxHeartbeats 1600000 in
theorem take_page (A : Option Addr) (n c : Nat) (l : List UInt8) (w : World) (hn : n ≤ 12356) (hb : Bytes w A n c l) (hA : ∀ a : Addr, A = some a → a.block < w.heap.size) (W H : Nat) (pix : List UInt8) (sf : S) (ht : takeB l = (W, H, pix, sf)) :
    Calls Try.prog 15 #[.slice A n c] w fun en w' => (sf.2 = 0 ∧ ∃ v, en = .returned (.tuple #[.agg #[.int .i64 (W : Int), .int .i64 (H : Int), v], .int .i64 0]) ∧ OwnB w' w.heap.size v pix ∧ Below w.heap.size w w') ∨
      (sf.2 ≠ 0 ∧ en = .returned (.tuple #[.agg #[.int .i64 0, .int .i64 0, .slice none 0 0], .int .i64 sf.2]) ∧ Below w.heap.size w w') := by
  obtain ⟨x1, hx1⟩ : ∃ x, hd 1 ((l, 0) : S) = x := ⟨_, rfl⟩
  obtain ⟨q1, E1⟩ : ∃ s, wt (decide (x1 = 84)) (tkS 1 (l, 0)) = s := ⟨_, rfl⟩
  obtain ⟨x2, hx2⟩ : ∃ x, hd 1 q1 = x := ⟨_, rfl⟩
  obtain ⟨q2, E2⟩ : ∃ s, wt (decide (x2 = 89)) (tkS 1 q1) = s := ⟨_, rfl⟩
  obtain ⟨W', hW⟩ : ∃ x, hd 1 q2 = x := ⟨_, rfl⟩
  obtain ⟨q3, E3⟩ : ∃ s, szS q2 = s := ⟨_, rfl⟩
  obtain ⟨H', hH⟩ : ∃ x, hd 1 q3 = x := ⟨_, rfl⟩
  obtain ⟨q4, E4⟩ : ∃ s, szS q3 = s := ⟨_, rfl⟩
  obtain ⟨tot, htot⟩ : ∃ t, rowsL W' H' [] q4 = t := ⟨_, rfl⟩
  have hT : takeB l = (W', H', tot.1, wt (decide (tot.2.1.length = 0)) tot.2) := by
    unfold takeB headS
    simp only [hx1, E1, hx2, E2, hW, E3, hH, E4, htot]
  rw [ht] at hT
  simp only [Prod.mk.injEq] at hT
  obtain ⟨rfl, rfl, hpix, hsf⟩ := hT
  have hW255 : W ≤ 255 := by rw [← hW]; exact hd_lt _
  have hH255 : H ≤ 255 := by rw [← hH]; exact hd_lt _
  have hWH : q4.2 = 0 → (1 ≤ W ∧ W ≤ 64) ∧ (1 ≤ H ∧ H ≤ 64) := fun h => by
    rw [← E4] at h
    have a := szS_ok h
    have b : (szS q2).2 = 0 := by rw [E3]; exact a.2.2
    have b := szS_ok b
    rw [hH] at a
    rw [hW] at b
    omega
  have hxi1 : (((tkV 1 ((l, 0) : S)).getD 0 0).toNat : Int) = (x1 : Int) := by rw [← hx1]; rfl
  have hxi2 : (((tkV 1 q1).getD 0 0).toNat : Int) = (x2 : Int) := by rw [← hx2]; rfl
  have hx1b : x1 ≤ 255 := by rw [← hx1]; exact hd_lt _
  have hx2b : x2 ≤ 255 := by rw [← hx2]; exact hd_lt _
  replace E1 : wt (decide ((x1 : Int) = 84)) (tkS 1 (l, 0)) = q1 := by rw [← E1]; congr 1; simp; omega
  replace E2 : wt (decide ((x2 : Int) = 89)) (tkS 1 q1) = q2 := by rw [← E2]; congr 1; simp; omega
  have HTOT := Lib.hid htot
  have HPIX := Lib.hid hpix
  have HSF := Lib.hid hsf
  have HWH := Lib.hid hWH
  clear ht hx1 hx2 htot hpix hsf hWH
  have Kr := (Blk.new w 24 #[.int .i64 0, .int .i64 0, .slice none 0 0]).alloc (.cells #[.slice A n c, .int .i64 0] 66)
  have Kg := Blk.new (w.alloc (.cells #[.int .i64 0, .int .i64 0, .slice none 0 0] 24)) 66 #[.slice A n c, .int .i64 0]
  have e1 : ∀ (u : World) (o : Obj), (u.alloc o).heap.size = u.heap.size + 1 := fun u o => by simp
  simp only [e1] at Kg
  clear e1
  have HBA := Lib.hid (show Below w.heap.size w ((w.alloc (.cells #[.int .i64 0, .int .i64 0, .slice none 0 0] 24)).alloc (.cells #[.slice A n c, .int .i64 0] 66)) by (repeat' (first | exact Below.refl _ _ | exact Below.refl _ _ | refine balloc ?_ _ | refine Below.drew ?_ | refine below_drewN ?_ _ | refine bset ?_ (by first | omega | (simp <;> omega)) _)))
  have HS0 := Lib.hid (show St w.heap.size ((w.alloc (.cells #[.int .i64 0, .int .i64 0, .slice none 0 0] 24)).alloc (.cells #[.slice A n c, .int .i64 0] 66)) (w.heap.size + 1) (l, 0) from ⟨A, n, c, Kg, hb.below HBA.out, by omega, hA⟩)
  have HKR := Lib.hid Kr
  clear Kr Kg hb hA
  obtain ⟨i0, hi, hz0, hz1, hz2⟩ := info_parts (show (Try.prog.info? 5).map (fun i => (i.zero, i.size, i.bytes)) = some (some (.int .u8 0), 1, 1) by kernel_rfl)
  go_enter Try.func15, Try.ntmps15
  go_wp2_with (first | (go_at_call 34; refine (take_any (w.heap.size + 1) 1 (l, 0) _ HS0.out (by omega)).mono ?_; rintro e w1 ⟨A1, c1, rfl, hb1, hs1, hg1, _⟩; obtain ⟨b1, o1, rfl, hlt1, hc1⟩ := hb1.at_ (by omega); have c0 := hc1 0 (by omega); simp only [Nat.add_zero] at c0; rw [hxi1] at c0; have HS1 := Lib.hid hs1; have HG1 := Lib.hid hg1; clear hb1 hs1 hg1 hc1 HS0) | (go_at_call 33; refine (want_any (w.heap.size + 1) (decide ((x1 : Int) = 84)) _ _ HS1.out).mono ?_; rintro e w2 ⟨rfl, hs2, hg2⟩; rw [E1] at hs2; have HS2 := Lib.hid hs2; have HG2 := Lib.hid hg2; clear hs2 hg2 HS1) | (go_at_call 34; refine (take_any (w.heap.size + 1) 1 q1 _ HS2.out (by omega)).mono ?_; rintro e w3 ⟨A3, c3, rfl, hb3, hs3, hg3, _⟩; obtain ⟨b3, o3, rfl, hlt3, hc3⟩ := hb3.at_ (by omega); have c0 := hc3 0 (by omega); simp only [Nat.add_zero] at c0; rw [hxi2] at c0; have HS3 := Lib.hid hs3; have HG3 := Lib.hid hg3; clear hb3 hs3 hg3 hc3 HS2) | (go_at_call 33; refine (want_any (w.heap.size + 1) (decide ((x2 : Int) = 89)) _ _ HS3.out).mono ?_; rintro e w4 ⟨rfl, hs4, hg4⟩; rw [E2] at hs4; have HS4 := Lib.hid hs4; have HG4 := Lib.hid hg4; clear hs4 hg4 HS3) | (go_at_call 35; refine (size_any (w.heap.size + 1) q2 _ HS4.out).mono ?_; rintro e w5 ⟨rfl, hs5, hg5⟩; rw [E3] at hs5; rw [hW]; have HS5 := Lib.hid hs5; have HG5 := Lib.hid hg5; clear hs5 hg5 HS4) | (go_at_call 35; refine (size_any (w.heap.size + 1) q3 _ (HS5.out.below (balloc (Below.refl _ _) _))).mono ?_; rintro e w6 ⟨rfl, hs6, hg6⟩; rw [E4] at hs6; rw [hH]; have hgp := HS5.out.lt; have Kp := (Blk.new w5 24 #[.int .i64 (W : Int), .int .i64 0, .slice none 0 0]).grown hg6 (by simp; omega); have z1 := Kp.cell 1; have y1 := Kp.frozen 1; simp only [List.getElem?_toArray, List.getElem?_cons_succ, List.getElem?_cons_zero] at z1; have HKP := Lib.hid Kp; have HS6 := Lib.hid hs6; have HG6 := Lib.hid hg6; clear hs6 hg6 Kp HS5))
  have HGA := Lib.hid ((((HG1.out.trans HG2.out).trans HG3.out).trans HG4.out).trans HG5.out)
  have hB5 : Below w.heap.size w w5 := Below.grown HBA.out HGA.out HBA.out.size (fun k e => by cases e; exact Nat.le_succ _)
  have HB6 := Lib.hid (show Below w.heap.size w w6 from Below.grown (hB5.alloc hB5.size _) HG6.out (by simp; omega) (fun k e => by cases e; exact Nat.le_succ _))
  clear hB5
  generalize w5.heap.size = p at *
  have hgp2 : w.heap.size + 1 < p := hgp
  have HKR6 := Lib.hid (((HKR.out.grown HGA.out (by simp)).alloc _).grown HG6.out (by simp))
  have hsz6 : p < w6.heap.size := HKP.out.lt
  clear HG1 HG2 HG3 HG4 HG5 HG6 HGA HBA c0 hgp
  go_loopw [6] (fun jv wr => ∃ (j : Nat) (px : List UInt8) (s : S) (pv : Value), j ≤ H ∧ jv = .int .i64 (j : Int) ∧ Hid (TakeAt w p W H tot j px s pv wr)) (fun jv _ => 255 - (intOf jv).toNat)
  case atStart => exact ⟨0, [], q4, .slice none 0 0, Nat.zero_le _, rfl, Lib.hid ⟨HTOT.out, HKP.out.set_ 1 (.int .i64 (H : Int)), OwnB.none_ _ _, st_far HS6.out (by omega) (by omega) _, HKR6.out.far (by show w.heap.size ≠ p; omega) _, by (repeat' (first | refine bset ?_ (by first | omega | (simp <;> omega)) _ | refine balloc ?_ _ | refine Below.drew ?_ | refine below_drewN ?_ _ | exact HB6.out | exact Below.refl _ _)), Nat.zero_le _, HWH.out⟩⟩
  case round =>
    obtain ⟨j, px, s, u_pv, hj, rfl, hR⟩ := hrel
    obtain ⟨wo, rfl⟩ : ∃ wo, wo = wr := ⟨_, rfl⟩
    clear HKP HS6 HKR6 HB6 HKR z1 y1 hsz6
    obtain ⟨hT, hKp, hO, hSt, hKr, hBB, hpl, hwh⟩ := hR.out
    obtain ⟨Ap, cp, rfl, _, _⟩ := hO.bytes
    obtain ⟨A6, n6, c6, hbx, _, _⟩ := id hSt
    have k1 := hbx.cell 1
    have p0 := hKp.cell 0
    have p1 := hKp.cell 1
    have p2 := hKp.cell 2
    simp only [List.getElem?_toArray, List.getElem?_cons_succ, List.getElem?_cons_zero] at k1 p0 p1 p2
    obtain ⟨ec, hec⟩ : ∃ e, s.2 = e := ⟨_, rfl⟩
    rw [hec] at k1
    have hpsz := hKp.lt
    have HT := Lib.hid hT
    have HKP := Lib.hid hKp
    have HO := Lib.hid hO
    have HST := Lib.hid hSt
    have HKR := Lib.hid hKr
    have HBB := Lib.hid hBB
    have HEC := Lib.hid hec
    have HWHs := Lib.hid hwh
    clear hT hKp hO hSt hKr hBB hbx hec hR hwh
    by_cases hjH : j = H
    · have hjd : ¬ j < H := by omega
      have HJ := Lib.hid hjH
      clear hjH
      obtain ⟨A6, n6, c6, hbx6, hby6, _⟩ := id HST.out
      have k0 := hbx6.cell 0
      simp only [List.getElem?_toArray, List.getElem?_cons_succ, List.getElem?_cons_zero] at k0
      have hl6 : s.1.length = n6 := hby6.1
      clear hbx6 hby6
      have hTT : tot = (px, s) := by rw [← HT.out]; rw [HJ.out, Nat.sub_self]; rfl
      have hpx : pix = px := by rw [HPIX.out, hTT]
      have hsf : wt (decide ((n6 : Int) = 0)) s = sf := by
        rw [HSF.out, hTT, hl6]
        congr 1; simp
      clear hTT
      obtain ⟨ef, hef⟩ : ∃ e, sf.2 = e := ⟨_, rfl⟩
      by_cases hef0 : ef = 0
      · subst hef0
        go_wp2_with (go_at_call 33; refine (want_any (w.heap.size + 1) (decide ((n6 : Int) = 0)) s _ HST.out).mono ?_; rintro e w9 ⟨rfl, hs9, hg9⟩; rw [hsf] at hs9; obtain ⟨A7, n7, c7, hbx7, _, _⟩ := id hs9; have q1 := hbx7.cell 1; simp only [List.getElem?_toArray, List.getElem?_cons_succ, List.getElem?_cons_zero] at q1; rw [hef] at q1; have Kp9 := HKP.out.grown hg9 (by simp; omega); have r0 := Kp9.cell 0; have r1 := Kp9.cell 1; have r2 := Kp9.cell 2; simp only [List.getElem?_toArray, List.getElem?_cons_succ, List.getElem?_cons_zero] at r0 r1 r2; have HK9 := Lib.hid (HKR.out.grown hg9 (by simp)); have HB9 := Lib.hid (HBB.out.grown hg9 HBB.out.size (fun k e => by cases e; omega)); have HO9 := Lib.hid (HO.out.grown hg9 (by omega)); have hK9 := HK9.out; have y0 := hK9.frozen 0; have y1 := hK9.frozen 1; have y2 := hK9.frozen 2; have x0 := hK9.cell 0; have x1 := hK9.cell 1; have x2 := hK9.cell 2; simp only [List.getElem?_toArray, List.getElem?_cons_succ, List.getElem?_cons_zero] at x0 x1 x2; clear hbx7 hs9 hg9 Kp9 hK9)
        refine ret_struct2 (g := w.heap.size) (t := 24) (cs := #[.int .i64 (W : Int), .int .i64 (H : Int), .slice Ap px.length cp]) rfl rfl ?_ Try.underlying24 rfl rfl rfl ?_
        · exact ((HK9.out.set_ 0 (.int .i64 (W : Int))).set_ 1 (.int .i64 (H : Int))).set_ 2 (.slice Ap px.length cp)
        · exact .inl ⟨hef, _, rfl, by rw [hpx]; exact ((own_far3 HO9.out (by omega) _ _ _).mono (by omega)), by (repeat' (first | refine bset ?_ (by first | omega | (simp <;> omega)) _ | refine balloc ?_ _ | refine Below.drew ?_ | refine below_drewN ?_ _ | exact HB9.out | exact Below.refl _ _))⟩
      · go_wp2_with (go_at_call 33; refine (want_any (w.heap.size + 1) (decide ((n6 : Int) = 0)) s _ HST.out).mono ?_; rintro e w9 ⟨rfl, hs9, hg9⟩; rw [hsf] at hs9; obtain ⟨A7, n7, c7, hbx7, _, _⟩ := id hs9; have q1 := hbx7.cell 1; simp only [List.getElem?_toArray, List.getElem?_cons_succ, List.getElem?_cons_zero] at q1; rw [hef] at q1; have HK9 := Lib.hid (HKR.out.grown hg9 (by simp)); have HB9 := Lib.hid (HBB.out.grown hg9 HBB.out.size (fun k e => by cases e; omega)); have hK9 := HK9.out; have y0 := hK9.frozen 0; have y1 := hK9.frozen 1; have y2 := hK9.frozen 2; have x0 := hK9.cell 0; have x1 := hK9.cell 1; have x2 := hK9.cell 2; simp only [List.getElem?_toArray, List.getElem?_cons_succ, List.getElem?_cons_zero] at x0 x1 x2; clear hbx7 hs9 hg9 hK9)
        go_region
        go_wp2_with fail
        refine ret_struct2 (g := w.heap.size) (t := 24) (cs := #[.int .i64 0, .int .i64 0, .slice none 0 0]) rfl rfl ?_ Try.underlying24 rfl rfl rfl ?_
        · exact ((HK9.out.set_ 0 (.int .i64 0)).set_ 1 (.int .i64 0)).set_ 2 (.slice none 0 0)
        · exact .inr ⟨by rw [hef]; exact hef0, by rw [hef]; rfl, by (repeat' (first | refine bset ?_ (by first | omega | (simp <;> omega)) _ | refine balloc ?_ _ | refine Below.drew ?_ | refine below_drewN ?_ _ | exact HB9.out | exact Below.refl _ _))⟩
    · have hjl : j < H := by omega
      by_cases he0 : ec = 0
      · subst he0
        obtain ⟨⟨hWb1, hWb2⟩, hHb1, hHb2⟩ := HWHs.out HEC.out
        obtain ⟨k, hk⟩ : ∃ k, H - j = k + 1 := ⟨H - j - 1, by omega⟩
        have HT2 := Lib.hid (show rowsL W k (px ++ (rowL W s).1) (rowL W s).2 = tot by have h := HT.out; rw [hk, rowsL, if_pos HEC.out] at h; exact h)
        obtain ⟨rw8, hrw⟩ : ∃ x, (rowL W s).1 = x := ⟨_, rfl⟩
        obtain ⟨s8, hs8e⟩ : ∃ x, (rowL W s).2 = x := ⟨_, rfl⟩
        have hrl : rw8.length ≤ 192 := by rw [← hrw]; have := rowL_len W s; omega
        have HRW := Lib.hid (And.intro hrw hs8e)
        obtain ⟨l9, hl9⟩ : ∃ x, px ++ rw8 = x := ⟨_, rfl⟩
        have HL9 := Lib.hid hl9
        have HK := Lib.hid hk
        have hszw : w.heap.size ≤ wo.heap.size := HBB.out.size
        have hpx : px.length ≤ 64 * 192 := by have : j * 192 ≤ 64 * 192 := Nat.mul_le_mul_right _ (by omega); omega
        have HSTD := Lib.hid (show St w.heap.size wo.drew (w.heap.size + 1) s from HST.out)
        have HKPD := Lib.hid (show Blk wo.drew p 24 _ from HKP.out)
        have HOD := Lib.hid (show OwnB wo.drew (p + 1) (.slice Ap px.length cp) px from HO.out)
        have HKRD := Lib.hid (show Blk wo.drew w.heap.size 24 _ from HKR.out)
        have HBBD := Lib.hid (show Below w.heap.size w wo.drew from Below.drew HBB.out)
        go_wp2_with fail
        clear hrw hs8e hk hl9
        go_region_law (first
          | (go_simp; go_at_call 36; refine (row_any (w.heap.size + 1) W s _ HSTD.out (by first | exact hszw | (simp; exact hszw)) ⟨hWb1, hWb2⟩).mono ?_; rintro e w8 ⟨v8, rfl, hv8, hs8, hg8⟩; rw [HRW.out.1] at hv8; rw [HRW.out.2] at hs8; obtain ⟨A8, c8, rfl, hb8⟩ := hv8; have Kp8 := HKPD.out.grown hg8 (by simp; omega); have r0 := Kp8.cell 0; have r2 := Kp8.cell 2; simp only [List.getElem?_toArray, List.getElem?_cons_succ, List.getElem?_cons_zero] at r0 r2; have HKP8 := Lib.hid Kp8; have HO8 := Lib.hid (HOD.out.grown hg8 (by omega)); have HB8 := Lib.hid hb8; have HS8 := Lib.hid hs8; have HKR8 := Lib.hid (HKRD.out.grown hg8 (by simp)); have HBB8 := Lib.hid (Below.grown HBBD.out hg8 HBBD.out.size (fun k e => by cases e; exact Nat.le_succ _)); have hsz8 := Kp8.lt; clear hb8 hs8 hg8 Kp8)
          | (go_loud (refine step_append_any _ rfl (.tmp 48) (.tmp 52) 22 rfl (p + 1) 5 i0 (.int .u8 0) 1 1 Try.underlying22 hi hz0 hz1 hz2 rfl (by omega) (.slice Ap px.length cp) px.length (vals px) (by rfl) HO8.out _ A8 rw8.length c8 (vals rw8) (by rfl) (lf.Bytes.reads HB8.out) (vals_one _) (by simp [maxLen]; omega) (by omega) (by omega) ?_; intro v9 w9 hown9 hg9 _; have hO9 := OwnB.push (l := px) (x := rw8) hown9 rfl; rw [HL9.out] at hO9; obtain ⟨A9, c9, rfl, _, _⟩ := hO9.bytes; have Kp9 := HKP8.out.grown hg9 (fun e => by have := (HO8.out.ge _ e.symm).1; omega); have r2b := Kp9.cell 2; have y2 := Kp9.frozen 2; simp only [List.getElem?_toArray, List.getElem?_cons_succ, List.getElem?_cons_zero] at r2b; have HKP9 := Lib.hid Kp9; have HO9 := Lib.hid hO9; have HS9 := Lib.hid (HS8.out.row hg9 (fun j e => (HO8.out.ge j e).1) (by omega) (by omega)); have HKR9 := Lib.hid (HKR8.out.grown hg9 (fun e => by have := (HO8.out.ge _ e.symm).1; omega)); have HBB9 := Lib.hid (Below.grown HBB8.out hg9 HBB8.out.size (fun k e => by have := (HO8.out.ge k e).1; omega)); clear hown9 hg9 hO9 Kp9)))
        all_goals
          go_wp2_with fail
          go_roundw
          case rel =>
            exact ⟨j + 1, l9, s8, .slice A9 l9.length c9, by omega, by go_num, Lib.hid ⟨by rw [show H - (j + 1) = k by have := HK.out; omega, ← HL9.out, ← HRW.out.1, ← HRW.out.2]; exact HT2.out, HKP9.out.set_ 2 (.slice A9 l9.length c9), own_far HO9.out (p := ⟨p, 2, none⟩) (by show p < p + 1; omega) _, st_far HS9.out (by omega) (by omega) _, HKR9.out.far (by show w.heap.size ≠ p; omega) _, by (repeat' (first | refine bset ?_ (by first | omega | (simp <;> omega)) _ | refine balloc ?_ _ | refine Below.drew ?_ | refine below_drewN ?_ _ | exact HBB9.out | exact Below.refl _ _)), by rw [← HL9.out, List.length_append]; omega, fun _ => ⟨⟨hWb1, hWb2⟩, hHb1, hHb2⟩⟩⟩
          case measure => simp [intOf]; omega
      · obtain ⟨k, hk⟩ : ∃ k, H - j = k + 1 := ⟨H - j - 1, by omega⟩
        obtain ⟨A6, n6, c6, hbx6, hby6, _⟩ := id HST.out
        have k0 := hbx6.cell 0
        simp only [List.getElem?_toArray, List.getElem?_cons_succ, List.getElem?_cons_zero] at k0
        have hl6 : s.1.length = n6 := hby6.1
        clear hbx6 hby6
        have hTT : tot = (px, s) := by rw [← HT.out]; rw [hk, rowsL, if_neg (by rw [HEC.out]; exact he0)]
        have hpx : pix = px := by rw [HPIX.out, hTT]
        have hsf : wt (decide ((n6 : Int) = 0)) s = sf := by
          rw [HSF.out, hTT, hl6]
          congr 1; simp
        clear hTT
        obtain ⟨ef, hef⟩ : ∃ e, sf.2 = e := ⟨_, rfl⟩
        by_cases hef0 : ef = 0
        · subst hef0
          go_wp2_with (go_at_call 33; refine (want_any (w.heap.size + 1) (decide ((n6 : Int) = 0)) s _ HST.out).mono ?_; rintro e w9 ⟨rfl, hs9, hg9⟩; rw [hsf] at hs9; obtain ⟨A7, n7, c7, hbx7, _, _⟩ := id hs9; have q1 := hbx7.cell 1; simp only [List.getElem?_toArray, List.getElem?_cons_succ, List.getElem?_cons_zero] at q1; rw [hef] at q1; have Kp9 := HKP.out.grown hg9 (by simp; omega); have r0 := Kp9.cell 0; have r1 := Kp9.cell 1; have r2 := Kp9.cell 2; simp only [List.getElem?_toArray, List.getElem?_cons_succ, List.getElem?_cons_zero] at r0 r1 r2; have HK9 := Lib.hid (HKR.out.grown hg9 (by simp)); have HB9 := Lib.hid (HBB.out.grown hg9 HBB.out.size (fun k e => by cases e; omega)); have HO9 := Lib.hid (HO.out.grown hg9 (by omega)); have hK9 := HK9.out; have y0 := hK9.frozen 0; have y1 := hK9.frozen 1; have y2 := hK9.frozen 2; have x0 := hK9.cell 0; have x1 := hK9.cell 1; have x2 := hK9.cell 2; simp only [List.getElem?_toArray, List.getElem?_cons_succ, List.getElem?_cons_zero] at x0 x1 x2; clear hbx7 hs9 hg9 Kp9 hK9)
          refine ret_struct2 (g := w.heap.size) (t := 24) (cs := #[.int .i64 (W : Int), .int .i64 (H : Int), .slice Ap px.length cp]) rfl rfl ?_ Try.underlying24 rfl rfl rfl ?_
          · exact ((HK9.out.set_ 0 (.int .i64 (W : Int))).set_ 1 (.int .i64 (H : Int))).set_ 2 (.slice Ap px.length cp)
          · exact .inl ⟨hef, _, rfl, by rw [hpx]; exact ((own_far3 HO9.out (by omega) _ _ _).mono (by omega)), by (repeat' (first | refine bset ?_ (by first | omega | (simp <;> omega)) _ | refine balloc ?_ _ | refine Below.drew ?_ | refine below_drewN ?_ _ | exact HB9.out | exact Below.refl _ _))⟩
        · go_wp2_with (go_at_call 33; refine (want_any (w.heap.size + 1) (decide ((n6 : Int) = 0)) s _ HST.out).mono ?_; rintro e w9 ⟨rfl, hs9, hg9⟩; rw [hsf] at hs9; obtain ⟨A7, n7, c7, hbx7, _, _⟩ := id hs9; have q1 := hbx7.cell 1; simp only [List.getElem?_toArray, List.getElem?_cons_succ, List.getElem?_cons_zero] at q1; rw [hef] at q1; have HK9 := Lib.hid (HKR.out.grown hg9 (by simp)); have HB9 := Lib.hid (HBB.out.grown hg9 HBB.out.size (fun k e => by cases e; omega)); have hK9 := HK9.out; have y0 := hK9.frozen 0; have y1 := hK9.frozen 1; have y2 := hK9.frozen 2; have x0 := hK9.cell 0; have x1 := hK9.cell 1; have x2 := hK9.cell 2; simp only [List.getElem?_toArray, List.getElem?_cons_succ, List.getElem?_cons_zero] at x0 x1 x2; clear hbx7 hs9 hg9 hK9)
          go_region
          go_wp2_with fail
          refine ret_struct2 (g := w.heap.size) (t := 24) (cs := #[.int .i64 0, .int .i64 0, .slice none 0 0]) rfl rfl ?_ Try.underlying24 rfl rfl rfl ?_
          · exact ((HK9.out.set_ 0 (.int .i64 0)).set_ 1 (.int .i64 0)).set_ 2 (.slice none 0 0)
          · exact .inr ⟨by rw [hef]; exact hef0, by rw [hef]; rfl, by (repeat' (first | refine bset ?_ (by first | omega | (simp <;> omega)) _ | refine balloc ?_ _ | refine Below.drew ?_ | refine below_drewN ?_ _ | exact HB9.out | exact Below.refl _ _))⟩
end Go.Proofs.Ytfmkdccpgkbnoaa.lf
