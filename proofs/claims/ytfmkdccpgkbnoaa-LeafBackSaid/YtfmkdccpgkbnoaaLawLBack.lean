/-
  LeafBack: what is put is taken; what is taken is put byte for byte.
-/
import Derived.Test.YtfmkdccpgkbnoaaLeafN
namespace Go.Proofs.Ytfmkdccpgkbnoaa.lf
set_option linter.unusedVariables false
set_option linter.unusedSimpArgs false
open Go.RowKit bs rg op
set_option maxRecDepth 100000 in
set_option maxHeartbeats 6400000 in
theorem back_big1 (pW pH : Int) (pA : Option Addr) (np cp : Nat) (lp : List UInt8) (bA : Option Addr) (nb cb : Nat) (lb : List UInt8) (A1 : Option Addr) (n1 c1 : Nat) (ns1 : Nat → Int) (x y : Int) (w : World) (hpW : -9223372036854775808 ≤ pW ∧ pW ≤ 9223372036854775807) (hpH : -9223372036854775808 ≤ pH ∧ pH ≤ 9223372036854775807) (hrp : Bytes w pA np cp lp) (hnp : np ≤ 9223372036854775807) (hrb : Bytes w bA nb cb lb) (hnb : nb ≤ 9223372036854775807) (hr1 : Ints w A1 n1 c1 ns1) (hn1 : n1 ≤ 9223372036854775807) (_hx : -9223372036854775808 ≤ x ∧ x ≤ 9223372036854775807) (_hy : -9223372036854775808 ≤ y ∧ y ≤ 9223372036854775807) (h1 : 15000 < np) :
    Calls Try.prog 7 #[.agg #[.int .i64 pW, .int .i64 pH, .slice pA np cp], .slice bA nb cb, .slice A1 n1 c1, .int .i64 x, .int .i64 y] w fun ed w' => ed = .returned (.bool true) ∧ Below w.heap.size w w' := by
  have d1 : decide ((15000 : Int) < (np : Int)) = true := by simp; omega
  clear hpW hpH hrp hnp hrb hnb hr1 hn1 _hx _hy
  go_enter Try.func7, Try.ntmps7
  go_wp2_with fail
  have hst0 : Below w.heap.size w (w.alloc (.cells #[.int .i64 pW, .int .i64 pH, .slice pA np cp] 24)) := by (repeat' (first | exact Below.refl _ _ | exact Below.refl _ _ | refine balloc ?_ _ | refine Below.drew ?_ | refine below_drewN ?_ _ | refine bset ?_ (by first | omega | (simp <;> omega)) _))
  refine (lknown_any _).mono ?_
  rintro e_ w1 ⟨rfl, hb⟩
  have hst : Below w.heap.size w w1 := btrans hst0 hb
  have Kp := (Blk.new w 24 #[.int .i64 pW, .int .i64 pH, .slice pA np cp])
  replace Kp := Kp.below hb Kp.lt
  have hbw : Below w.heap.size w w1 := hst
  clear hst hst0 hb 
  have lKp := Kp.lt
  have cKp0 := Kp.cell 0
  have cKp1 := Kp.cell 1
  have cKp2 := Kp.cell 2
  simp only [List.getElem?_toArray, List.getElem?_cons_succ, List.getElem?_cons_zero] at cKp0 cKp1 cKp2
  go_wp2_with fail
  go_ret
  exact ⟨rfl, hbw⟩
set_option maxRecDepth 100000 in
set_option maxHeartbeats 6400000 in
theorem back_big2 (pW pH : Int) (pA : Option Addr) (np cp : Nat) (lp : List UInt8) (bA : Option Addr) (nb cb : Nat) (lb : List UInt8) (A1 : Option Addr) (n1 c1 : Nat) (ns1 : Nat → Int) (x y : Int) (w : World) (hpW : -9223372036854775808 ≤ pW ∧ pW ≤ 9223372036854775807) (hpH : -9223372036854775808 ≤ pH ∧ pH ≤ 9223372036854775807) (hrp : Bytes w pA np cp lp) (hnp : np ≤ 9223372036854775807) (hrb : Bytes w bA nb cb lb) (hnb : nb ≤ 9223372036854775807) (hr1 : Ints w A1 n1 c1 ns1) (hn1 : n1 ≤ 9223372036854775807) (_hx : -9223372036854775808 ≤ x ∧ x ≤ 9223372036854775807) (_hy : -9223372036854775808 ≤ y ∧ y ≤ 9223372036854775807) (h1 : np ≤ 15000) (h2 : 15000 < nb) :
    Calls Try.prog 7 #[.agg #[.int .i64 pW, .int .i64 pH, .slice pA np cp], .slice bA nb cb, .slice A1 n1 c1, .int .i64 x, .int .i64 y] w fun ed w' => ed = .returned (.bool true) ∧ Below w.heap.size w w' := by
  have d1 : decide ((15000 : Int) < (np : Int)) = false := by simp; omega
  have d2 : decide ((15000 : Int) < (nb : Int)) = true := by simp; omega
  clear hpW hpH hrp hnp hrb hnb hr1 hn1 _hx _hy
  go_enter Try.func7, Try.ntmps7
  go_wp2_with fail
  have hst0 : Below w.heap.size w (w.alloc (.cells #[.int .i64 pW, .int .i64 pH, .slice pA np cp] 24)) := by (repeat' (first | exact Below.refl _ _ | exact Below.refl _ _ | refine balloc ?_ _ | refine Below.drew ?_ | refine below_drewN ?_ _ | refine bset ?_ (by first | omega | (simp <;> omega)) _))
  refine (lknown_any _).mono ?_
  rintro e_ w1 ⟨rfl, hb⟩
  have hst : Below w.heap.size w w1 := btrans hst0 hb
  have Kp := (Blk.new w 24 #[.int .i64 pW, .int .i64 pH, .slice pA np cp])
  replace Kp := Kp.below hb Kp.lt
  have hbw : Below w.heap.size w w1 := hst
  clear hst hst0 hb 
  have lKp := Kp.lt
  have cKp0 := Kp.cell 0
  have cKp1 := Kp.cell 1
  have cKp2 := Kp.cell 2
  simp only [List.getElem?_toArray, List.getElem?_cons_succ, List.getElem?_cons_zero] at cKp0 cKp1 cKp2
  go_wp2_with fail
  go_ret
  exact ⟨rfl, hbw⟩
set_option maxRecDepth 100000 in
set_option maxHeartbeats 6400000 in
theorem back_may_none (pW pH : Int) (pA : Option Addr) (np cp : Nat) (lp : List UInt8) (bA : Option Addr) (nb cb : Nat) (lb : List UInt8) (A1 : Option Addr) (n1 c1 : Nat) (ns1 : Nat → Int) (x y : Int) (w : World) (hpW : -9223372036854775808 ≤ pW ∧ pW ≤ 9223372036854775807) (hpH : -9223372036854775808 ≤ pH ∧ pH ≤ 9223372036854775807) (hrp : Bytes w pA np cp lp) (hnp : np ≤ 9223372036854775807) (hrb : Bytes w bA nb cb lb) (hnb : nb ≤ 9223372036854775807) (hr1 : Ints w A1 n1 c1 ns1) (hn1 : n1 ≤ 9223372036854775807) (_hx : -9223372036854775808 ≤ x ∧ x ≤ 9223372036854775807) (_hy : -9223372036854775808 ≤ y ∧ y ≤ 9223372036854775807) (h1 : np ≤ 15000) (h2 : nb ≤ 15000) (hm : ik.mayB pW pH np = true) (er : Int) (he : er ≠ 0) (hte : (12356 < nb ∧ er = 5) ∨ (nb ≤ 12356 ∧ er ≠ 0 ∧ (takeB lb).2.2.2.2 = er)) :
    Calls Try.prog 7 #[.agg #[.int .i64 pW, .int .i64 pH, .slice pA np cp], .slice bA nb cb, .slice A1 n1 c1, .int .i64 x, .int .i64 y] w fun ed w' => ed = .returned (.bool true) ∧ Below w.heap.size w w' := by
  obtain ⟨V, G, rfl, rfl, hV, hG, hnv⟩ := mayB_inv hm
  have hnv0 : 0 < np := by rw [hnv]; exact (page_size hV hG).1
  have HPP := Lib.hid (fun W' hb => lput_any V G np cp pA lp W' hV hG hnv hb)
  have HTP := Lib.hid (fun A m c W' (hm : m ≤ 12356) (hl : lp.length = np) hb => ltake_ok A m c (putL V G lp) W' hm hb V G lp np (takeB_put hV hG lp (by rw [hl, hnv, three_mul])) hl)
  have HTN := Lib.hid (fun A c W' hb => ltake_none A nb c lb W' hb er hte)
  have he0 : (er == 0) = false := by simpa using he
  clear he hte
  have d1 : decide ((15000 : Int) < (np : Int)) = false := by simp; omega
  have d2 : decide ((15000 : Int) < (nb : Int)) = false := by simp; omega
  obtain ⟨W, hW, hW2, hxW, hx0, hx1⟩ := side_fix x 20 (by decide) (by decide)
  obtain ⟨H, hH, hH2, hyH, hy0, hy1⟩ := side_fix y 20 (by decide) (by decide)
  have hPX := fun W => place_any x 20 W (by decide) (by decide)
  have hPY := fun W => place_any y 20 W (by decide) (by decide)
  obtain ⟨zx, hzx⟩ : ∃ z, x % 20 = z := ⟨_, rfl⟩
  obtain ⟨zy, hzy⟩ : ∃ z, y % 20 = z := ⟨_, rfl⟩
  rw [hzx] at hPX hxW hx0 hx1
  rw [hzy] at hPY hyH hy0 hy1
  have HXW := Lib.hid hxW
  have HYH := Lib.hid hyH
  have HPX := Lib.hid hPX
  have HPY := Lib.hid hPY
  obtain ⟨N, hN⟩ : ∃ N, N = 3 * (W * H) := ⟨_, rfl⟩
  have hN12 : N ≤ 12288 := by rw [hN]; exact (page_size hW hH).2
  have HPG := Lib.hid (fun W' h => lpage_any A1 n1 c1 ns1 W H N W' h hn1 hW hH hN)
  have HPS := Lib.hid (fun A c l W' hb => lput_any W H N c A l W' hW hH hN hb)
  have HTS := Lib.hid (fun A m c l W' (hm : m ≤ 12356) (hl : l.length = N) hb => ltake_ok A m c (putL W H l) W' hm hb W H l N (takeB_put hW hH l (by rw [hl, hN, three_mul])) hl)
  have HMY := Lib.hid (fun W' => ik.may_any (V : Int) (G : Int) pA np cp W' hnp)
  have HI1 := Lib.hid hr1
  have HBp := Lib.hid hrp
  have HBb := Lib.hid hrb
  have HN := Lib.hid hN
  have HX0 := Lib.hid (And.intro hx0 hx1)
  have HY0 := Lib.hid (And.intro hy0 hy1)
  have H15 := Lib.hid (And.intro h1 h2)
  clear hxW hyH hPX hPY hzx hzy hN hr1 hn1 _hx _hy hW2 hH2 hpW hpH hrp hnp hrb hnb hx0 hx1 hy0 hy1
  rw [hm] at HMY
  clear hm hnv hV hG h1 h2
  go_enter Try.func7, Try.ntmps7
  go_wp2_with fail
  have hst0 : Below w.heap.size w (w.alloc (.cells #[.int .i64 (V : Int), .int .i64 (G : Int), .slice pA np cp] 24)) := by (repeat' (first | exact Below.refl _ _ | exact Below.refl _ _ | refine balloc ?_ _ | refine Below.drew ?_ | refine below_drewN ?_ _ | refine bset ?_ (by first | omega | (simp <;> omega)) _))
  refine (lknown_any _).mono ?_
  rintro e_ w1 ⟨rfl, hb⟩
  have hst : Below w.heap.size w w1 := btrans hst0 hb
  have Kp := (Blk.new w 24 #[.int .i64 (V : Int), .int .i64 (G : Int), .slice pA np cp])
  replace Kp := Kp.below hb Kp.lt
  have hbw : Below w.heap.size w w1 := hst
  replace HI1 := Lib.hid (HI1.out.below hst)
  replace HBp := Lib.hid (HBp.out.below hst)
  replace HBb := Lib.hid (HBb.out.below hst)
  clear hst hst0 hb 
  have lKp := Kp.lt
  have cKp0 := Kp.cell 0
  have cKp1 := Kp.cell 1
  have cKp2 := Kp.cell 2
  simp only [List.getElem?_toArray, List.getElem?_cons_succ, List.getElem?_cons_zero] at cKp0 cKp1 cKp2
  go_wp2_with fail
  have hst0 : Below w1.heap.size w1 w1 := by (repeat' (first | exact Below.refl _ _ | exact Below.refl _ _ | refine balloc ?_ _ | refine Below.drew ?_ | refine below_drewN ?_ _ | refine bset ?_ (by first | omega | (simp <;> omega)) _))
  refine (HPP.out _ (LB.of_pos (HBp.out.below hst0) hnv0)).mono ?_
  rintro e_ w2 ⟨Dx, mx, dx, rfl, hX, hmx, hb⟩
  have hst : Below w1.heap.size w1 w2 := btrans hst0 hb
  replace Kp := Kp.below hb Kp.lt
  replace hbw : Below w.heap.size w w2 := btrans hbw hst
  replace HI1 := Lib.hid (HI1.out.below hst)
  replace HBp := Lib.hid (HBp.out.below hst)
  replace HBb := Lib.hid (HBb.out.below hst)
  clear hst hst0 hb lKp cKp0 cKp1 cKp2
  have HhX := Lib.hid hX
  clear hX
  have lKp := Kp.lt
  have cKp0 := Kp.cell 0
  have cKp1 := Kp.cell 1
  have cKp2 := Kp.cell 2
  simp only [List.getElem?_toArray, List.getElem?_cons_succ, List.getElem?_cons_zero] at cKp0 cKp1 cKp2
  obtain ⟨hmx0, hmx1⟩ := hmx
  clear d1
  go_wp2_with (at_builtin; refine Held.of ?_)
  unfold Held
  have hst0 : Below w2.heap.size w2 w2 := by (repeat' (first | exact Below.refl _ _ | exact Below.refl _ _ | refine balloc ?_ _ | refine Below.drew ?_ | refine below_drewN ?_ _ | refine bset ?_ (by first | omega | (simp <;> omega)) _))
  have hLn := LB.len ((HhX.out.below hst0) : LB _ _ mx _ _)
  refine wpList_copy (.tmp 43) (.tmp 44) _ _ _ _ rfl rfl (by first | rfl | (rw [size_alloc]; rfl) | (rw [size_alloc, size_alloc]; rfl)) rfl ((HhX.out.below hst0)).1 (by omega) ?_
  intro vcx w3 hO hb
  have hst : Below w2.heap.size w2 w3 := btrans hst0 hb
  replace Kp := Kp.below hb Kp.lt
  replace hbw : Below w.heap.size w w3 := btrans hbw hst
  replace HI1 := Lib.hid (HI1.out.below hst)
  replace HBp := Lib.hid (HBp.out.below hst)
  replace HBb := Lib.hid (HBb.out.below hst)
  replace HhX := Lib.hid (HhX.out.below hst)
  clear hst hst0 hb lKp cKp0 cKp1 cKp2
  obtain ⟨Acx, ccx, rfl, hcx⟩ := hO.lbn hLn
  clear hO hLn
  have Hhcx := Lib.hid hcx
  clear hcx
  have lKp := Kp.lt
  have cKp0 := Kp.cell 0
  have cKp1 := Kp.cell 1
  have cKp2 := Kp.cell 2
  simp only [List.getElem?_toArray, List.getElem?_cons_succ, List.getElem?_cons_zero] at cKp0 cKp1 cKp2
  go_wp2_with fail
  have hst0 : Below w3.heap.size w3 w3 := by (repeat' (first | exact Below.refl _ _ | exact Below.refl _ _ | refine balloc ?_ _ | refine Below.drew ?_ | refine below_drewN ?_ _ | refine bset ?_ (by first | omega | (simp <;> omega)) _))
  refine (HTP.out _ _ _ _ hmx1 HBp.out.1 (Hhcx.out.below hst0)).mono ?_
  rintro e_ w4 ⟨Du, fu, rfl, hU, hb⟩
  have hst : Below w3.heap.size w3 w4 := btrans hst0 hb
  replace Kp := Kp.below hb Kp.lt
  replace hbw : Below w.heap.size w w4 := btrans hbw hst
  replace HI1 := Lib.hid (HI1.out.below hst)
  replace HBp := Lib.hid (HBp.out.below hst)
  replace HBb := Lib.hid (HBb.out.below hst)
  replace HhX := Lib.hid (HhX.out.below hst)
  replace Hhcx := Lib.hid (Hhcx.out.below hst)
  clear hst hst0 hb lKp cKp0 cKp1 cKp2
  have HhU := Lib.hid hU
  clear hU
  have lKp := Kp.lt
  have cKp0 := Kp.cell 0
  have cKp1 := Kp.cell 1
  have cKp2 := Kp.cell 2
  simp only [List.getElem?_toArray, List.getElem?_cons_succ, List.getElem?_cons_zero] at cKp0 cKp1 cKp2
  go_wp2_with fail
  have hst0 : Below w4.heap.size w4 (w4.alloc (.cells #[.int .i64 (V : Int), .int .i64 (G : Int), .slice Du np fu] 24)) := by (repeat' (first | exact Below.refl _ _ | exact Below.refl _ _ | refine balloc ?_ _ | refine Below.drew ?_ | refine below_drewN ?_ _ | refine bset ?_ (by first | omega | (simp <;> omega)) _))
  refine (lsame_eq _ _ _ _ _ _ _ _ _ _ _ (LB.of_pos (HBp.out.below hst0) hnv0) (HhU.out.below hst0)).mono ?_
  rintro e_ w5 ⟨rfl, hb⟩
  have hst : Below w4.heap.size w4 w5 := btrans hst0 hb
  replace Kp := (Kp.alloc (.cells #[.int .i64 (V : Int), .int .i64 (G : Int), .slice Du np fu] 24))
  have Ku := (Blk.new w4 24 #[.int .i64 (V : Int), .int .i64 (G : Int), .slice Du np fu])
  replace Kp := Kp.below hb Kp.lt
  replace Ku := Ku.below hb Ku.lt
  replace hbw : Below w.heap.size w w5 := btrans hbw hst
  replace HI1 := Lib.hid (HI1.out.below hst)
  replace HBp := Lib.hid (HBp.out.below hst)
  replace HBb := Lib.hid (HBb.out.below hst)
  replace HhX := Lib.hid (HhX.out.below hst)
  replace Hhcx := Lib.hid (Hhcx.out.below hst)
  replace HhU := Lib.hid (HhU.out.below hst)
  clear hst hst0 hb lKp cKp0 cKp1 cKp2
  have lKp := Kp.lt
  have cKp0 := Kp.cell 0
  have cKp1 := Kp.cell 1
  have cKp2 := Kp.cell 2
  have lKu := Ku.lt
  have cKu0 := Ku.cell 0
  have cKu1 := Ku.cell 1
  have cKu2 := Ku.cell 2
  simp only [List.getElem?_toArray, List.getElem?_cons_succ, List.getElem?_cons_zero] at cKp0 cKp1 cKp2 cKu0 cKu1 cKu2
  simp only [decide_true]
  have hb15 := H15.out.2
  go_wp2_with (at_builtin; refine Held.of ?_)
  unfold Held
  have hst0 : Below w5.heap.size w5 w5 := by (repeat' (first | exact Below.refl _ _ | exact Below.refl _ _ | refine balloc ?_ _ | refine Below.drew ?_ | refine below_drewN ?_ _ | refine bset ?_ (by first | omega | (simp <;> omega)) _))
  have hLn := ((HBb.out.below hst0)).1
  refine wpList_copy (.tmp 58) (.tmp 59) _ _ _ _ rfl rfl (by first | rfl | (rw [size_alloc]; rfl) | (rw [size_alloc, size_alloc]; rfl)) rfl ((HBb.out.below hst0)) (by omega) ?_
  intro vcb w6 hO hb
  have hst : Below w5.heap.size w5 w6 := btrans hst0 hb
  replace Kp := Kp.below hb Kp.lt
  replace Ku := Ku.below hb Ku.lt
  replace hbw : Below w.heap.size w w6 := btrans hbw hst
  replace HI1 := Lib.hid (HI1.out.below hst)
  replace HBp := Lib.hid (HBp.out.below hst)
  replace HBb := Lib.hid (HBb.out.below hst)
  replace HhX := Lib.hid (HhX.out.below hst)
  replace Hhcx := Lib.hid (Hhcx.out.below hst)
  replace HhU := Lib.hid (HhU.out.below hst)
  clear hst hst0 hb lKp cKp0 cKp1 cKp2 lKu cKu0 cKu1 cKu2
  obtain ⟨Acb, ccb, rfl, hcb⟩ := hO.lbn hLn
  clear hO hLn
  have Hhcb := Lib.hid hcb
  clear hcb
  have lKp := Kp.lt
  have cKp0 := Kp.cell 0
  have cKp1 := Kp.cell 1
  have cKp2 := Kp.cell 2
  have lKu := Ku.lt
  have cKu0 := Ku.cell 0
  have cKu1 := Ku.cell 1
  have cKu2 := Ku.cell 2
  simp only [List.getElem?_toArray, List.getElem?_cons_succ, List.getElem?_cons_zero] at cKp0 cKp1 cKp2 cKu0 cKu1 cKu2
  clear hb15
  go_wp2_with fail
  have hst0 : Below w6.heap.size w6 w6 := by (repeat' (first | exact Below.refl _ _ | exact Below.refl _ _ | refine balloc ?_ _ | refine Below.drew ?_ | refine below_drewN ?_ _ | refine bset ?_ (by first | omega | (simp <;> omega)) _))
  refine (HTN.out _ _ _ (Hhcb.out.below hst0)).mono ?_
  rintro e_ w7 ⟨rfl, hb⟩
  have hst : Below w6.heap.size w6 w7 := btrans hst0 hb
  replace Kp := Kp.below hb Kp.lt
  replace Ku := Ku.below hb Ku.lt
  replace hbw : Below w.heap.size w w7 := btrans hbw hst
  replace HI1 := Lib.hid (HI1.out.below hst)
  replace HBp := Lib.hid (HBp.out.below hst)
  replace HBb := Lib.hid (HBb.out.below hst)
  replace HhX := Lib.hid (HhX.out.below hst)
  replace Hhcx := Lib.hid (Hhcx.out.below hst)
  replace HhU := Lib.hid (HhU.out.below hst)
  replace Hhcb := Lib.hid (Hhcb.out.below hst)
  clear hst hst0 hb lKp cKp0 cKp1 cKp2 lKu cKu0 cKu1 cKu2
  have lKp := Kp.lt
  have cKp0 := Kp.cell 0
  have cKp1 := Kp.cell 1
  have cKp2 := Kp.cell 2
  have lKu := Ku.lt
  have cKu0 := Ku.cell 0
  have cKu1 := Ku.cell 1
  have cKu2 := Ku.cell 2
  simp only [List.getElem?_toArray, List.getElem?_cons_succ, List.getElem?_cons_zero] at cKp0 cKp1 cKp2 cKu0 cKu1 cKu2
  clear d2
  have hx0 := HX0.out.1
  have hx1 := HX0.out.2
  have hy0 := HY0.out.1
  have hy1 := HY0.out.2
  go_wp2_with fail
  refine (HPX.out _).mono ?_
  rintro e_ w_ ⟨rfl, rfl⟩
  go_wp2_with fail
  refine (HPY.out _).mono ?_
  rintro e_ w_ ⟨rfl, rfl⟩
  go_wp2_with fail
  rw [HXW.out, HYH.out]
  clear hx0 hx1 hy0 hy1
  have hst0 : Below w7.heap.size w7 (w7.alloc (.cells #[.int .i64 0, .int .i64 0, .slice none 0 0] 24)) := by (repeat' (first | exact Below.refl _ _ | exact Below.refl _ _ | refine balloc ?_ _ | refine Below.drew ?_ | refine below_drewN ?_ _ | refine bset ?_ (by first | omega | (simp <;> omega)) _))
  refine (HPG.out _ (HI1.out.below hst0)).mono ?_
  rintro e_ w8 ⟨gp, B, rfl, hP0, hb⟩
  have hst : Below w7.heap.size w7 w8 := btrans hst0 hb
  replace Kp := (Kp.alloc (.cells #[.int .i64 0, .int .i64 0, .slice none 0 0] 24))
  replace Ku := (Ku.alloc (.cells #[.int .i64 0, .int .i64 0, .slice none 0 0] 24))
  have Kv := (Blk.new w7 24 #[.int .i64 0, .int .i64 0, .slice none 0 0])
  replace Kp := Kp.below hb Kp.lt
  replace Ku := Ku.below hb Ku.lt
  replace Kv := Kv.below hb Kv.lt
  replace hbw : Below w.heap.size w w8 := btrans hbw hst
  replace HI1 := Lib.hid (HI1.out.below hst)
  replace HBp := Lib.hid (HBp.out.below hst)
  replace HBb := Lib.hid (HBb.out.below hst)
  replace HhX := Lib.hid (HhX.out.below hst)
  replace Hhcx := Lib.hid (Hhcx.out.below hst)
  replace HhU := Lib.hid (HhU.out.below hst)
  replace Hhcb := Lib.hid (Hhcb.out.below hst)
  clear hst hst0 hb lKp cKp0 cKp1 cKp2 lKu cKu0 cKu1 cKu2
  have lKp := Kp.lt
  have cKp0 := Kp.cell 0
  have cKp1 := Kp.cell 1
  have cKp2 := Kp.cell 2
  have lKu := Ku.lt
  have cKu0 := Ku.cell 0
  have cKu1 := Ku.cell 1
  have cKu2 := Ku.cell 2
  have lKv := Kv.lt
  have cKv0 := Kv.cell 0
  have cKv1 := Kv.cell 1
  have cKv2 := Kv.cell 2
  simp only [List.getElem?_toArray, List.getElem?_cons_succ, List.getElem?_cons_zero] at cKp0 cKp1 cKp2 cKu0 cKu1 cKu2 cKv0 cKv1 cKv2
  obtain ⟨l, hl⟩ : ∃ l, listB N B = l := ⟨_, rfl⟩
  have hP := lf.Pg.lb hP0
  rw [hl] at hP
  have HLL := Lib.hid (show l.length = N from hP.len)
  clear hP0 hl
  have HhP := Lib.hid hP
  clear hP
  go_wp2_with fail
  have hst0 : Below w8.heap.size w8 (w8.alloc (.cells #[.int .i64 (W : Int), .int .i64 (H : Int), .slice (some ⟨gp, 0, none⟩) N N] 24)) := by (repeat' (first | exact Below.refl _ _ | exact Below.refl _ _ | refine balloc ?_ _ | refine Below.drew ?_ | refine below_drewN ?_ _ | refine bset ?_ (by first | omega | (simp <;> omega)) _))
  refine (HPS.out _ _ _ _ (HhP.out.below hst0)).mono ?_
  rintro e_ w9 ⟨Dz, mz, dz, rfl, hZ, hmz, hb⟩
  have hst : Below w8.heap.size w8 w9 := btrans hst0 hb
  replace Kp := (Kp.alloc (.cells #[.int .i64 (W : Int), .int .i64 (H : Int), .slice (some ⟨gp, 0, none⟩) N N] 24))
  replace Ku := (Ku.alloc (.cells #[.int .i64 (W : Int), .int .i64 (H : Int), .slice (some ⟨gp, 0, none⟩) N N] 24))
  replace Kv := (Kv.alloc (.cells #[.int .i64 (W : Int), .int .i64 (H : Int), .slice (some ⟨gp, 0, none⟩) N N] 24))
  have Ks := (Blk.new w8 24 #[.int .i64 (W : Int), .int .i64 (H : Int), .slice (some ⟨gp, 0, none⟩) N N])
  replace Kp := Kp.below hb Kp.lt
  replace Ku := Ku.below hb Ku.lt
  replace Kv := Kv.below hb Kv.lt
  replace Ks := Ks.below hb Ks.lt
  replace hbw : Below w.heap.size w w9 := btrans hbw hst
  replace HI1 := Lib.hid (HI1.out.below hst)
  replace HBp := Lib.hid (HBp.out.below hst)
  replace HBb := Lib.hid (HBb.out.below hst)
  replace HhX := Lib.hid (HhX.out.below hst)
  replace Hhcx := Lib.hid (Hhcx.out.below hst)
  replace HhU := Lib.hid (HhU.out.below hst)
  replace Hhcb := Lib.hid (Hhcb.out.below hst)
  replace HhP := Lib.hid (HhP.out.below hst)
  clear hst hst0 hb lKp cKp0 cKp1 cKp2 lKu cKu0 cKu1 cKu2 lKv cKv0 cKv1 cKv2
  have HhZ := Lib.hid hZ
  clear hZ
  have lKp := Kp.lt
  have cKp0 := Kp.cell 0
  have cKp1 := Kp.cell 1
  have cKp2 := Kp.cell 2
  have lKu := Ku.lt
  have cKu0 := Ku.cell 0
  have cKu1 := Ku.cell 1
  have cKu2 := Ku.cell 2
  have lKv := Kv.lt
  have cKv0 := Kv.cell 0
  have cKv1 := Kv.cell 1
  have cKv2 := Kv.cell 2
  have lKs := Ks.lt
  have cKs0 := Ks.cell 0
  have cKs1 := Ks.cell 1
  have cKs2 := Ks.cell 2
  simp only [List.getElem?_toArray, List.getElem?_cons_succ, List.getElem?_cons_zero] at cKp0 cKp1 cKp2 cKu0 cKu1 cKu2 cKv0 cKv1 cKv2 cKs0 cKs1 cKs2
  obtain ⟨hmz0, hmz1⟩ := hmz
  go_wp2_with (at_builtin; refine Held.of ?_)
  unfold Held
  have hst0 : Below w9.heap.size w9 w9 := by (repeat' (first | exact Below.refl _ _ | exact Below.refl _ _ | refine balloc ?_ _ | refine Below.drew ?_ | refine below_drewN ?_ _ | refine bset ?_ (by first | omega | (simp <;> omega)) _))
  have hLn := LB.len ((HhZ.out.below hst0) : LB _ _ mz _ _)
  refine wpList_copy (.tmp 93) (.tmp 94) _ _ _ _ rfl rfl (by first | rfl | (rw [size_alloc]; rfl) | (rw [size_alloc, size_alloc]; rfl)) rfl ((HhZ.out.below hst0)).1 (by omega) ?_
  intro vcz w10 hO hb
  have hst : Below w9.heap.size w9 w10 := btrans hst0 hb
  replace Kp := Kp.below hb Kp.lt
  replace Ku := Ku.below hb Ku.lt
  replace Kv := Kv.below hb Kv.lt
  replace Ks := Ks.below hb Ks.lt
  replace hbw : Below w.heap.size w w10 := btrans hbw hst
  replace HI1 := Lib.hid (HI1.out.below hst)
  replace HBp := Lib.hid (HBp.out.below hst)
  replace HBb := Lib.hid (HBb.out.below hst)
  replace HhX := Lib.hid (HhX.out.below hst)
  replace Hhcx := Lib.hid (Hhcx.out.below hst)
  replace HhU := Lib.hid (HhU.out.below hst)
  replace Hhcb := Lib.hid (Hhcb.out.below hst)
  replace HhP := Lib.hid (HhP.out.below hst)
  replace HhZ := Lib.hid (HhZ.out.below hst)
  clear hst hst0 hb lKp cKp0 cKp1 cKp2 lKu cKu0 cKu1 cKu2 lKv cKv0 cKv1 cKv2 lKs cKs0 cKs1 cKs2
  obtain ⟨Acz, ccz, rfl, hcz⟩ := hO.lbn hLn
  clear hO hLn
  have Hhcz := Lib.hid hcz
  clear hcz
  have lKp := Kp.lt
  have cKp0 := Kp.cell 0
  have cKp1 := Kp.cell 1
  have cKp2 := Kp.cell 2
  have lKu := Ku.lt
  have cKu0 := Ku.cell 0
  have cKu1 := Ku.cell 1
  have cKu2 := Ku.cell 2
  have lKv := Kv.lt
  have cKv0 := Kv.cell 0
  have cKv1 := Kv.cell 1
  have cKv2 := Kv.cell 2
  have lKs := Ks.lt
  have cKs0 := Ks.cell 0
  have cKs1 := Ks.cell 1
  have cKs2 := Ks.cell 2
  simp only [List.getElem?_toArray, List.getElem?_cons_succ, List.getElem?_cons_zero] at cKp0 cKp1 cKp2 cKu0 cKu1 cKu2 cKv0 cKv1 cKv2 cKs0 cKs1 cKs2
  go_wp2_with fail
  have hst0 : Below w10.heap.size w10 w10 := by (repeat' (first | exact Below.refl _ _ | exact Below.refl _ _ | refine balloc ?_ _ | refine Below.drew ?_ | refine below_drewN ?_ _ | refine bset ?_ (by first | omega | (simp <;> omega)) _))
  refine (HTS.out _ _ _ _ _ hmz1 HLL.out (Hhcz.out.below hst0)).mono ?_
  rintro e_ w11 ⟨Dt, ft, rfl, hT, hb⟩
  have hst : Below w10.heap.size w10 w11 := btrans hst0 hb
  replace Kp := Kp.below hb Kp.lt
  replace Ku := Ku.below hb Ku.lt
  replace Kv := Kv.below hb Kv.lt
  replace Ks := Ks.below hb Ks.lt
  replace hbw : Below w.heap.size w w11 := btrans hbw hst
  replace HI1 := Lib.hid (HI1.out.below hst)
  replace HBp := Lib.hid (HBp.out.below hst)
  replace HBb := Lib.hid (HBb.out.below hst)
  replace HhX := Lib.hid (HhX.out.below hst)
  replace Hhcx := Lib.hid (Hhcx.out.below hst)
  replace HhU := Lib.hid (HhU.out.below hst)
  replace Hhcb := Lib.hid (Hhcb.out.below hst)
  replace HhP := Lib.hid (HhP.out.below hst)
  replace HhZ := Lib.hid (HhZ.out.below hst)
  replace Hhcz := Lib.hid (Hhcz.out.below hst)
  clear hst hst0 hb lKp cKp0 cKp1 cKp2 lKu cKu0 cKu1 cKu2 lKv cKv0 cKv1 cKv2 lKs cKs0 cKs1 cKs2
  have HhT := Lib.hid hT
  clear hT
  have lKp := Kp.lt
  have cKp0 := Kp.cell 0
  have cKp1 := Kp.cell 1
  have cKp2 := Kp.cell 2
  have lKu := Ku.lt
  have cKu0 := Ku.cell 0
  have cKu1 := Ku.cell 1
  have cKu2 := Ku.cell 2
  have lKv := Kv.lt
  have cKv0 := Kv.cell 0
  have cKv1 := Kv.cell 1
  have cKv2 := Kv.cell 2
  have lKs := Ks.lt
  have cKs0 := Ks.cell 0
  have cKs1 := Ks.cell 1
  have cKs2 := Ks.cell 2
  simp only [List.getElem?_toArray, List.getElem?_cons_succ, List.getElem?_cons_zero] at cKp0 cKp1 cKp2 cKu0 cKu1 cKu2 cKv0 cKv1 cKv2 cKs0 cKs1 cKs2
  go_wp2_with fail
  have hst0 : Below w11.heap.size w11 (w11.alloc (.cells #[.int .i64 (W : Int), .int .i64 (H : Int), .slice Dt N ft] 24)) := by (repeat' (first | exact Below.refl _ _ | exact Below.refl _ _ | refine balloc ?_ _ | refine Below.drew ?_ | refine below_drewN ?_ _ | refine bset ?_ (by first | omega | (simp <;> omega)) _))
  refine (lsame_eq _ _ _ _ _ _ _ _ _ _ _ (HhP.out.below hst0) (HhT.out.below hst0)).mono ?_
  rintro e_ w12 ⟨rfl, hb⟩
  have hst : Below w11.heap.size w11 w12 := btrans hst0 hb
  replace Kp := (Kp.alloc (.cells #[.int .i64 (W : Int), .int .i64 (H : Int), .slice Dt N ft] 24))
  replace Ku := (Ku.alloc (.cells #[.int .i64 (W : Int), .int .i64 (H : Int), .slice Dt N ft] 24))
  replace Kv := (Kv.alloc (.cells #[.int .i64 (W : Int), .int .i64 (H : Int), .slice Dt N ft] 24))
  replace Ks := (Ks.alloc (.cells #[.int .i64 (W : Int), .int .i64 (H : Int), .slice Dt N ft] 24))
  have Kt := (Blk.new w11 24 #[.int .i64 (W : Int), .int .i64 (H : Int), .slice Dt N ft])
  replace Kp := Kp.below hb Kp.lt
  replace Ku := Ku.below hb Ku.lt
  replace Kv := Kv.below hb Kv.lt
  replace Ks := Ks.below hb Ks.lt
  replace Kt := Kt.below hb Kt.lt
  replace hbw : Below w.heap.size w w12 := btrans hbw hst
  replace HI1 := Lib.hid (HI1.out.below hst)
  replace HBp := Lib.hid (HBp.out.below hst)
  replace HBb := Lib.hid (HBb.out.below hst)
  replace HhX := Lib.hid (HhX.out.below hst)
  replace Hhcx := Lib.hid (Hhcx.out.below hst)
  replace HhU := Lib.hid (HhU.out.below hst)
  replace Hhcb := Lib.hid (Hhcb.out.below hst)
  replace HhP := Lib.hid (HhP.out.below hst)
  replace HhZ := Lib.hid (HhZ.out.below hst)
  replace Hhcz := Lib.hid (Hhcz.out.below hst)
  replace HhT := Lib.hid (HhT.out.below hst)
  clear hst hst0 hb lKp cKp0 cKp1 cKp2 lKu cKu0 cKu1 cKu2 lKv cKv0 cKv1 cKv2 lKs cKs0 cKs1 cKs2
  have lKp := Kp.lt
  have cKp0 := Kp.cell 0
  have cKp1 := Kp.cell 1
  have cKp2 := Kp.cell 2
  have lKu := Ku.lt
  have cKu0 := Ku.cell 0
  have cKu1 := Ku.cell 1
  have cKu2 := Ku.cell 2
  have lKv := Kv.lt
  have cKv0 := Kv.cell 0
  have cKv1 := Kv.cell 1
  have cKv2 := Kv.cell 2
  have lKs := Ks.lt
  have cKs0 := Ks.cell 0
  have cKs1 := Ks.cell 1
  have cKs2 := Ks.cell 2
  have lKt := Kt.lt
  have cKt0 := Kt.cell 0
  have cKt1 := Kt.cell 1
  have cKt2 := Kt.cell 2
  simp only [List.getElem?_toArray, List.getElem?_cons_succ, List.getElem?_cons_zero] at cKp0 cKp1 cKp2 cKu0 cKu1 cKu2 cKv0 cKv1 cKv2 cKs0 cKs1 cKs2 cKt0 cKt1 cKt2
  simp only [decide_true]
  go_wp2_with fail
  have hst0 : Below w12.heap.size w12 w12 := by (repeat' (first | exact Below.refl _ _ | exact Below.refl _ _ | refine balloc ?_ _ | refine Below.drew ?_ | refine below_drewN ?_ _ | refine bset ?_ (by first | omega | (simp <;> omega)) _))
  refine (HMY.out _).mono ?_
  rintro e_ w13 ⟨rfl, hb⟩
  have hst : Below w12.heap.size w12 w13 := btrans hst0 hb
  replace Kp := Kp.below hb Kp.lt
  replace Ku := Ku.below hb Ku.lt
  replace Kv := Kv.below hb Kv.lt
  replace Ks := Ks.below hb Ks.lt
  replace Kt := Kt.below hb Kt.lt
  replace hbw : Below w.heap.size w w13 := btrans hbw hst
  replace HI1 := Lib.hid (HI1.out.below hst)
  replace HBp := Lib.hid (HBp.out.below hst)
  replace HBb := Lib.hid (HBb.out.below hst)
  replace HhX := Lib.hid (HhX.out.below hst)
  replace Hhcx := Lib.hid (Hhcx.out.below hst)
  replace HhU := Lib.hid (HhU.out.below hst)
  replace Hhcb := Lib.hid (Hhcb.out.below hst)
  replace HhP := Lib.hid (HhP.out.below hst)
  replace HhZ := Lib.hid (HhZ.out.below hst)
  replace Hhcz := Lib.hid (Hhcz.out.below hst)
  replace HhT := Lib.hid (HhT.out.below hst)
  clear hst hst0 hb lKp cKp0 cKp1 cKp2 lKu cKu0 cKu1 cKu2 lKv cKv0 cKv1 cKv2 lKs cKs0 cKs1 cKs2 lKt cKt0 cKt1 cKt2
  have lKp := Kp.lt
  have cKp0 := Kp.cell 0
  have cKp1 := Kp.cell 1
  have cKp2 := Kp.cell 2
  have lKu := Ku.lt
  have cKu0 := Ku.cell 0
  have cKu1 := Ku.cell 1
  have cKu2 := Ku.cell 2
  have lKv := Kv.lt
  have cKv0 := Kv.cell 0
  have cKv1 := Kv.cell 1
  have cKv2 := Kv.cell 2
  have lKs := Ks.lt
  have cKs0 := Ks.cell 0
  have cKs1 := Ks.cell 1
  have cKs2 := Ks.cell 2
  have lKt := Kt.lt
  have cKt0 := Kt.cell 0
  have cKt1 := Kt.cell 1
  have cKt2 := Kt.cell 2
  simp only [List.getElem?_toArray, List.getElem?_cons_succ, List.getElem?_cons_zero] at cKp0 cKp1 cKp2 cKu0 cKu1 cKu2 cKv0 cKv1 cKv2 cKs0 cKs1 cKs2 cKt0 cKt1 cKt2
  go_wp2_with fail
  go_ret
  exact ⟨by first | rfl | (simp; done), by (repeat' (first | exact hbw | exact Below.refl _ _ | refine balloc ?_ _ | refine Below.drew ?_ | refine below_drewN ?_ _ | refine bset ?_ (by first | omega | (simp <;> omega)) _))⟩
set_option maxRecDepth 100000 in
set_option maxHeartbeats 6400000 in
theorem back_may_ok (pW pH : Int) (pA : Option Addr) (np cp : Nat) (lp : List UInt8) (bA : Option Addr) (nb cb : Nat) (lb : List UInt8) (A1 : Option Addr) (n1 c1 : Nat) (ns1 : Nat → Int) (x y : Int) (w : World) (hpW : -9223372036854775808 ≤ pW ∧ pW ≤ 9223372036854775807) (hpH : -9223372036854775808 ≤ pH ∧ pH ≤ 9223372036854775807) (hrp : Bytes w pA np cp lp) (hnp : np ≤ 9223372036854775807) (hrb : Bytes w bA nb cb lb) (hnb : nb ≤ 9223372036854775807) (hr1 : Ints w A1 n1 c1 ns1) (hn1 : n1 ≤ 9223372036854775807) (_hx : -9223372036854775808 ≤ x ∧ x ≤ 9223372036854775807) (_hy : -9223372036854775808 ≤ y ∧ y ≤ 9223372036854775807) (h1 : np ≤ 15000) (h2 : nb ≤ 15000) (hm : ik.mayB pW pH np = true) (X Y : Nat) (pix : List UInt8) (hX : 1 ≤ X ∧ X ≤ 64) (hY : 1 ≤ Y ∧ Y ≤ 64) (hpl : pix.length = 3 * (X * Y)) (h12 : nb ≤ 12356) (hte : takeB lb = (X, Y, pix, ([], 0))) (hpu : putL X Y pix = lb) :
    Calls Try.prog 7 #[.agg #[.int .i64 pW, .int .i64 pH, .slice pA np cp], .slice bA nb cb, .slice A1 n1 c1, .int .i64 x, .int .i64 y] w fun ed w' => ed = .returned (.bool true) ∧ Below w.heap.size w w' := by
  obtain ⟨V, G, rfl, rfl, hV, hG, hnv⟩ := mayB_inv hm
  have hnv0 : 0 < np := by rw [hnv]; exact (page_size hV hG).1
  have HPP := Lib.hid (fun W' hb => lput_any V G np cp pA lp W' hV hG hnv hb)
  have HTP := Lib.hid (fun A m c W' (hm : m ≤ 12356) (hl : lp.length = np) hb => ltake_ok A m c (putL V G lp) W' hm hb V G lp np (takeB_put hV hG lp (by rw [hl, hnv, three_mul])) hl)
  obtain ⟨K, hK⟩ : ∃ K, pix.length = K := ⟨_, rfl⟩
  have HTO := Lib.hid (fun A c W' hb => ltake_ok A nb c lb W' h12 hb X Y pix K hte hK)
  have HPO := Lib.hid (fun A c W' hb => lput_any X Y K c A pix W' hX hY (hK ▸ hpl) hb)
  have HPU := Lib.hid hpu
  have hb0 : 0 < nb := by
    have := putL_len_ge hX hY hpl
    rw [hpu, hrb.1] at this
    omega
  clear hte hpu hK hpl hX hY h12
  have d1 : decide ((15000 : Int) < (np : Int)) = false := by simp; omega
  have d2 : decide ((15000 : Int) < (nb : Int)) = false := by simp; omega
  obtain ⟨W, hW, hW2, hxW, hx0, hx1⟩ := side_fix x 20 (by decide) (by decide)
  obtain ⟨H, hH, hH2, hyH, hy0, hy1⟩ := side_fix y 20 (by decide) (by decide)
  have hPX := fun W => place_any x 20 W (by decide) (by decide)
  have hPY := fun W => place_any y 20 W (by decide) (by decide)
  obtain ⟨zx, hzx⟩ : ∃ z, x % 20 = z := ⟨_, rfl⟩
  obtain ⟨zy, hzy⟩ : ∃ z, y % 20 = z := ⟨_, rfl⟩
  rw [hzx] at hPX hxW hx0 hx1
  rw [hzy] at hPY hyH hy0 hy1
  have HXW := Lib.hid hxW
  have HYH := Lib.hid hyH
  have HPX := Lib.hid hPX
  have HPY := Lib.hid hPY
  obtain ⟨N, hN⟩ : ∃ N, N = 3 * (W * H) := ⟨_, rfl⟩
  have hN12 : N ≤ 12288 := by rw [hN]; exact (page_size hW hH).2
  have HPG := Lib.hid (fun W' h => lpage_any A1 n1 c1 ns1 W H N W' h hn1 hW hH hN)
  have HPS := Lib.hid (fun A c l W' hb => lput_any W H N c A l W' hW hH hN hb)
  have HTS := Lib.hid (fun A m c l W' (hm : m ≤ 12356) (hl : l.length = N) hb => ltake_ok A m c (putL W H l) W' hm hb W H l N (takeB_put hW hH l (by rw [hl, hN, three_mul])) hl)
  have HMY := Lib.hid (fun W' => ik.may_any (V : Int) (G : Int) pA np cp W' hnp)
  have HI1 := Lib.hid hr1
  have HBp := Lib.hid hrp
  have HBb := Lib.hid hrb
  have HN := Lib.hid hN
  have HX0 := Lib.hid (And.intro hx0 hx1)
  have HY0 := Lib.hid (And.intro hy0 hy1)
  have H15 := Lib.hid (And.intro h1 h2)
  clear hxW hyH hPX hPY hzx hzy hN hr1 hn1 _hx _hy hW2 hH2 hpW hpH hrp hnp hrb hnb hx0 hx1 hy0 hy1
  rw [hm] at HMY
  clear hm hnv hV hG h1 h2
  go_enter Try.func7, Try.ntmps7
  go_wp2_with fail
  have hst0 : Below w.heap.size w (w.alloc (.cells #[.int .i64 (V : Int), .int .i64 (G : Int), .slice pA np cp] 24)) := by (repeat' (first | exact Below.refl _ _ | exact Below.refl _ _ | refine balloc ?_ _ | refine Below.drew ?_ | refine below_drewN ?_ _ | refine bset ?_ (by first | omega | (simp <;> omega)) _))
  refine (lknown_any _).mono ?_
  rintro e_ w1 ⟨rfl, hb⟩
  have hst : Below w.heap.size w w1 := btrans hst0 hb
  have Kp := (Blk.new w 24 #[.int .i64 (V : Int), .int .i64 (G : Int), .slice pA np cp])
  replace Kp := Kp.below hb Kp.lt
  have hbw : Below w.heap.size w w1 := hst
  replace HI1 := Lib.hid (HI1.out.below hst)
  replace HBp := Lib.hid (HBp.out.below hst)
  replace HBb := Lib.hid (HBb.out.below hst)
  clear hst hst0 hb 
  have lKp := Kp.lt
  have cKp0 := Kp.cell 0
  have cKp1 := Kp.cell 1
  have cKp2 := Kp.cell 2
  simp only [List.getElem?_toArray, List.getElem?_cons_succ, List.getElem?_cons_zero] at cKp0 cKp1 cKp2
  go_wp2_with fail
  have hst0 : Below w1.heap.size w1 w1 := by (repeat' (first | exact Below.refl _ _ | exact Below.refl _ _ | refine balloc ?_ _ | refine Below.drew ?_ | refine below_drewN ?_ _ | refine bset ?_ (by first | omega | (simp <;> omega)) _))
  refine (HPP.out _ (LB.of_pos (HBp.out.below hst0) hnv0)).mono ?_
  rintro e_ w2 ⟨Dx, mx, dx, rfl, hX, hmx, hb⟩
  have hst : Below w1.heap.size w1 w2 := btrans hst0 hb
  replace Kp := Kp.below hb Kp.lt
  replace hbw : Below w.heap.size w w2 := btrans hbw hst
  replace HI1 := Lib.hid (HI1.out.below hst)
  replace HBp := Lib.hid (HBp.out.below hst)
  replace HBb := Lib.hid (HBb.out.below hst)
  clear hst hst0 hb lKp cKp0 cKp1 cKp2
  have HhX := Lib.hid hX
  clear hX
  have lKp := Kp.lt
  have cKp0 := Kp.cell 0
  have cKp1 := Kp.cell 1
  have cKp2 := Kp.cell 2
  simp only [List.getElem?_toArray, List.getElem?_cons_succ, List.getElem?_cons_zero] at cKp0 cKp1 cKp2
  obtain ⟨hmx0, hmx1⟩ := hmx
  clear d1
  go_wp2_with (at_builtin; refine Held.of ?_)
  unfold Held
  have hst0 : Below w2.heap.size w2 w2 := by (repeat' (first | exact Below.refl _ _ | exact Below.refl _ _ | refine balloc ?_ _ | refine Below.drew ?_ | refine below_drewN ?_ _ | refine bset ?_ (by first | omega | (simp <;> omega)) _))
  have hLn := LB.len ((HhX.out.below hst0) : LB _ _ mx _ _)
  refine wpList_copy (.tmp 43) (.tmp 44) _ _ _ _ rfl rfl (by first | rfl | (rw [size_alloc]; rfl) | (rw [size_alloc, size_alloc]; rfl)) rfl ((HhX.out.below hst0)).1 (by omega) ?_
  intro vcx w3 hO hb
  have hst : Below w2.heap.size w2 w3 := btrans hst0 hb
  replace Kp := Kp.below hb Kp.lt
  replace hbw : Below w.heap.size w w3 := btrans hbw hst
  replace HI1 := Lib.hid (HI1.out.below hst)
  replace HBp := Lib.hid (HBp.out.below hst)
  replace HBb := Lib.hid (HBb.out.below hst)
  replace HhX := Lib.hid (HhX.out.below hst)
  clear hst hst0 hb lKp cKp0 cKp1 cKp2
  obtain ⟨Acx, ccx, rfl, hcx⟩ := hO.lbn hLn
  clear hO hLn
  have Hhcx := Lib.hid hcx
  clear hcx
  have lKp := Kp.lt
  have cKp0 := Kp.cell 0
  have cKp1 := Kp.cell 1
  have cKp2 := Kp.cell 2
  simp only [List.getElem?_toArray, List.getElem?_cons_succ, List.getElem?_cons_zero] at cKp0 cKp1 cKp2
  go_wp2_with fail
  have hst0 : Below w3.heap.size w3 w3 := by (repeat' (first | exact Below.refl _ _ | exact Below.refl _ _ | refine balloc ?_ _ | refine Below.drew ?_ | refine below_drewN ?_ _ | refine bset ?_ (by first | omega | (simp <;> omega)) _))
  refine (HTP.out _ _ _ _ hmx1 HBp.out.1 (Hhcx.out.below hst0)).mono ?_
  rintro e_ w4 ⟨Du, fu, rfl, hU, hb⟩
  have hst : Below w3.heap.size w3 w4 := btrans hst0 hb
  replace Kp := Kp.below hb Kp.lt
  replace hbw : Below w.heap.size w w4 := btrans hbw hst
  replace HI1 := Lib.hid (HI1.out.below hst)
  replace HBp := Lib.hid (HBp.out.below hst)
  replace HBb := Lib.hid (HBb.out.below hst)
  replace HhX := Lib.hid (HhX.out.below hst)
  replace Hhcx := Lib.hid (Hhcx.out.below hst)
  clear hst hst0 hb lKp cKp0 cKp1 cKp2
  have HhU := Lib.hid hU
  clear hU
  have lKp := Kp.lt
  have cKp0 := Kp.cell 0
  have cKp1 := Kp.cell 1
  have cKp2 := Kp.cell 2
  simp only [List.getElem?_toArray, List.getElem?_cons_succ, List.getElem?_cons_zero] at cKp0 cKp1 cKp2
  go_wp2_with fail
  have hst0 : Below w4.heap.size w4 (w4.alloc (.cells #[.int .i64 (V : Int), .int .i64 (G : Int), .slice Du np fu] 24)) := by (repeat' (first | exact Below.refl _ _ | exact Below.refl _ _ | refine balloc ?_ _ | refine Below.drew ?_ | refine below_drewN ?_ _ | refine bset ?_ (by first | omega | (simp <;> omega)) _))
  refine (lsame_eq _ _ _ _ _ _ _ _ _ _ _ (LB.of_pos (HBp.out.below hst0) hnv0) (HhU.out.below hst0)).mono ?_
  rintro e_ w5 ⟨rfl, hb⟩
  have hst : Below w4.heap.size w4 w5 := btrans hst0 hb
  replace Kp := (Kp.alloc (.cells #[.int .i64 (V : Int), .int .i64 (G : Int), .slice Du np fu] 24))
  have Ku := (Blk.new w4 24 #[.int .i64 (V : Int), .int .i64 (G : Int), .slice Du np fu])
  replace Kp := Kp.below hb Kp.lt
  replace Ku := Ku.below hb Ku.lt
  replace hbw : Below w.heap.size w w5 := btrans hbw hst
  replace HI1 := Lib.hid (HI1.out.below hst)
  replace HBp := Lib.hid (HBp.out.below hst)
  replace HBb := Lib.hid (HBb.out.below hst)
  replace HhX := Lib.hid (HhX.out.below hst)
  replace Hhcx := Lib.hid (Hhcx.out.below hst)
  replace HhU := Lib.hid (HhU.out.below hst)
  clear hst hst0 hb lKp cKp0 cKp1 cKp2
  have lKp := Kp.lt
  have cKp0 := Kp.cell 0
  have cKp1 := Kp.cell 1
  have cKp2 := Kp.cell 2
  have lKu := Ku.lt
  have cKu0 := Ku.cell 0
  have cKu1 := Ku.cell 1
  have cKu2 := Ku.cell 2
  simp only [List.getElem?_toArray, List.getElem?_cons_succ, List.getElem?_cons_zero] at cKp0 cKp1 cKp2 cKu0 cKu1 cKu2
  simp only [decide_true]
  have hb15 := H15.out.2
  go_wp2_with (at_builtin; refine Held.of ?_)
  unfold Held
  have hst0 : Below w5.heap.size w5 w5 := by (repeat' (first | exact Below.refl _ _ | exact Below.refl _ _ | refine balloc ?_ _ | refine Below.drew ?_ | refine below_drewN ?_ _ | refine bset ?_ (by first | omega | (simp <;> omega)) _))
  have hLn := ((HBb.out.below hst0)).1
  refine wpList_copy (.tmp 58) (.tmp 59) _ _ _ _ rfl rfl (by first | rfl | (rw [size_alloc]; rfl) | (rw [size_alloc, size_alloc]; rfl)) rfl ((HBb.out.below hst0)) (by omega) ?_
  intro vcb w6 hO hb
  have hst : Below w5.heap.size w5 w6 := btrans hst0 hb
  replace Kp := Kp.below hb Kp.lt
  replace Ku := Ku.below hb Ku.lt
  replace hbw : Below w.heap.size w w6 := btrans hbw hst
  replace HI1 := Lib.hid (HI1.out.below hst)
  replace HBp := Lib.hid (HBp.out.below hst)
  replace HBb := Lib.hid (HBb.out.below hst)
  replace HhX := Lib.hid (HhX.out.below hst)
  replace Hhcx := Lib.hid (Hhcx.out.below hst)
  replace HhU := Lib.hid (HhU.out.below hst)
  clear hst hst0 hb lKp cKp0 cKp1 cKp2 lKu cKu0 cKu1 cKu2
  obtain ⟨Acb, ccb, rfl, hcb⟩ := hO.lbn hLn
  clear hO hLn
  have Hhcb := Lib.hid hcb
  clear hcb
  have lKp := Kp.lt
  have cKp0 := Kp.cell 0
  have cKp1 := Kp.cell 1
  have cKp2 := Kp.cell 2
  have lKu := Ku.lt
  have cKu0 := Ku.cell 0
  have cKu1 := Ku.cell 1
  have cKu2 := Ku.cell 2
  simp only [List.getElem?_toArray, List.getElem?_cons_succ, List.getElem?_cons_zero] at cKp0 cKp1 cKp2 cKu0 cKu1 cKu2
  clear hb15
  go_wp2_with fail
  have hst0 : Below w6.heap.size w6 w6 := by (repeat' (first | exact Below.refl _ _ | exact Below.refl _ _ | refine balloc ?_ _ | refine Below.drew ?_ | refine below_drewN ?_ _ | refine bset ?_ (by first | omega | (simp <;> omega)) _))
  refine (HTO.out _ _ _ (Hhcb.out.below hst0)).mono ?_
  rintro e_ w7 ⟨Dv, fv, rfl, hv, hb⟩
  have hst : Below w6.heap.size w6 w7 := btrans hst0 hb
  replace Kp := Kp.below hb Kp.lt
  replace Ku := Ku.below hb Ku.lt
  replace hbw : Below w.heap.size w w7 := btrans hbw hst
  replace HI1 := Lib.hid (HI1.out.below hst)
  replace HBp := Lib.hid (HBp.out.below hst)
  replace HBb := Lib.hid (HBb.out.below hst)
  replace HhX := Lib.hid (HhX.out.below hst)
  replace Hhcx := Lib.hid (Hhcx.out.below hst)
  replace HhU := Lib.hid (HhU.out.below hst)
  replace Hhcb := Lib.hid (Hhcb.out.below hst)
  clear hst hst0 hb lKp cKp0 cKp1 cKp2 lKu cKu0 cKu1 cKu2
  have Hhv := Lib.hid hv
  clear hv
  have lKp := Kp.lt
  have cKp0 := Kp.cell 0
  have cKp1 := Kp.cell 1
  have cKp2 := Kp.cell 2
  have lKu := Ku.lt
  have cKu0 := Ku.cell 0
  have cKu1 := Ku.cell 1
  have cKu2 := Ku.cell 2
  simp only [List.getElem?_toArray, List.getElem?_cons_succ, List.getElem?_cons_zero] at cKp0 cKp1 cKp2 cKu0 cKu1 cKu2
  go_wp2_with fail
  have hst0 : Below w7.heap.size w7 (w7.alloc (.cells #[.int .i64 (X : Int), .int .i64 (Y : Int), .slice Dv K fv] 24)) := by (repeat' (first | exact Below.refl _ _ | exact Below.refl _ _ | refine balloc ?_ _ | refine Below.drew ?_ | refine below_drewN ?_ _ | refine bset ?_ (by first | omega | (simp <;> omega)) _))
  refine (HPO.out _ _ _ (Hhv.out.below hst0)).mono ?_
  rintro e_ w8 ⟨Dy, my, dy, rfl, hy, hmy, hb⟩
  rw [HPU.out] at hy
  clear hmy
  have hst : Below w7.heap.size w7 w8 := btrans hst0 hb
  replace Kp := (Kp.alloc (.cells #[.int .i64 (X : Int), .int .i64 (Y : Int), .slice Dv K fv] 24))
  replace Ku := (Ku.alloc (.cells #[.int .i64 (X : Int), .int .i64 (Y : Int), .slice Dv K fv] 24))
  have Kv := (Blk.new w7 24 #[.int .i64 (X : Int), .int .i64 (Y : Int), .slice Dv K fv])
  replace Kp := Kp.below hb Kp.lt
  replace Ku := Ku.below hb Ku.lt
  replace Kv := Kv.below hb Kv.lt
  replace hbw : Below w.heap.size w w8 := btrans hbw hst
  replace HI1 := Lib.hid (HI1.out.below hst)
  replace HBp := Lib.hid (HBp.out.below hst)
  replace HBb := Lib.hid (HBb.out.below hst)
  replace HhX := Lib.hid (HhX.out.below hst)
  replace Hhcx := Lib.hid (Hhcx.out.below hst)
  replace HhU := Lib.hid (HhU.out.below hst)
  replace Hhcb := Lib.hid (Hhcb.out.below hst)
  replace Hhv := Lib.hid (Hhv.out.below hst)
  clear hst hst0 hb lKp cKp0 cKp1 cKp2 lKu cKu0 cKu1 cKu2
  have Hhy := Lib.hid hy
  clear hy
  have lKp := Kp.lt
  have cKp0 := Kp.cell 0
  have cKp1 := Kp.cell 1
  have cKp2 := Kp.cell 2
  have lKu := Ku.lt
  have cKu0 := Ku.cell 0
  have cKu1 := Ku.cell 1
  have cKu2 := Ku.cell 2
  have lKv := Kv.lt
  have cKv0 := Kv.cell 0
  have cKv1 := Kv.cell 1
  have cKv2 := Kv.cell 2
  simp only [List.getElem?_toArray, List.getElem?_cons_succ, List.getElem?_cons_zero] at cKp0 cKp1 cKp2 cKu0 cKu1 cKu2 cKv0 cKv1 cKv2
  go_wp2_with fail
  have hst0 : Below w8.heap.size w8 w8 := by (repeat' (first | exact Below.refl _ _ | exact Below.refl _ _ | refine balloc ?_ _ | refine Below.drew ?_ | refine below_drewN ?_ _ | refine bset ?_ (by first | omega | (simp <;> omega)) _))
  refine (hbytes_any _ _ _ _ _ _ _ _ _ (Hhy.out.below hst0) (LB.of_pos (HBb.out.below hst0) hb0)).mono ?_
  rintro e_ w9 ⟨rfl, hb⟩
  have hst : Below w8.heap.size w8 w9 := btrans hst0 hb
  replace Kp := Kp.below hb Kp.lt
  replace Ku := Ku.below hb Ku.lt
  replace Kv := Kv.below hb Kv.lt
  replace hbw : Below w.heap.size w w9 := btrans hbw hst
  replace HI1 := Lib.hid (HI1.out.below hst)
  replace HBp := Lib.hid (HBp.out.below hst)
  replace HBb := Lib.hid (HBb.out.below hst)
  replace HhX := Lib.hid (HhX.out.below hst)
  replace Hhcx := Lib.hid (Hhcx.out.below hst)
  replace HhU := Lib.hid (HhU.out.below hst)
  replace Hhcb := Lib.hid (Hhcb.out.below hst)
  replace Hhv := Lib.hid (Hhv.out.below hst)
  replace Hhy := Lib.hid (Hhy.out.below hst)
  clear hst hst0 hb lKp cKp0 cKp1 cKp2 lKu cKu0 cKu1 cKu2 lKv cKv0 cKv1 cKv2
  have lKp := Kp.lt
  have cKp0 := Kp.cell 0
  have cKp1 := Kp.cell 1
  have cKp2 := Kp.cell 2
  have lKu := Ku.lt
  have cKu0 := Ku.cell 0
  have cKu1 := Ku.cell 1
  have cKu2 := Ku.cell 2
  have lKv := Kv.lt
  have cKv0 := Kv.cell 0
  have cKv1 := Kv.cell 1
  have cKv2 := Kv.cell 2
  simp only [List.getElem?_toArray, List.getElem?_cons_succ, List.getElem?_cons_zero] at cKp0 cKp1 cKp2 cKu0 cKu1 cKu2 cKv0 cKv1 cKv2
  simp only [decide_true]
  clear d2
  have hx0 := HX0.out.1
  have hx1 := HX0.out.2
  have hy0 := HY0.out.1
  have hy1 := HY0.out.2
  go_wp2_with fail
  refine (HPX.out _).mono ?_
  rintro e_ w_ ⟨rfl, rfl⟩
  go_wp2_with fail
  refine (HPY.out _).mono ?_
  rintro e_ w_ ⟨rfl, rfl⟩
  go_wp2_with fail
  rw [HXW.out, HYH.out]
  clear hx0 hx1 hy0 hy1
  have hst0 : Below w9.heap.size w9 w9 := by (repeat' (first | exact Below.refl _ _ | exact Below.refl _ _ | refine balloc ?_ _ | refine Below.drew ?_ | refine below_drewN ?_ _ | refine bset ?_ (by first | omega | (simp <;> omega)) _))
  refine (HPG.out _ (HI1.out.below hst0)).mono ?_
  rintro e_ w10 ⟨gp, B, rfl, hP0, hb⟩
  have hst : Below w9.heap.size w9 w10 := btrans hst0 hb
  replace Kp := Kp.below hb Kp.lt
  replace Ku := Ku.below hb Ku.lt
  replace Kv := Kv.below hb Kv.lt
  replace hbw : Below w.heap.size w w10 := btrans hbw hst
  replace HI1 := Lib.hid (HI1.out.below hst)
  replace HBp := Lib.hid (HBp.out.below hst)
  replace HBb := Lib.hid (HBb.out.below hst)
  replace HhX := Lib.hid (HhX.out.below hst)
  replace Hhcx := Lib.hid (Hhcx.out.below hst)
  replace HhU := Lib.hid (HhU.out.below hst)
  replace Hhcb := Lib.hid (Hhcb.out.below hst)
  replace Hhv := Lib.hid (Hhv.out.below hst)
  replace Hhy := Lib.hid (Hhy.out.below hst)
  clear hst hst0 hb lKp cKp0 cKp1 cKp2 lKu cKu0 cKu1 cKu2 lKv cKv0 cKv1 cKv2
  have lKp := Kp.lt
  have cKp0 := Kp.cell 0
  have cKp1 := Kp.cell 1
  have cKp2 := Kp.cell 2
  have lKu := Ku.lt
  have cKu0 := Ku.cell 0
  have cKu1 := Ku.cell 1
  have cKu2 := Ku.cell 2
  have lKv := Kv.lt
  have cKv0 := Kv.cell 0
  have cKv1 := Kv.cell 1
  have cKv2 := Kv.cell 2
  simp only [List.getElem?_toArray, List.getElem?_cons_succ, List.getElem?_cons_zero] at cKp0 cKp1 cKp2 cKu0 cKu1 cKu2 cKv0 cKv1 cKv2
  obtain ⟨l, hl⟩ : ∃ l, listB N B = l := ⟨_, rfl⟩
  have hP := lf.Pg.lb hP0
  rw [hl] at hP
  have HLL := Lib.hid (show l.length = N from hP.len)
  clear hP0 hl
  have HhP := Lib.hid hP
  clear hP
  go_wp2_with fail
  have hst0 : Below w10.heap.size w10 (w10.alloc (.cells #[.int .i64 (W : Int), .int .i64 (H : Int), .slice (some ⟨gp, 0, none⟩) N N] 24)) := by (repeat' (first | exact Below.refl _ _ | exact Below.refl _ _ | refine balloc ?_ _ | refine Below.drew ?_ | refine below_drewN ?_ _ | refine bset ?_ (by first | omega | (simp <;> omega)) _))
  refine (HPS.out _ _ _ _ (HhP.out.below hst0)).mono ?_
  rintro e_ w11 ⟨Dz, mz, dz, rfl, hZ, hmz, hb⟩
  have hst : Below w10.heap.size w10 w11 := btrans hst0 hb
  replace Kp := (Kp.alloc (.cells #[.int .i64 (W : Int), .int .i64 (H : Int), .slice (some ⟨gp, 0, none⟩) N N] 24))
  replace Ku := (Ku.alloc (.cells #[.int .i64 (W : Int), .int .i64 (H : Int), .slice (some ⟨gp, 0, none⟩) N N] 24))
  replace Kv := (Kv.alloc (.cells #[.int .i64 (W : Int), .int .i64 (H : Int), .slice (some ⟨gp, 0, none⟩) N N] 24))
  have Ks := (Blk.new w10 24 #[.int .i64 (W : Int), .int .i64 (H : Int), .slice (some ⟨gp, 0, none⟩) N N])
  replace Kp := Kp.below hb Kp.lt
  replace Ku := Ku.below hb Ku.lt
  replace Kv := Kv.below hb Kv.lt
  replace Ks := Ks.below hb Ks.lt
  replace hbw : Below w.heap.size w w11 := btrans hbw hst
  replace HI1 := Lib.hid (HI1.out.below hst)
  replace HBp := Lib.hid (HBp.out.below hst)
  replace HBb := Lib.hid (HBb.out.below hst)
  replace HhX := Lib.hid (HhX.out.below hst)
  replace Hhcx := Lib.hid (Hhcx.out.below hst)
  replace HhU := Lib.hid (HhU.out.below hst)
  replace Hhcb := Lib.hid (Hhcb.out.below hst)
  replace Hhv := Lib.hid (Hhv.out.below hst)
  replace Hhy := Lib.hid (Hhy.out.below hst)
  replace HhP := Lib.hid (HhP.out.below hst)
  clear hst hst0 hb lKp cKp0 cKp1 cKp2 lKu cKu0 cKu1 cKu2 lKv cKv0 cKv1 cKv2
  have HhZ := Lib.hid hZ
  clear hZ
  have lKp := Kp.lt
  have cKp0 := Kp.cell 0
  have cKp1 := Kp.cell 1
  have cKp2 := Kp.cell 2
  have lKu := Ku.lt
  have cKu0 := Ku.cell 0
  have cKu1 := Ku.cell 1
  have cKu2 := Ku.cell 2
  have lKv := Kv.lt
  have cKv0 := Kv.cell 0
  have cKv1 := Kv.cell 1
  have cKv2 := Kv.cell 2
  have lKs := Ks.lt
  have cKs0 := Ks.cell 0
  have cKs1 := Ks.cell 1
  have cKs2 := Ks.cell 2
  simp only [List.getElem?_toArray, List.getElem?_cons_succ, List.getElem?_cons_zero] at cKp0 cKp1 cKp2 cKu0 cKu1 cKu2 cKv0 cKv1 cKv2 cKs0 cKs1 cKs2
  obtain ⟨hmz0, hmz1⟩ := hmz
  go_wp2_with (at_builtin; refine Held.of ?_)
  unfold Held
  have hst0 : Below w11.heap.size w11 w11 := by (repeat' (first | exact Below.refl _ _ | exact Below.refl _ _ | refine balloc ?_ _ | refine Below.drew ?_ | refine below_drewN ?_ _ | refine bset ?_ (by first | omega | (simp <;> omega)) _))
  have hLn := LB.len ((HhZ.out.below hst0) : LB _ _ mz _ _)
  refine wpList_copy (.tmp 93) (.tmp 94) _ _ _ _ rfl rfl (by first | rfl | (rw [size_alloc]; rfl) | (rw [size_alloc, size_alloc]; rfl)) rfl ((HhZ.out.below hst0)).1 (by omega) ?_
  intro vcz w12 hO hb
  have hst : Below w11.heap.size w11 w12 := btrans hst0 hb
  replace Kp := Kp.below hb Kp.lt
  replace Ku := Ku.below hb Ku.lt
  replace Kv := Kv.below hb Kv.lt
  replace Ks := Ks.below hb Ks.lt
  replace hbw : Below w.heap.size w w12 := btrans hbw hst
  replace HI1 := Lib.hid (HI1.out.below hst)
  replace HBp := Lib.hid (HBp.out.below hst)
  replace HBb := Lib.hid (HBb.out.below hst)
  replace HhX := Lib.hid (HhX.out.below hst)
  replace Hhcx := Lib.hid (Hhcx.out.below hst)
  replace HhU := Lib.hid (HhU.out.below hst)
  replace Hhcb := Lib.hid (Hhcb.out.below hst)
  replace Hhv := Lib.hid (Hhv.out.below hst)
  replace Hhy := Lib.hid (Hhy.out.below hst)
  replace HhP := Lib.hid (HhP.out.below hst)
  replace HhZ := Lib.hid (HhZ.out.below hst)
  clear hst hst0 hb lKp cKp0 cKp1 cKp2 lKu cKu0 cKu1 cKu2 lKv cKv0 cKv1 cKv2 lKs cKs0 cKs1 cKs2
  obtain ⟨Acz, ccz, rfl, hcz⟩ := hO.lbn hLn
  clear hO hLn
  have Hhcz := Lib.hid hcz
  clear hcz
  have lKp := Kp.lt
  have cKp0 := Kp.cell 0
  have cKp1 := Kp.cell 1
  have cKp2 := Kp.cell 2
  have lKu := Ku.lt
  have cKu0 := Ku.cell 0
  have cKu1 := Ku.cell 1
  have cKu2 := Ku.cell 2
  have lKv := Kv.lt
  have cKv0 := Kv.cell 0
  have cKv1 := Kv.cell 1
  have cKv2 := Kv.cell 2
  have lKs := Ks.lt
  have cKs0 := Ks.cell 0
  have cKs1 := Ks.cell 1
  have cKs2 := Ks.cell 2
  simp only [List.getElem?_toArray, List.getElem?_cons_succ, List.getElem?_cons_zero] at cKp0 cKp1 cKp2 cKu0 cKu1 cKu2 cKv0 cKv1 cKv2 cKs0 cKs1 cKs2
  go_wp2_with fail
  have hst0 : Below w12.heap.size w12 w12 := by (repeat' (first | exact Below.refl _ _ | exact Below.refl _ _ | refine balloc ?_ _ | refine Below.drew ?_ | refine below_drewN ?_ _ | refine bset ?_ (by first | omega | (simp <;> omega)) _))
  refine (HTS.out _ _ _ _ _ hmz1 HLL.out (Hhcz.out.below hst0)).mono ?_
  rintro e_ w13 ⟨Dt, ft, rfl, hT, hb⟩
  have hst : Below w12.heap.size w12 w13 := btrans hst0 hb
  replace Kp := Kp.below hb Kp.lt
  replace Ku := Ku.below hb Ku.lt
  replace Kv := Kv.below hb Kv.lt
  replace Ks := Ks.below hb Ks.lt
  replace hbw : Below w.heap.size w w13 := btrans hbw hst
  replace HI1 := Lib.hid (HI1.out.below hst)
  replace HBp := Lib.hid (HBp.out.below hst)
  replace HBb := Lib.hid (HBb.out.below hst)
  replace HhX := Lib.hid (HhX.out.below hst)
  replace Hhcx := Lib.hid (Hhcx.out.below hst)
  replace HhU := Lib.hid (HhU.out.below hst)
  replace Hhcb := Lib.hid (Hhcb.out.below hst)
  replace Hhv := Lib.hid (Hhv.out.below hst)
  replace Hhy := Lib.hid (Hhy.out.below hst)
  replace HhP := Lib.hid (HhP.out.below hst)
  replace HhZ := Lib.hid (HhZ.out.below hst)
  replace Hhcz := Lib.hid (Hhcz.out.below hst)
  clear hst hst0 hb lKp cKp0 cKp1 cKp2 lKu cKu0 cKu1 cKu2 lKv cKv0 cKv1 cKv2 lKs cKs0 cKs1 cKs2
  have HhT := Lib.hid hT
  clear hT
  have lKp := Kp.lt
  have cKp0 := Kp.cell 0
  have cKp1 := Kp.cell 1
  have cKp2 := Kp.cell 2
  have lKu := Ku.lt
  have cKu0 := Ku.cell 0
  have cKu1 := Ku.cell 1
  have cKu2 := Ku.cell 2
  have lKv := Kv.lt
  have cKv0 := Kv.cell 0
  have cKv1 := Kv.cell 1
  have cKv2 := Kv.cell 2
  have lKs := Ks.lt
  have cKs0 := Ks.cell 0
  have cKs1 := Ks.cell 1
  have cKs2 := Ks.cell 2
  simp only [List.getElem?_toArray, List.getElem?_cons_succ, List.getElem?_cons_zero] at cKp0 cKp1 cKp2 cKu0 cKu1 cKu2 cKv0 cKv1 cKv2 cKs0 cKs1 cKs2
  go_wp2_with fail
  have hst0 : Below w13.heap.size w13 (w13.alloc (.cells #[.int .i64 (W : Int), .int .i64 (H : Int), .slice Dt N ft] 24)) := by (repeat' (first | exact Below.refl _ _ | exact Below.refl _ _ | refine balloc ?_ _ | refine Below.drew ?_ | refine below_drewN ?_ _ | refine bset ?_ (by first | omega | (simp <;> omega)) _))
  refine (lsame_eq _ _ _ _ _ _ _ _ _ _ _ (HhP.out.below hst0) (HhT.out.below hst0)).mono ?_
  rintro e_ w14 ⟨rfl, hb⟩
  have hst : Below w13.heap.size w13 w14 := btrans hst0 hb
  replace Kp := (Kp.alloc (.cells #[.int .i64 (W : Int), .int .i64 (H : Int), .slice Dt N ft] 24))
  replace Ku := (Ku.alloc (.cells #[.int .i64 (W : Int), .int .i64 (H : Int), .slice Dt N ft] 24))
  replace Kv := (Kv.alloc (.cells #[.int .i64 (W : Int), .int .i64 (H : Int), .slice Dt N ft] 24))
  replace Ks := (Ks.alloc (.cells #[.int .i64 (W : Int), .int .i64 (H : Int), .slice Dt N ft] 24))
  have Kt := (Blk.new w13 24 #[.int .i64 (W : Int), .int .i64 (H : Int), .slice Dt N ft])
  replace Kp := Kp.below hb Kp.lt
  replace Ku := Ku.below hb Ku.lt
  replace Kv := Kv.below hb Kv.lt
  replace Ks := Ks.below hb Ks.lt
  replace Kt := Kt.below hb Kt.lt
  replace hbw : Below w.heap.size w w14 := btrans hbw hst
  replace HI1 := Lib.hid (HI1.out.below hst)
  replace HBp := Lib.hid (HBp.out.below hst)
  replace HBb := Lib.hid (HBb.out.below hst)
  replace HhX := Lib.hid (HhX.out.below hst)
  replace Hhcx := Lib.hid (Hhcx.out.below hst)
  replace HhU := Lib.hid (HhU.out.below hst)
  replace Hhcb := Lib.hid (Hhcb.out.below hst)
  replace Hhv := Lib.hid (Hhv.out.below hst)
  replace Hhy := Lib.hid (Hhy.out.below hst)
  replace HhP := Lib.hid (HhP.out.below hst)
  replace HhZ := Lib.hid (HhZ.out.below hst)
  replace Hhcz := Lib.hid (Hhcz.out.below hst)
  replace HhT := Lib.hid (HhT.out.below hst)
  clear hst hst0 hb lKp cKp0 cKp1 cKp2 lKu cKu0 cKu1 cKu2 lKv cKv0 cKv1 cKv2 lKs cKs0 cKs1 cKs2
  have lKp := Kp.lt
  have cKp0 := Kp.cell 0
  have cKp1 := Kp.cell 1
  have cKp2 := Kp.cell 2
  have lKu := Ku.lt
  have cKu0 := Ku.cell 0
  have cKu1 := Ku.cell 1
  have cKu2 := Ku.cell 2
  have lKv := Kv.lt
  have cKv0 := Kv.cell 0
  have cKv1 := Kv.cell 1
  have cKv2 := Kv.cell 2
  have lKs := Ks.lt
  have cKs0 := Ks.cell 0
  have cKs1 := Ks.cell 1
  have cKs2 := Ks.cell 2
  have lKt := Kt.lt
  have cKt0 := Kt.cell 0
  have cKt1 := Kt.cell 1
  have cKt2 := Kt.cell 2
  simp only [List.getElem?_toArray, List.getElem?_cons_succ, List.getElem?_cons_zero] at cKp0 cKp1 cKp2 cKu0 cKu1 cKu2 cKv0 cKv1 cKv2 cKs0 cKs1 cKs2 cKt0 cKt1 cKt2
  simp only [decide_true]
  go_wp2_with fail
  have hst0 : Below w14.heap.size w14 w14 := by (repeat' (first | exact Below.refl _ _ | exact Below.refl _ _ | refine balloc ?_ _ | refine Below.drew ?_ | refine below_drewN ?_ _ | refine bset ?_ (by first | omega | (simp <;> omega)) _))
  refine (HMY.out _).mono ?_
  rintro e_ w15 ⟨rfl, hb⟩
  have hst : Below w14.heap.size w14 w15 := btrans hst0 hb
  replace Kp := Kp.below hb Kp.lt
  replace Ku := Ku.below hb Ku.lt
  replace Kv := Kv.below hb Kv.lt
  replace Ks := Ks.below hb Ks.lt
  replace Kt := Kt.below hb Kt.lt
  replace hbw : Below w.heap.size w w15 := btrans hbw hst
  replace HI1 := Lib.hid (HI1.out.below hst)
  replace HBp := Lib.hid (HBp.out.below hst)
  replace HBb := Lib.hid (HBb.out.below hst)
  replace HhX := Lib.hid (HhX.out.below hst)
  replace Hhcx := Lib.hid (Hhcx.out.below hst)
  replace HhU := Lib.hid (HhU.out.below hst)
  replace Hhcb := Lib.hid (Hhcb.out.below hst)
  replace Hhv := Lib.hid (Hhv.out.below hst)
  replace Hhy := Lib.hid (Hhy.out.below hst)
  replace HhP := Lib.hid (HhP.out.below hst)
  replace HhZ := Lib.hid (HhZ.out.below hst)
  replace Hhcz := Lib.hid (Hhcz.out.below hst)
  replace HhT := Lib.hid (HhT.out.below hst)
  clear hst hst0 hb lKp cKp0 cKp1 cKp2 lKu cKu0 cKu1 cKu2 lKv cKv0 cKv1 cKv2 lKs cKs0 cKs1 cKs2 lKt cKt0 cKt1 cKt2
  have lKp := Kp.lt
  have cKp0 := Kp.cell 0
  have cKp1 := Kp.cell 1
  have cKp2 := Kp.cell 2
  have lKu := Ku.lt
  have cKu0 := Ku.cell 0
  have cKu1 := Ku.cell 1
  have cKu2 := Ku.cell 2
  have lKv := Kv.lt
  have cKv0 := Kv.cell 0
  have cKv1 := Kv.cell 1
  have cKv2 := Kv.cell 2
  have lKs := Ks.lt
  have cKs0 := Ks.cell 0
  have cKs1 := Ks.cell 1
  have cKs2 := Ks.cell 2
  have lKt := Kt.lt
  have cKt0 := Kt.cell 0
  have cKt1 := Kt.cell 1
  have cKt2 := Kt.cell 2
  simp only [List.getElem?_toArray, List.getElem?_cons_succ, List.getElem?_cons_zero] at cKp0 cKp1 cKp2 cKu0 cKu1 cKu2 cKv0 cKv1 cKv2 cKs0 cKs1 cKs2 cKt0 cKt1 cKt2
  go_wp2_with fail
  go_ret
  exact ⟨by first | rfl | (simp; done), by (repeat' (first | exact hbw | exact Below.refl _ _ | refine balloc ?_ _ | refine Below.drew ?_ | refine below_drewN ?_ _ | refine bset ?_ (by first | omega | (simp <;> omega)) _))⟩
set_option maxRecDepth 100000 in
set_option maxHeartbeats 6400000 in
theorem back_not_none (pW pH : Int) (pA : Option Addr) (np cp : Nat) (lp : List UInt8) (bA : Option Addr) (nb cb : Nat) (lb : List UInt8) (A1 : Option Addr) (n1 c1 : Nat) (ns1 : Nat → Int) (x y : Int) (w : World) (hpW : -9223372036854775808 ≤ pW ∧ pW ≤ 9223372036854775807) (hpH : -9223372036854775808 ≤ pH ∧ pH ≤ 9223372036854775807) (hrp : Bytes w pA np cp lp) (hnp : np ≤ 9223372036854775807) (hrb : Bytes w bA nb cb lb) (hnb : nb ≤ 9223372036854775807) (hr1 : Ints w A1 n1 c1 ns1) (hn1 : n1 ≤ 9223372036854775807) (_hx : -9223372036854775808 ≤ x ∧ x ≤ 9223372036854775807) (_hy : -9223372036854775808 ≤ y ∧ y ≤ 9223372036854775807) (h1 : np ≤ 15000) (h2 : nb ≤ 15000) (hm : ik.mayB pW pH np = false) (er : Int) (he : er ≠ 0) (hte : (12356 < nb ∧ er = 5) ∨ (nb ≤ 12356 ∧ er ≠ 0 ∧ (takeB lb).2.2.2.2 = er)) :
    Calls Try.prog 7 #[.agg #[.int .i64 pW, .int .i64 pH, .slice pA np cp], .slice bA nb cb, .slice A1 n1 c1, .int .i64 x, .int .i64 y] w fun ed w' => ed = .returned (.bool true) ∧ Below w.heap.size w w' := by
  have HPN := Lib.hid (fun W' => lput_no pW pH pA np cp W' hnp hm)
  have HTN := Lib.hid (fun A c W' hb => ltake_none A nb c lb W' hb er hte)
  have he0 : (er == 0) = false := by simpa using he
  clear he hte
  have d1 : decide ((15000 : Int) < (np : Int)) = false := by simp; omega
  have d2 : decide ((15000 : Int) < (nb : Int)) = false := by simp; omega
  obtain ⟨W, hW, hW2, hxW, hx0, hx1⟩ := side_fix x 20 (by decide) (by decide)
  obtain ⟨H, hH, hH2, hyH, hy0, hy1⟩ := side_fix y 20 (by decide) (by decide)
  have hPX := fun W => place_any x 20 W (by decide) (by decide)
  have hPY := fun W => place_any y 20 W (by decide) (by decide)
  obtain ⟨zx, hzx⟩ : ∃ z, x % 20 = z := ⟨_, rfl⟩
  obtain ⟨zy, hzy⟩ : ∃ z, y % 20 = z := ⟨_, rfl⟩
  rw [hzx] at hPX hxW hx0 hx1
  rw [hzy] at hPY hyH hy0 hy1
  have HXW := Lib.hid hxW
  have HYH := Lib.hid hyH
  have HPX := Lib.hid hPX
  have HPY := Lib.hid hPY
  obtain ⟨N, hN⟩ : ∃ N, N = 3 * (W * H) := ⟨_, rfl⟩
  have hN12 : N ≤ 12288 := by rw [hN]; exact (page_size hW hH).2
  have HPG := Lib.hid (fun W' h => lpage_any A1 n1 c1 ns1 W H N W' h hn1 hW hH hN)
  have HPS := Lib.hid (fun A c l W' hb => lput_any W H N c A l W' hW hH hN hb)
  have HTS := Lib.hid (fun A m c l W' (hm : m ≤ 12356) (hl : l.length = N) hb => ltake_ok A m c (putL W H l) W' hm hb W H l N (takeB_put hW hH l (by rw [hl, hN, three_mul])) hl)
  have HMY := Lib.hid (fun W' => ik.may_any pW pH pA np cp W' hnp)
  have HI1 := Lib.hid hr1
  have HBp := Lib.hid hrp
  have HBb := Lib.hid hrb
  have HN := Lib.hid hN
  have HX0 := Lib.hid (And.intro hx0 hx1)
  have HY0 := Lib.hid (And.intro hy0 hy1)
  have H15 := Lib.hid (And.intro h1 h2)
  clear hxW hyH hPX hPY hzx hzy hN hr1 hn1 _hx _hy hW2 hH2 hpW hpH hrp hnp hrb hnb hx0 hx1 hy0 hy1
  rw [hm] at HMY
  clear hm h1 h2
  go_enter Try.func7, Try.ntmps7
  go_wp2_with fail
  have hst0 : Below w.heap.size w (w.alloc (.cells #[.int .i64 pW, .int .i64 pH, .slice pA np cp] 24)) := by (repeat' (first | exact Below.refl _ _ | exact Below.refl _ _ | refine balloc ?_ _ | refine Below.drew ?_ | refine below_drewN ?_ _ | refine bset ?_ (by first | omega | (simp <;> omega)) _))
  refine (lknown_any _).mono ?_
  rintro e_ w1 ⟨rfl, hb⟩
  have hst : Below w.heap.size w w1 := btrans hst0 hb
  have Kp := (Blk.new w 24 #[.int .i64 pW, .int .i64 pH, .slice pA np cp])
  replace Kp := Kp.below hb Kp.lt
  have hbw : Below w.heap.size w w1 := hst
  replace HI1 := Lib.hid (HI1.out.below hst)
  replace HBp := Lib.hid (HBp.out.below hst)
  replace HBb := Lib.hid (HBb.out.below hst)
  clear hst hst0 hb 
  have lKp := Kp.lt
  have cKp0 := Kp.cell 0
  have cKp1 := Kp.cell 1
  have cKp2 := Kp.cell 2
  simp only [List.getElem?_toArray, List.getElem?_cons_succ, List.getElem?_cons_zero] at cKp0 cKp1 cKp2
  go_wp2_with fail
  have hst0 : Below w1.heap.size w1 w1 := by (repeat' (first | exact Below.refl _ _ | exact Below.refl _ _ | refine balloc ?_ _ | refine Below.drew ?_ | refine below_drewN ?_ _ | refine bset ?_ (by first | omega | (simp <;> omega)) _))
  refine (HPN.out _).mono ?_
  rintro e_ w2 ⟨rfl, hb⟩
  have hst : Below w1.heap.size w1 w2 := btrans hst0 hb
  replace Kp := Kp.below hb Kp.lt
  replace hbw : Below w.heap.size w w2 := btrans hbw hst
  replace HI1 := Lib.hid (HI1.out.below hst)
  replace HBp := Lib.hid (HBp.out.below hst)
  replace HBb := Lib.hid (HBb.out.below hst)
  clear hst hst0 hb lKp cKp0 cKp1 cKp2
  have lKp := Kp.lt
  have cKp0 := Kp.cell 0
  have cKp1 := Kp.cell 1
  have cKp2 := Kp.cell 2
  simp only [List.getElem?_toArray, List.getElem?_cons_succ, List.getElem?_cons_zero] at cKp0 cKp1 cKp2
  clear d1
  have hb15 := H15.out.2
  go_wp2_with (at_builtin; refine Held.of ?_)
  unfold Held
  have hst0 : Below w2.heap.size w2 w2 := by (repeat' (first | exact Below.refl _ _ | exact Below.refl _ _ | refine balloc ?_ _ | refine Below.drew ?_ | refine below_drewN ?_ _ | refine bset ?_ (by first | omega | (simp <;> omega)) _))
  have hLn := ((HBb.out.below hst0)).1
  refine wpList_copy (.tmp 58) (.tmp 59) _ _ _ _ rfl rfl (by first | rfl | (rw [size_alloc]; rfl) | (rw [size_alloc, size_alloc]; rfl)) rfl ((HBb.out.below hst0)) (by omega) ?_
  intro vcb w3 hO hb
  have hst : Below w2.heap.size w2 w3 := btrans hst0 hb
  replace Kp := Kp.below hb Kp.lt
  replace hbw : Below w.heap.size w w3 := btrans hbw hst
  replace HI1 := Lib.hid (HI1.out.below hst)
  replace HBp := Lib.hid (HBp.out.below hst)
  replace HBb := Lib.hid (HBb.out.below hst)
  clear hst hst0 hb lKp cKp0 cKp1 cKp2
  obtain ⟨Acb, ccb, rfl, hcb⟩ := hO.lbn hLn
  clear hO hLn
  have Hhcb := Lib.hid hcb
  clear hcb
  have lKp := Kp.lt
  have cKp0 := Kp.cell 0
  have cKp1 := Kp.cell 1
  have cKp2 := Kp.cell 2
  simp only [List.getElem?_toArray, List.getElem?_cons_succ, List.getElem?_cons_zero] at cKp0 cKp1 cKp2
  clear hb15
  go_wp2_with fail
  have hst0 : Below w3.heap.size w3 w3 := by (repeat' (first | exact Below.refl _ _ | exact Below.refl _ _ | refine balloc ?_ _ | refine Below.drew ?_ | refine below_drewN ?_ _ | refine bset ?_ (by first | omega | (simp <;> omega)) _))
  refine (HTN.out _ _ _ (Hhcb.out.below hst0)).mono ?_
  rintro e_ w4 ⟨rfl, hb⟩
  have hst : Below w3.heap.size w3 w4 := btrans hst0 hb
  replace Kp := Kp.below hb Kp.lt
  replace hbw : Below w.heap.size w w4 := btrans hbw hst
  replace HI1 := Lib.hid (HI1.out.below hst)
  replace HBp := Lib.hid (HBp.out.below hst)
  replace HBb := Lib.hid (HBb.out.below hst)
  replace Hhcb := Lib.hid (Hhcb.out.below hst)
  clear hst hst0 hb lKp cKp0 cKp1 cKp2
  have lKp := Kp.lt
  have cKp0 := Kp.cell 0
  have cKp1 := Kp.cell 1
  have cKp2 := Kp.cell 2
  simp only [List.getElem?_toArray, List.getElem?_cons_succ, List.getElem?_cons_zero] at cKp0 cKp1 cKp2
  clear d2
  have hx0 := HX0.out.1
  have hx1 := HX0.out.2
  have hy0 := HY0.out.1
  have hy1 := HY0.out.2
  go_wp2_with fail
  refine (HPX.out _).mono ?_
  rintro e_ w_ ⟨rfl, rfl⟩
  go_wp2_with fail
  refine (HPY.out _).mono ?_
  rintro e_ w_ ⟨rfl, rfl⟩
  go_wp2_with fail
  rw [HXW.out, HYH.out]
  clear hx0 hx1 hy0 hy1
  have hst0 : Below w4.heap.size w4 (w4.alloc (.cells #[.int .i64 0, .int .i64 0, .slice none 0 0] 24)) := by (repeat' (first | exact Below.refl _ _ | exact Below.refl _ _ | refine balloc ?_ _ | refine Below.drew ?_ | refine below_drewN ?_ _ | refine bset ?_ (by first | omega | (simp <;> omega)) _))
  refine (HPG.out _ (HI1.out.below hst0)).mono ?_
  rintro e_ w5 ⟨gp, B, rfl, hP0, hb⟩
  have hst : Below w4.heap.size w4 w5 := btrans hst0 hb
  replace Kp := (Kp.alloc (.cells #[.int .i64 0, .int .i64 0, .slice none 0 0] 24))
  have Kv := (Blk.new w4 24 #[.int .i64 0, .int .i64 0, .slice none 0 0])
  replace Kp := Kp.below hb Kp.lt
  replace Kv := Kv.below hb Kv.lt
  replace hbw : Below w.heap.size w w5 := btrans hbw hst
  replace HI1 := Lib.hid (HI1.out.below hst)
  replace HBp := Lib.hid (HBp.out.below hst)
  replace HBb := Lib.hid (HBb.out.below hst)
  replace Hhcb := Lib.hid (Hhcb.out.below hst)
  clear hst hst0 hb lKp cKp0 cKp1 cKp2
  have lKp := Kp.lt
  have cKp0 := Kp.cell 0
  have cKp1 := Kp.cell 1
  have cKp2 := Kp.cell 2
  have lKv := Kv.lt
  have cKv0 := Kv.cell 0
  have cKv1 := Kv.cell 1
  have cKv2 := Kv.cell 2
  simp only [List.getElem?_toArray, List.getElem?_cons_succ, List.getElem?_cons_zero] at cKp0 cKp1 cKp2 cKv0 cKv1 cKv2
  obtain ⟨l, hl⟩ : ∃ l, listB N B = l := ⟨_, rfl⟩
  have hP := lf.Pg.lb hP0
  rw [hl] at hP
  have HLL := Lib.hid (show l.length = N from hP.len)
  clear hP0 hl
  have HhP := Lib.hid hP
  clear hP
  go_wp2_with fail
  have hst0 : Below w5.heap.size w5 (w5.alloc (.cells #[.int .i64 (W : Int), .int .i64 (H : Int), .slice (some ⟨gp, 0, none⟩) N N] 24)) := by (repeat' (first | exact Below.refl _ _ | exact Below.refl _ _ | refine balloc ?_ _ | refine Below.drew ?_ | refine below_drewN ?_ _ | refine bset ?_ (by first | omega | (simp <;> omega)) _))
  refine (HPS.out _ _ _ _ (HhP.out.below hst0)).mono ?_
  rintro e_ w6 ⟨Dz, mz, dz, rfl, hZ, hmz, hb⟩
  have hst : Below w5.heap.size w5 w6 := btrans hst0 hb
  replace Kp := (Kp.alloc (.cells #[.int .i64 (W : Int), .int .i64 (H : Int), .slice (some ⟨gp, 0, none⟩) N N] 24))
  replace Kv := (Kv.alloc (.cells #[.int .i64 (W : Int), .int .i64 (H : Int), .slice (some ⟨gp, 0, none⟩) N N] 24))
  have Ks := (Blk.new w5 24 #[.int .i64 (W : Int), .int .i64 (H : Int), .slice (some ⟨gp, 0, none⟩) N N])
  replace Kp := Kp.below hb Kp.lt
  replace Kv := Kv.below hb Kv.lt
  replace Ks := Ks.below hb Ks.lt
  replace hbw : Below w.heap.size w w6 := btrans hbw hst
  replace HI1 := Lib.hid (HI1.out.below hst)
  replace HBp := Lib.hid (HBp.out.below hst)
  replace HBb := Lib.hid (HBb.out.below hst)
  replace Hhcb := Lib.hid (Hhcb.out.below hst)
  replace HhP := Lib.hid (HhP.out.below hst)
  clear hst hst0 hb lKp cKp0 cKp1 cKp2 lKv cKv0 cKv1 cKv2
  have HhZ := Lib.hid hZ
  clear hZ
  have lKp := Kp.lt
  have cKp0 := Kp.cell 0
  have cKp1 := Kp.cell 1
  have cKp2 := Kp.cell 2
  have lKv := Kv.lt
  have cKv0 := Kv.cell 0
  have cKv1 := Kv.cell 1
  have cKv2 := Kv.cell 2
  have lKs := Ks.lt
  have cKs0 := Ks.cell 0
  have cKs1 := Ks.cell 1
  have cKs2 := Ks.cell 2
  simp only [List.getElem?_toArray, List.getElem?_cons_succ, List.getElem?_cons_zero] at cKp0 cKp1 cKp2 cKv0 cKv1 cKv2 cKs0 cKs1 cKs2
  obtain ⟨hmz0, hmz1⟩ := hmz
  go_wp2_with (at_builtin; refine Held.of ?_)
  unfold Held
  have hst0 : Below w6.heap.size w6 w6 := by (repeat' (first | exact Below.refl _ _ | exact Below.refl _ _ | refine balloc ?_ _ | refine Below.drew ?_ | refine below_drewN ?_ _ | refine bset ?_ (by first | omega | (simp <;> omega)) _))
  have hLn := LB.len ((HhZ.out.below hst0) : LB _ _ mz _ _)
  refine wpList_copy (.tmp 93) (.tmp 94) _ _ _ _ rfl rfl (by first | rfl | (rw [size_alloc]; rfl) | (rw [size_alloc, size_alloc]; rfl)) rfl ((HhZ.out.below hst0)).1 (by omega) ?_
  intro vcz w7 hO hb
  have hst : Below w6.heap.size w6 w7 := btrans hst0 hb
  replace Kp := Kp.below hb Kp.lt
  replace Kv := Kv.below hb Kv.lt
  replace Ks := Ks.below hb Ks.lt
  replace hbw : Below w.heap.size w w7 := btrans hbw hst
  replace HI1 := Lib.hid (HI1.out.below hst)
  replace HBp := Lib.hid (HBp.out.below hst)
  replace HBb := Lib.hid (HBb.out.below hst)
  replace Hhcb := Lib.hid (Hhcb.out.below hst)
  replace HhP := Lib.hid (HhP.out.below hst)
  replace HhZ := Lib.hid (HhZ.out.below hst)
  clear hst hst0 hb lKp cKp0 cKp1 cKp2 lKv cKv0 cKv1 cKv2 lKs cKs0 cKs1 cKs2
  obtain ⟨Acz, ccz, rfl, hcz⟩ := hO.lbn hLn
  clear hO hLn
  have Hhcz := Lib.hid hcz
  clear hcz
  have lKp := Kp.lt
  have cKp0 := Kp.cell 0
  have cKp1 := Kp.cell 1
  have cKp2 := Kp.cell 2
  have lKv := Kv.lt
  have cKv0 := Kv.cell 0
  have cKv1 := Kv.cell 1
  have cKv2 := Kv.cell 2
  have lKs := Ks.lt
  have cKs0 := Ks.cell 0
  have cKs1 := Ks.cell 1
  have cKs2 := Ks.cell 2
  simp only [List.getElem?_toArray, List.getElem?_cons_succ, List.getElem?_cons_zero] at cKp0 cKp1 cKp2 cKv0 cKv1 cKv2 cKs0 cKs1 cKs2
  go_wp2_with fail
  have hst0 : Below w7.heap.size w7 w7 := by (repeat' (first | exact Below.refl _ _ | exact Below.refl _ _ | refine balloc ?_ _ | refine Below.drew ?_ | refine below_drewN ?_ _ | refine bset ?_ (by first | omega | (simp <;> omega)) _))
  refine (HTS.out _ _ _ _ _ hmz1 HLL.out (Hhcz.out.below hst0)).mono ?_
  rintro e_ w8 ⟨Dt, ft, rfl, hT, hb⟩
  have hst : Below w7.heap.size w7 w8 := btrans hst0 hb
  replace Kp := Kp.below hb Kp.lt
  replace Kv := Kv.below hb Kv.lt
  replace Ks := Ks.below hb Ks.lt
  replace hbw : Below w.heap.size w w8 := btrans hbw hst
  replace HI1 := Lib.hid (HI1.out.below hst)
  replace HBp := Lib.hid (HBp.out.below hst)
  replace HBb := Lib.hid (HBb.out.below hst)
  replace Hhcb := Lib.hid (Hhcb.out.below hst)
  replace HhP := Lib.hid (HhP.out.below hst)
  replace HhZ := Lib.hid (HhZ.out.below hst)
  replace Hhcz := Lib.hid (Hhcz.out.below hst)
  clear hst hst0 hb lKp cKp0 cKp1 cKp2 lKv cKv0 cKv1 cKv2 lKs cKs0 cKs1 cKs2
  have HhT := Lib.hid hT
  clear hT
  have lKp := Kp.lt
  have cKp0 := Kp.cell 0
  have cKp1 := Kp.cell 1
  have cKp2 := Kp.cell 2
  have lKv := Kv.lt
  have cKv0 := Kv.cell 0
  have cKv1 := Kv.cell 1
  have cKv2 := Kv.cell 2
  have lKs := Ks.lt
  have cKs0 := Ks.cell 0
  have cKs1 := Ks.cell 1
  have cKs2 := Ks.cell 2
  simp only [List.getElem?_toArray, List.getElem?_cons_succ, List.getElem?_cons_zero] at cKp0 cKp1 cKp2 cKv0 cKv1 cKv2 cKs0 cKs1 cKs2
  go_wp2_with fail
  have hst0 : Below w8.heap.size w8 (w8.alloc (.cells #[.int .i64 (W : Int), .int .i64 (H : Int), .slice Dt N ft] 24)) := by (repeat' (first | exact Below.refl _ _ | exact Below.refl _ _ | refine balloc ?_ _ | refine Below.drew ?_ | refine below_drewN ?_ _ | refine bset ?_ (by first | omega | (simp <;> omega)) _))
  refine (lsame_eq _ _ _ _ _ _ _ _ _ _ _ (HhP.out.below hst0) (HhT.out.below hst0)).mono ?_
  rintro e_ w9 ⟨rfl, hb⟩
  have hst : Below w8.heap.size w8 w9 := btrans hst0 hb
  replace Kp := (Kp.alloc (.cells #[.int .i64 (W : Int), .int .i64 (H : Int), .slice Dt N ft] 24))
  replace Kv := (Kv.alloc (.cells #[.int .i64 (W : Int), .int .i64 (H : Int), .slice Dt N ft] 24))
  replace Ks := (Ks.alloc (.cells #[.int .i64 (W : Int), .int .i64 (H : Int), .slice Dt N ft] 24))
  have Kt := (Blk.new w8 24 #[.int .i64 (W : Int), .int .i64 (H : Int), .slice Dt N ft])
  replace Kp := Kp.below hb Kp.lt
  replace Kv := Kv.below hb Kv.lt
  replace Ks := Ks.below hb Ks.lt
  replace Kt := Kt.below hb Kt.lt
  replace hbw : Below w.heap.size w w9 := btrans hbw hst
  replace HI1 := Lib.hid (HI1.out.below hst)
  replace HBp := Lib.hid (HBp.out.below hst)
  replace HBb := Lib.hid (HBb.out.below hst)
  replace Hhcb := Lib.hid (Hhcb.out.below hst)
  replace HhP := Lib.hid (HhP.out.below hst)
  replace HhZ := Lib.hid (HhZ.out.below hst)
  replace Hhcz := Lib.hid (Hhcz.out.below hst)
  replace HhT := Lib.hid (HhT.out.below hst)
  clear hst hst0 hb lKp cKp0 cKp1 cKp2 lKv cKv0 cKv1 cKv2 lKs cKs0 cKs1 cKs2
  have lKp := Kp.lt
  have cKp0 := Kp.cell 0
  have cKp1 := Kp.cell 1
  have cKp2 := Kp.cell 2
  have lKv := Kv.lt
  have cKv0 := Kv.cell 0
  have cKv1 := Kv.cell 1
  have cKv2 := Kv.cell 2
  have lKs := Ks.lt
  have cKs0 := Ks.cell 0
  have cKs1 := Ks.cell 1
  have cKs2 := Ks.cell 2
  have lKt := Kt.lt
  have cKt0 := Kt.cell 0
  have cKt1 := Kt.cell 1
  have cKt2 := Kt.cell 2
  simp only [List.getElem?_toArray, List.getElem?_cons_succ, List.getElem?_cons_zero] at cKp0 cKp1 cKp2 cKv0 cKv1 cKv2 cKs0 cKs1 cKs2 cKt0 cKt1 cKt2
  simp only [decide_true]
  go_wp2_with fail
  have hst0 : Below w9.heap.size w9 w9 := by (repeat' (first | exact Below.refl _ _ | exact Below.refl _ _ | refine balloc ?_ _ | refine Below.drew ?_ | refine below_drewN ?_ _ | refine bset ?_ (by first | omega | (simp <;> omega)) _))
  refine (HMY.out _).mono ?_
  rintro e_ w10 ⟨rfl, hb⟩
  have hst : Below w9.heap.size w9 w10 := btrans hst0 hb
  replace Kp := Kp.below hb Kp.lt
  replace Kv := Kv.below hb Kv.lt
  replace Ks := Ks.below hb Ks.lt
  replace Kt := Kt.below hb Kt.lt
  replace hbw : Below w.heap.size w w10 := btrans hbw hst
  replace HI1 := Lib.hid (HI1.out.below hst)
  replace HBp := Lib.hid (HBp.out.below hst)
  replace HBb := Lib.hid (HBb.out.below hst)
  replace Hhcb := Lib.hid (Hhcb.out.below hst)
  replace HhP := Lib.hid (HhP.out.below hst)
  replace HhZ := Lib.hid (HhZ.out.below hst)
  replace Hhcz := Lib.hid (Hhcz.out.below hst)
  replace HhT := Lib.hid (HhT.out.below hst)
  clear hst hst0 hb lKp cKp0 cKp1 cKp2 lKv cKv0 cKv1 cKv2 lKs cKs0 cKs1 cKs2 lKt cKt0 cKt1 cKt2
  have lKp := Kp.lt
  have cKp0 := Kp.cell 0
  have cKp1 := Kp.cell 1
  have cKp2 := Kp.cell 2
  have lKv := Kv.lt
  have cKv0 := Kv.cell 0
  have cKv1 := Kv.cell 1
  have cKv2 := Kv.cell 2
  have lKs := Ks.lt
  have cKs0 := Ks.cell 0
  have cKs1 := Ks.cell 1
  have cKs2 := Ks.cell 2
  have lKt := Kt.lt
  have cKt0 := Kt.cell 0
  have cKt1 := Kt.cell 1
  have cKt2 := Kt.cell 2
  simp only [List.getElem?_toArray, List.getElem?_cons_succ, List.getElem?_cons_zero] at cKp0 cKp1 cKp2 cKv0 cKv1 cKv2 cKs0 cKs1 cKs2 cKt0 cKt1 cKt2
  go_wp2_with fail
  go_ret
  exact ⟨by first | rfl | (simp; done), by (repeat' (first | exact hbw | exact Below.refl _ _ | refine balloc ?_ _ | refine Below.drew ?_ | refine below_drewN ?_ _ | refine bset ?_ (by first | omega | (simp <;> omega)) _))⟩
set_option maxRecDepth 100000 in
set_option maxHeartbeats 6400000 in
theorem back_not_ok (pW pH : Int) (pA : Option Addr) (np cp : Nat) (lp : List UInt8) (bA : Option Addr) (nb cb : Nat) (lb : List UInt8) (A1 : Option Addr) (n1 c1 : Nat) (ns1 : Nat → Int) (x y : Int) (w : World) (hpW : -9223372036854775808 ≤ pW ∧ pW ≤ 9223372036854775807) (hpH : -9223372036854775808 ≤ pH ∧ pH ≤ 9223372036854775807) (hrp : Bytes w pA np cp lp) (hnp : np ≤ 9223372036854775807) (hrb : Bytes w bA nb cb lb) (hnb : nb ≤ 9223372036854775807) (hr1 : Ints w A1 n1 c1 ns1) (hn1 : n1 ≤ 9223372036854775807) (_hx : -9223372036854775808 ≤ x ∧ x ≤ 9223372036854775807) (_hy : -9223372036854775808 ≤ y ∧ y ≤ 9223372036854775807) (h1 : np ≤ 15000) (h2 : nb ≤ 15000) (hm : ik.mayB pW pH np = false) (X Y : Nat) (pix : List UInt8) (hX : 1 ≤ X ∧ X ≤ 64) (hY : 1 ≤ Y ∧ Y ≤ 64) (hpl : pix.length = 3 * (X * Y)) (h12 : nb ≤ 12356) (hte : takeB lb = (X, Y, pix, ([], 0))) (hpu : putL X Y pix = lb) :
    Calls Try.prog 7 #[.agg #[.int .i64 pW, .int .i64 pH, .slice pA np cp], .slice bA nb cb, .slice A1 n1 c1, .int .i64 x, .int .i64 y] w fun ed w' => ed = .returned (.bool true) ∧ Below w.heap.size w w' := by
  have HPN := Lib.hid (fun W' => lput_no pW pH pA np cp W' hnp hm)
  obtain ⟨K, hK⟩ : ∃ K, pix.length = K := ⟨_, rfl⟩
  have HTO := Lib.hid (fun A c W' hb => ltake_ok A nb c lb W' h12 hb X Y pix K hte hK)
  have HPO := Lib.hid (fun A c W' hb => lput_any X Y K c A pix W' hX hY (hK ▸ hpl) hb)
  have HPU := Lib.hid hpu
  have hb0 : 0 < nb := by
    have := putL_len_ge hX hY hpl
    rw [hpu, hrb.1] at this
    omega
  clear hte hpu hK hpl hX hY h12
  have d1 : decide ((15000 : Int) < (np : Int)) = false := by simp; omega
  have d2 : decide ((15000 : Int) < (nb : Int)) = false := by simp; omega
  obtain ⟨W, hW, hW2, hxW, hx0, hx1⟩ := side_fix x 20 (by decide) (by decide)
  obtain ⟨H, hH, hH2, hyH, hy0, hy1⟩ := side_fix y 20 (by decide) (by decide)
  have hPX := fun W => place_any x 20 W (by decide) (by decide)
  have hPY := fun W => place_any y 20 W (by decide) (by decide)
  obtain ⟨zx, hzx⟩ : ∃ z, x % 20 = z := ⟨_, rfl⟩
  obtain ⟨zy, hzy⟩ : ∃ z, y % 20 = z := ⟨_, rfl⟩
  rw [hzx] at hPX hxW hx0 hx1
  rw [hzy] at hPY hyH hy0 hy1
  have HXW := Lib.hid hxW
  have HYH := Lib.hid hyH
  have HPX := Lib.hid hPX
  have HPY := Lib.hid hPY
  obtain ⟨N, hN⟩ : ∃ N, N = 3 * (W * H) := ⟨_, rfl⟩
  have hN12 : N ≤ 12288 := by rw [hN]; exact (page_size hW hH).2
  have HPG := Lib.hid (fun W' h => lpage_any A1 n1 c1 ns1 W H N W' h hn1 hW hH hN)
  have HPS := Lib.hid (fun A c l W' hb => lput_any W H N c A l W' hW hH hN hb)
  have HTS := Lib.hid (fun A m c l W' (hm : m ≤ 12356) (hl : l.length = N) hb => ltake_ok A m c (putL W H l) W' hm hb W H l N (takeB_put hW hH l (by rw [hl, hN, three_mul])) hl)
  have HMY := Lib.hid (fun W' => ik.may_any pW pH pA np cp W' hnp)
  have HI1 := Lib.hid hr1
  have HBp := Lib.hid hrp
  have HBb := Lib.hid hrb
  have HN := Lib.hid hN
  have HX0 := Lib.hid (And.intro hx0 hx1)
  have HY0 := Lib.hid (And.intro hy0 hy1)
  have H15 := Lib.hid (And.intro h1 h2)
  clear hxW hyH hPX hPY hzx hzy hN hr1 hn1 _hx _hy hW2 hH2 hpW hpH hrp hnp hrb hnb hx0 hx1 hy0 hy1
  rw [hm] at HMY
  clear hm h1 h2
  go_enter Try.func7, Try.ntmps7
  go_wp2_with fail
  have hst0 : Below w.heap.size w (w.alloc (.cells #[.int .i64 pW, .int .i64 pH, .slice pA np cp] 24)) := by (repeat' (first | exact Below.refl _ _ | exact Below.refl _ _ | refine balloc ?_ _ | refine Below.drew ?_ | refine below_drewN ?_ _ | refine bset ?_ (by first | omega | (simp <;> omega)) _))
  refine (lknown_any _).mono ?_
  rintro e_ w1 ⟨rfl, hb⟩
  have hst : Below w.heap.size w w1 := btrans hst0 hb
  have Kp := (Blk.new w 24 #[.int .i64 pW, .int .i64 pH, .slice pA np cp])
  replace Kp := Kp.below hb Kp.lt
  have hbw : Below w.heap.size w w1 := hst
  replace HI1 := Lib.hid (HI1.out.below hst)
  replace HBp := Lib.hid (HBp.out.below hst)
  replace HBb := Lib.hid (HBb.out.below hst)
  clear hst hst0 hb 
  have lKp := Kp.lt
  have cKp0 := Kp.cell 0
  have cKp1 := Kp.cell 1
  have cKp2 := Kp.cell 2
  simp only [List.getElem?_toArray, List.getElem?_cons_succ, List.getElem?_cons_zero] at cKp0 cKp1 cKp2
  go_wp2_with fail
  have hst0 : Below w1.heap.size w1 w1 := by (repeat' (first | exact Below.refl _ _ | exact Below.refl _ _ | refine balloc ?_ _ | refine Below.drew ?_ | refine below_drewN ?_ _ | refine bset ?_ (by first | omega | (simp <;> omega)) _))
  refine (HPN.out _).mono ?_
  rintro e_ w2 ⟨rfl, hb⟩
  have hst : Below w1.heap.size w1 w2 := btrans hst0 hb
  replace Kp := Kp.below hb Kp.lt
  replace hbw : Below w.heap.size w w2 := btrans hbw hst
  replace HI1 := Lib.hid (HI1.out.below hst)
  replace HBp := Lib.hid (HBp.out.below hst)
  replace HBb := Lib.hid (HBb.out.below hst)
  clear hst hst0 hb lKp cKp0 cKp1 cKp2
  have lKp := Kp.lt
  have cKp0 := Kp.cell 0
  have cKp1 := Kp.cell 1
  have cKp2 := Kp.cell 2
  simp only [List.getElem?_toArray, List.getElem?_cons_succ, List.getElem?_cons_zero] at cKp0 cKp1 cKp2
  clear d1
  have hb15 := H15.out.2
  go_wp2_with (at_builtin; refine Held.of ?_)
  unfold Held
  have hst0 : Below w2.heap.size w2 w2 := by (repeat' (first | exact Below.refl _ _ | exact Below.refl _ _ | refine balloc ?_ _ | refine Below.drew ?_ | refine below_drewN ?_ _ | refine bset ?_ (by first | omega | (simp <;> omega)) _))
  have hLn := ((HBb.out.below hst0)).1
  refine wpList_copy (.tmp 58) (.tmp 59) _ _ _ _ rfl rfl (by first | rfl | (rw [size_alloc]; rfl) | (rw [size_alloc, size_alloc]; rfl)) rfl ((HBb.out.below hst0)) (by omega) ?_
  intro vcb w3 hO hb
  have hst : Below w2.heap.size w2 w3 := btrans hst0 hb
  replace Kp := Kp.below hb Kp.lt
  replace hbw : Below w.heap.size w w3 := btrans hbw hst
  replace HI1 := Lib.hid (HI1.out.below hst)
  replace HBp := Lib.hid (HBp.out.below hst)
  replace HBb := Lib.hid (HBb.out.below hst)
  clear hst hst0 hb lKp cKp0 cKp1 cKp2
  obtain ⟨Acb, ccb, rfl, hcb⟩ := hO.lbn hLn
  clear hO hLn
  have Hhcb := Lib.hid hcb
  clear hcb
  have lKp := Kp.lt
  have cKp0 := Kp.cell 0
  have cKp1 := Kp.cell 1
  have cKp2 := Kp.cell 2
  simp only [List.getElem?_toArray, List.getElem?_cons_succ, List.getElem?_cons_zero] at cKp0 cKp1 cKp2
  clear hb15
  go_wp2_with fail
  have hst0 : Below w3.heap.size w3 w3 := by (repeat' (first | exact Below.refl _ _ | exact Below.refl _ _ | refine balloc ?_ _ | refine Below.drew ?_ | refine below_drewN ?_ _ | refine bset ?_ (by first | omega | (simp <;> omega)) _))
  refine (HTO.out _ _ _ (Hhcb.out.below hst0)).mono ?_
  rintro e_ w4 ⟨Dv, fv, rfl, hv, hb⟩
  have hst : Below w3.heap.size w3 w4 := btrans hst0 hb
  replace Kp := Kp.below hb Kp.lt
  replace hbw : Below w.heap.size w w4 := btrans hbw hst
  replace HI1 := Lib.hid (HI1.out.below hst)
  replace HBp := Lib.hid (HBp.out.below hst)
  replace HBb := Lib.hid (HBb.out.below hst)
  replace Hhcb := Lib.hid (Hhcb.out.below hst)
  clear hst hst0 hb lKp cKp0 cKp1 cKp2
  have Hhv := Lib.hid hv
  clear hv
  have lKp := Kp.lt
  have cKp0 := Kp.cell 0
  have cKp1 := Kp.cell 1
  have cKp2 := Kp.cell 2
  simp only [List.getElem?_toArray, List.getElem?_cons_succ, List.getElem?_cons_zero] at cKp0 cKp1 cKp2
  go_wp2_with fail
  have hst0 : Below w4.heap.size w4 (w4.alloc (.cells #[.int .i64 (X : Int), .int .i64 (Y : Int), .slice Dv K fv] 24)) := by (repeat' (first | exact Below.refl _ _ | exact Below.refl _ _ | refine balloc ?_ _ | refine Below.drew ?_ | refine below_drewN ?_ _ | refine bset ?_ (by first | omega | (simp <;> omega)) _))
  refine (HPO.out _ _ _ (Hhv.out.below hst0)).mono ?_
  rintro e_ w5 ⟨Dy, my, dy, rfl, hy, hmy, hb⟩
  rw [HPU.out] at hy
  clear hmy
  have hst : Below w4.heap.size w4 w5 := btrans hst0 hb
  replace Kp := (Kp.alloc (.cells #[.int .i64 (X : Int), .int .i64 (Y : Int), .slice Dv K fv] 24))
  have Kv := (Blk.new w4 24 #[.int .i64 (X : Int), .int .i64 (Y : Int), .slice Dv K fv])
  replace Kp := Kp.below hb Kp.lt
  replace Kv := Kv.below hb Kv.lt
  replace hbw : Below w.heap.size w w5 := btrans hbw hst
  replace HI1 := Lib.hid (HI1.out.below hst)
  replace HBp := Lib.hid (HBp.out.below hst)
  replace HBb := Lib.hid (HBb.out.below hst)
  replace Hhcb := Lib.hid (Hhcb.out.below hst)
  replace Hhv := Lib.hid (Hhv.out.below hst)
  clear hst hst0 hb lKp cKp0 cKp1 cKp2
  have Hhy := Lib.hid hy
  clear hy
  have lKp := Kp.lt
  have cKp0 := Kp.cell 0
  have cKp1 := Kp.cell 1
  have cKp2 := Kp.cell 2
  have lKv := Kv.lt
  have cKv0 := Kv.cell 0
  have cKv1 := Kv.cell 1
  have cKv2 := Kv.cell 2
  simp only [List.getElem?_toArray, List.getElem?_cons_succ, List.getElem?_cons_zero] at cKp0 cKp1 cKp2 cKv0 cKv1 cKv2
  go_wp2_with fail
  have hst0 : Below w5.heap.size w5 w5 := by (repeat' (first | exact Below.refl _ _ | exact Below.refl _ _ | refine balloc ?_ _ | refine Below.drew ?_ | refine below_drewN ?_ _ | refine bset ?_ (by first | omega | (simp <;> omega)) _))
  refine (hbytes_any _ _ _ _ _ _ _ _ _ (Hhy.out.below hst0) (LB.of_pos (HBb.out.below hst0) hb0)).mono ?_
  rintro e_ w6 ⟨rfl, hb⟩
  have hst : Below w5.heap.size w5 w6 := btrans hst0 hb
  replace Kp := Kp.below hb Kp.lt
  replace Kv := Kv.below hb Kv.lt
  replace hbw : Below w.heap.size w w6 := btrans hbw hst
  replace HI1 := Lib.hid (HI1.out.below hst)
  replace HBp := Lib.hid (HBp.out.below hst)
  replace HBb := Lib.hid (HBb.out.below hst)
  replace Hhcb := Lib.hid (Hhcb.out.below hst)
  replace Hhv := Lib.hid (Hhv.out.below hst)
  replace Hhy := Lib.hid (Hhy.out.below hst)
  clear hst hst0 hb lKp cKp0 cKp1 cKp2 lKv cKv0 cKv1 cKv2
  have lKp := Kp.lt
  have cKp0 := Kp.cell 0
  have cKp1 := Kp.cell 1
  have cKp2 := Kp.cell 2
  have lKv := Kv.lt
  have cKv0 := Kv.cell 0
  have cKv1 := Kv.cell 1
  have cKv2 := Kv.cell 2
  simp only [List.getElem?_toArray, List.getElem?_cons_succ, List.getElem?_cons_zero] at cKp0 cKp1 cKp2 cKv0 cKv1 cKv2
  simp only [decide_true]
  clear d2
  have hx0 := HX0.out.1
  have hx1 := HX0.out.2
  have hy0 := HY0.out.1
  have hy1 := HY0.out.2
  go_wp2_with fail
  refine (HPX.out _).mono ?_
  rintro e_ w_ ⟨rfl, rfl⟩
  go_wp2_with fail
  refine (HPY.out _).mono ?_
  rintro e_ w_ ⟨rfl, rfl⟩
  go_wp2_with fail
  rw [HXW.out, HYH.out]
  clear hx0 hx1 hy0 hy1
  have hst0 : Below w6.heap.size w6 w6 := by (repeat' (first | exact Below.refl _ _ | exact Below.refl _ _ | refine balloc ?_ _ | refine Below.drew ?_ | refine below_drewN ?_ _ | refine bset ?_ (by first | omega | (simp <;> omega)) _))
  refine (HPG.out _ (HI1.out.below hst0)).mono ?_
  rintro e_ w7 ⟨gp, B, rfl, hP0, hb⟩
  have hst : Below w6.heap.size w6 w7 := btrans hst0 hb
  replace Kp := Kp.below hb Kp.lt
  replace Kv := Kv.below hb Kv.lt
  replace hbw : Below w.heap.size w w7 := btrans hbw hst
  replace HI1 := Lib.hid (HI1.out.below hst)
  replace HBp := Lib.hid (HBp.out.below hst)
  replace HBb := Lib.hid (HBb.out.below hst)
  replace Hhcb := Lib.hid (Hhcb.out.below hst)
  replace Hhv := Lib.hid (Hhv.out.below hst)
  replace Hhy := Lib.hid (Hhy.out.below hst)
  clear hst hst0 hb lKp cKp0 cKp1 cKp2 lKv cKv0 cKv1 cKv2
  have lKp := Kp.lt
  have cKp0 := Kp.cell 0
  have cKp1 := Kp.cell 1
  have cKp2 := Kp.cell 2
  have lKv := Kv.lt
  have cKv0 := Kv.cell 0
  have cKv1 := Kv.cell 1
  have cKv2 := Kv.cell 2
  simp only [List.getElem?_toArray, List.getElem?_cons_succ, List.getElem?_cons_zero] at cKp0 cKp1 cKp2 cKv0 cKv1 cKv2
  obtain ⟨l, hl⟩ : ∃ l, listB N B = l := ⟨_, rfl⟩
  have hP := lf.Pg.lb hP0
  rw [hl] at hP
  have HLL := Lib.hid (show l.length = N from hP.len)
  clear hP0 hl
  have HhP := Lib.hid hP
  clear hP
  go_wp2_with fail
  have hst0 : Below w7.heap.size w7 (w7.alloc (.cells #[.int .i64 (W : Int), .int .i64 (H : Int), .slice (some ⟨gp, 0, none⟩) N N] 24)) := by (repeat' (first | exact Below.refl _ _ | exact Below.refl _ _ | refine balloc ?_ _ | refine Below.drew ?_ | refine below_drewN ?_ _ | refine bset ?_ (by first | omega | (simp <;> omega)) _))
  refine (HPS.out _ _ _ _ (HhP.out.below hst0)).mono ?_
  rintro e_ w8 ⟨Dz, mz, dz, rfl, hZ, hmz, hb⟩
  have hst : Below w7.heap.size w7 w8 := btrans hst0 hb
  replace Kp := (Kp.alloc (.cells #[.int .i64 (W : Int), .int .i64 (H : Int), .slice (some ⟨gp, 0, none⟩) N N] 24))
  replace Kv := (Kv.alloc (.cells #[.int .i64 (W : Int), .int .i64 (H : Int), .slice (some ⟨gp, 0, none⟩) N N] 24))
  have Ks := (Blk.new w7 24 #[.int .i64 (W : Int), .int .i64 (H : Int), .slice (some ⟨gp, 0, none⟩) N N])
  replace Kp := Kp.below hb Kp.lt
  replace Kv := Kv.below hb Kv.lt
  replace Ks := Ks.below hb Ks.lt
  replace hbw : Below w.heap.size w w8 := btrans hbw hst
  replace HI1 := Lib.hid (HI1.out.below hst)
  replace HBp := Lib.hid (HBp.out.below hst)
  replace HBb := Lib.hid (HBb.out.below hst)
  replace Hhcb := Lib.hid (Hhcb.out.below hst)
  replace Hhv := Lib.hid (Hhv.out.below hst)
  replace Hhy := Lib.hid (Hhy.out.below hst)
  replace HhP := Lib.hid (HhP.out.below hst)
  clear hst hst0 hb lKp cKp0 cKp1 cKp2 lKv cKv0 cKv1 cKv2
  have HhZ := Lib.hid hZ
  clear hZ
  have lKp := Kp.lt
  have cKp0 := Kp.cell 0
  have cKp1 := Kp.cell 1
  have cKp2 := Kp.cell 2
  have lKv := Kv.lt
  have cKv0 := Kv.cell 0
  have cKv1 := Kv.cell 1
  have cKv2 := Kv.cell 2
  have lKs := Ks.lt
  have cKs0 := Ks.cell 0
  have cKs1 := Ks.cell 1
  have cKs2 := Ks.cell 2
  simp only [List.getElem?_toArray, List.getElem?_cons_succ, List.getElem?_cons_zero] at cKp0 cKp1 cKp2 cKv0 cKv1 cKv2 cKs0 cKs1 cKs2
  obtain ⟨hmz0, hmz1⟩ := hmz
  go_wp2_with (at_builtin; refine Held.of ?_)
  unfold Held
  have hst0 : Below w8.heap.size w8 w8 := by (repeat' (first | exact Below.refl _ _ | exact Below.refl _ _ | refine balloc ?_ _ | refine Below.drew ?_ | refine below_drewN ?_ _ | refine bset ?_ (by first | omega | (simp <;> omega)) _))
  have hLn := LB.len ((HhZ.out.below hst0) : LB _ _ mz _ _)
  refine wpList_copy (.tmp 93) (.tmp 94) _ _ _ _ rfl rfl (by first | rfl | (rw [size_alloc]; rfl) | (rw [size_alloc, size_alloc]; rfl)) rfl ((HhZ.out.below hst0)).1 (by omega) ?_
  intro vcz w9 hO hb
  have hst : Below w8.heap.size w8 w9 := btrans hst0 hb
  replace Kp := Kp.below hb Kp.lt
  replace Kv := Kv.below hb Kv.lt
  replace Ks := Ks.below hb Ks.lt
  replace hbw : Below w.heap.size w w9 := btrans hbw hst
  replace HI1 := Lib.hid (HI1.out.below hst)
  replace HBp := Lib.hid (HBp.out.below hst)
  replace HBb := Lib.hid (HBb.out.below hst)
  replace Hhcb := Lib.hid (Hhcb.out.below hst)
  replace Hhv := Lib.hid (Hhv.out.below hst)
  replace Hhy := Lib.hid (Hhy.out.below hst)
  replace HhP := Lib.hid (HhP.out.below hst)
  replace HhZ := Lib.hid (HhZ.out.below hst)
  clear hst hst0 hb lKp cKp0 cKp1 cKp2 lKv cKv0 cKv1 cKv2 lKs cKs0 cKs1 cKs2
  obtain ⟨Acz, ccz, rfl, hcz⟩ := hO.lbn hLn
  clear hO hLn
  have Hhcz := Lib.hid hcz
  clear hcz
  have lKp := Kp.lt
  have cKp0 := Kp.cell 0
  have cKp1 := Kp.cell 1
  have cKp2 := Kp.cell 2
  have lKv := Kv.lt
  have cKv0 := Kv.cell 0
  have cKv1 := Kv.cell 1
  have cKv2 := Kv.cell 2
  have lKs := Ks.lt
  have cKs0 := Ks.cell 0
  have cKs1 := Ks.cell 1
  have cKs2 := Ks.cell 2
  simp only [List.getElem?_toArray, List.getElem?_cons_succ, List.getElem?_cons_zero] at cKp0 cKp1 cKp2 cKv0 cKv1 cKv2 cKs0 cKs1 cKs2
  go_wp2_with fail
  have hst0 : Below w9.heap.size w9 w9 := by (repeat' (first | exact Below.refl _ _ | exact Below.refl _ _ | refine balloc ?_ _ | refine Below.drew ?_ | refine below_drewN ?_ _ | refine bset ?_ (by first | omega | (simp <;> omega)) _))
  refine (HTS.out _ _ _ _ _ hmz1 HLL.out (Hhcz.out.below hst0)).mono ?_
  rintro e_ w10 ⟨Dt, ft, rfl, hT, hb⟩
  have hst : Below w9.heap.size w9 w10 := btrans hst0 hb
  replace Kp := Kp.below hb Kp.lt
  replace Kv := Kv.below hb Kv.lt
  replace Ks := Ks.below hb Ks.lt
  replace hbw : Below w.heap.size w w10 := btrans hbw hst
  replace HI1 := Lib.hid (HI1.out.below hst)
  replace HBp := Lib.hid (HBp.out.below hst)
  replace HBb := Lib.hid (HBb.out.below hst)
  replace Hhcb := Lib.hid (Hhcb.out.below hst)
  replace Hhv := Lib.hid (Hhv.out.below hst)
  replace Hhy := Lib.hid (Hhy.out.below hst)
  replace HhP := Lib.hid (HhP.out.below hst)
  replace HhZ := Lib.hid (HhZ.out.below hst)
  replace Hhcz := Lib.hid (Hhcz.out.below hst)
  clear hst hst0 hb lKp cKp0 cKp1 cKp2 lKv cKv0 cKv1 cKv2 lKs cKs0 cKs1 cKs2
  have HhT := Lib.hid hT
  clear hT
  have lKp := Kp.lt
  have cKp0 := Kp.cell 0
  have cKp1 := Kp.cell 1
  have cKp2 := Kp.cell 2
  have lKv := Kv.lt
  have cKv0 := Kv.cell 0
  have cKv1 := Kv.cell 1
  have cKv2 := Kv.cell 2
  have lKs := Ks.lt
  have cKs0 := Ks.cell 0
  have cKs1 := Ks.cell 1
  have cKs2 := Ks.cell 2
  simp only [List.getElem?_toArray, List.getElem?_cons_succ, List.getElem?_cons_zero] at cKp0 cKp1 cKp2 cKv0 cKv1 cKv2 cKs0 cKs1 cKs2
  go_wp2_with fail
  have hst0 : Below w10.heap.size w10 (w10.alloc (.cells #[.int .i64 (W : Int), .int .i64 (H : Int), .slice Dt N ft] 24)) := by (repeat' (first | exact Below.refl _ _ | exact Below.refl _ _ | refine balloc ?_ _ | refine Below.drew ?_ | refine below_drewN ?_ _ | refine bset ?_ (by first | omega | (simp <;> omega)) _))
  refine (lsame_eq _ _ _ _ _ _ _ _ _ _ _ (HhP.out.below hst0) (HhT.out.below hst0)).mono ?_
  rintro e_ w11 ⟨rfl, hb⟩
  have hst : Below w10.heap.size w10 w11 := btrans hst0 hb
  replace Kp := (Kp.alloc (.cells #[.int .i64 (W : Int), .int .i64 (H : Int), .slice Dt N ft] 24))
  replace Kv := (Kv.alloc (.cells #[.int .i64 (W : Int), .int .i64 (H : Int), .slice Dt N ft] 24))
  replace Ks := (Ks.alloc (.cells #[.int .i64 (W : Int), .int .i64 (H : Int), .slice Dt N ft] 24))
  have Kt := (Blk.new w10 24 #[.int .i64 (W : Int), .int .i64 (H : Int), .slice Dt N ft])
  replace Kp := Kp.below hb Kp.lt
  replace Kv := Kv.below hb Kv.lt
  replace Ks := Ks.below hb Ks.lt
  replace Kt := Kt.below hb Kt.lt
  replace hbw : Below w.heap.size w w11 := btrans hbw hst
  replace HI1 := Lib.hid (HI1.out.below hst)
  replace HBp := Lib.hid (HBp.out.below hst)
  replace HBb := Lib.hid (HBb.out.below hst)
  replace Hhcb := Lib.hid (Hhcb.out.below hst)
  replace Hhv := Lib.hid (Hhv.out.below hst)
  replace Hhy := Lib.hid (Hhy.out.below hst)
  replace HhP := Lib.hid (HhP.out.below hst)
  replace HhZ := Lib.hid (HhZ.out.below hst)
  replace Hhcz := Lib.hid (Hhcz.out.below hst)
  replace HhT := Lib.hid (HhT.out.below hst)
  clear hst hst0 hb lKp cKp0 cKp1 cKp2 lKv cKv0 cKv1 cKv2 lKs cKs0 cKs1 cKs2
  have lKp := Kp.lt
  have cKp0 := Kp.cell 0
  have cKp1 := Kp.cell 1
  have cKp2 := Kp.cell 2
  have lKv := Kv.lt
  have cKv0 := Kv.cell 0
  have cKv1 := Kv.cell 1
  have cKv2 := Kv.cell 2
  have lKs := Ks.lt
  have cKs0 := Ks.cell 0
  have cKs1 := Ks.cell 1
  have cKs2 := Ks.cell 2
  have lKt := Kt.lt
  have cKt0 := Kt.cell 0
  have cKt1 := Kt.cell 1
  have cKt2 := Kt.cell 2
  simp only [List.getElem?_toArray, List.getElem?_cons_succ, List.getElem?_cons_zero] at cKp0 cKp1 cKp2 cKv0 cKv1 cKv2 cKs0 cKs1 cKs2 cKt0 cKt1 cKt2
  simp only [decide_true]
  go_wp2_with fail
  have hst0 : Below w11.heap.size w11 w11 := by (repeat' (first | exact Below.refl _ _ | exact Below.refl _ _ | refine balloc ?_ _ | refine Below.drew ?_ | refine below_drewN ?_ _ | refine bset ?_ (by first | omega | (simp <;> omega)) _))
  refine (HMY.out _).mono ?_
  rintro e_ w12 ⟨rfl, hb⟩
  have hst : Below w11.heap.size w11 w12 := btrans hst0 hb
  replace Kp := Kp.below hb Kp.lt
  replace Kv := Kv.below hb Kv.lt
  replace Ks := Ks.below hb Ks.lt
  replace Kt := Kt.below hb Kt.lt
  replace hbw : Below w.heap.size w w12 := btrans hbw hst
  replace HI1 := Lib.hid (HI1.out.below hst)
  replace HBp := Lib.hid (HBp.out.below hst)
  replace HBb := Lib.hid (HBb.out.below hst)
  replace Hhcb := Lib.hid (Hhcb.out.below hst)
  replace Hhv := Lib.hid (Hhv.out.below hst)
  replace Hhy := Lib.hid (Hhy.out.below hst)
  replace HhP := Lib.hid (HhP.out.below hst)
  replace HhZ := Lib.hid (HhZ.out.below hst)
  replace Hhcz := Lib.hid (Hhcz.out.below hst)
  replace HhT := Lib.hid (HhT.out.below hst)
  clear hst hst0 hb lKp cKp0 cKp1 cKp2 lKv cKv0 cKv1 cKv2 lKs cKs0 cKs1 cKs2 lKt cKt0 cKt1 cKt2
  have lKp := Kp.lt
  have cKp0 := Kp.cell 0
  have cKp1 := Kp.cell 1
  have cKp2 := Kp.cell 2
  have lKv := Kv.lt
  have cKv0 := Kv.cell 0
  have cKv1 := Kv.cell 1
  have cKv2 := Kv.cell 2
  have lKs := Ks.lt
  have cKs0 := Ks.cell 0
  have cKs1 := Ks.cell 1
  have cKs2 := Ks.cell 2
  have lKt := Kt.lt
  have cKt0 := Kt.cell 0
  have cKt1 := Kt.cell 1
  have cKt2 := Kt.cell 2
  simp only [List.getElem?_toArray, List.getElem?_cons_succ, List.getElem?_cons_zero] at cKp0 cKp1 cKp2 cKv0 cKv1 cKv2 cKs0 cKs1 cKs2 cKt0 cKt1 cKt2
  go_wp2_with fail
  go_ret
  exact ⟨by first | rfl | (simp; done), by (repeat' (first | exact hbw | exact Below.refl _ _ | refine balloc ?_ _ | refine Below.drew ?_ | refine below_drewN ?_ _ | refine bset ?_ (by first | omega | (simp <;> omega)) _))⟩
theorem back_law (pW pH : Int) (pA : Option Addr) (np cp : Nat) (lp : List UInt8) (bA : Option Addr) (nb cb : Nat) (lb : List UInt8) (A1 : Option Addr) (n1 c1 : Nat) (ns1 : Nat → Int) (x y : Int) (w : World) (hpW : -9223372036854775808 ≤ pW ∧ pW ≤ 9223372036854775807) (hpH : -9223372036854775808 ≤ pH ∧ pH ≤ 9223372036854775807) (hrp : Bytes w pA np cp lp) (hnp : np ≤ 9223372036854775807) (hrb : Bytes w bA nb cb lb) (hnb : nb ≤ 9223372036854775807) (hr1 : Ints w A1 n1 c1 ns1) (hn1 : n1 ≤ 9223372036854775807) (_hx : -9223372036854775808 ≤ x ∧ x ≤ 9223372036854775807) (_hy : -9223372036854775808 ≤ y ∧ y ≤ 9223372036854775807) :
    Calls Try.prog 7 #[.agg #[.int .i64 pW, .int .i64 pH, .slice pA np cp], .slice bA nb cb, .slice A1 n1 c1, .int .i64 x, .int .i64 y] w fun ed w' => ed = .returned (.bool true) ∧ Below w.heap.size w w' := by
  by_cases h1 : 15000 < np
  · exact back_big1 pW pH pA np cp lp bA nb cb lb A1 n1 c1 ns1 x y w hpW hpH hrp hnp hrb hnb hr1 hn1 _hx _hy h1
  · by_cases h2 : 15000 < nb
    · exact back_big2 pW pH pA np cp lp bA nb cb lb A1 n1 c1 ns1 x y w hpW hpH hrp hnp hrb hnb hr1 hn1 _hx _hy (by omega) h2
    · replace h1 : np ≤ 15000 := by omega
      replace h2 : nb ≤ 15000 := by omega
      have hd : (∃ er : Int, er ≠ 0 ∧ ((12356 < nb ∧ er = 5) ∨ (nb ≤ 12356 ∧ er ≠ 0 ∧ (takeB lb).2.2.2.2 = er))) ∨ (∃ X Y pix, (1 ≤ X ∧ X ≤ 64) ∧ (1 ≤ Y ∧ Y ≤ 64) ∧ pix.length = 3 * (X * Y) ∧ nb ≤ 12356 ∧ takeB lb = (X, Y, pix, ([], 0)) ∧ putL X Y pix = lb) := by
        by_cases h3 : 12356 < nb
        · exact .inl ⟨5, by decide, .inl ⟨h3, rfl⟩⟩
        · rcases ltake_cases lb with ⟨X, Y, pix, a, b, c, d, e⟩ | h | h
          · exact .inr ⟨X, Y, pix, a, b, c, by omega, d, e⟩
          · exact .inl ⟨3, by decide, .inr ⟨by omega, by decide, h⟩⟩
          · exact .inl ⟨4, by decide, .inr ⟨by omega, by decide, h⟩⟩
      cases hm : ik.mayB pW pH np with
      | true =>
        rcases hd with ⟨er, he, hte⟩ | ⟨X, Y, pix, a, b, c, d, e, f⟩
        · exact back_may_none pW pH pA np cp lp bA nb cb lb A1 n1 c1 ns1 x y w hpW hpH hrp hnp hrb hnb hr1 hn1 _hx _hy h1 h2 hm er he hte
        · exact back_may_ok pW pH pA np cp lp bA nb cb lb A1 n1 c1 ns1 x y w hpW hpH hrp hnp hrb hnb hr1 hn1 _hx _hy h1 h2 hm X Y pix a b c d e f
      | false =>
        rcases hd with ⟨er, he, hte⟩ | ⟨X, Y, pix, a, b, c, d, e, f⟩
        · exact back_not_none pW pH pA np cp lp bA nb cb lb A1 n1 c1 ns1 x y w hpW hpH hrp hnp hrb hnb hr1 hn1 _hx _hy h1 h2 hm er he hte
        · exact back_not_ok pW pH pA np cp lp bA nb cb lb A1 n1 c1 ns1 x y w hpW hpH hrp hnp hrb hnb hr1 hn1 _hx _hy h1 h2 hm X Y pix a b c d e f
end Go.Proofs.Ytfmkdccpgkbnoaa.lf
