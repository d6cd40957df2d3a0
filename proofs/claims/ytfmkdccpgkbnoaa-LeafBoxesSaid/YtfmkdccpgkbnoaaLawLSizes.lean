/-
  LeafSizes: how many bytes a page has; a page of one colour.
-/
import Derived.Test.YtfmkdccpgkbnoaaLeafZ
namespace Go.Proofs.Ytfmkdccpgkbnoaa.lf
set_option linter.unusedVariables false
set_option linter.unusedSimpArgs false
open Go.RowKit bs rg op ik

theorem new_pg (W H N : Nat) (w : World) (hW : 1 ≤ W ∧ W ≤ 64) (hH : 1 ≤ H ∧ H ≤ 64) (hN : N = 3 * (W * H)) :
    Calls Try.prog 26 #[.int .i64 (W : Int), .int .i64 (H : Int)] w fun e w' => ∃ b o c, e = .returned (.tuple #[.agg #[.int .i64 (W : Int), .int .i64 (H : Int), .slice (some ⟨b, o, none⟩) N c], .int .i64 0]) ∧ Pg w' (some ⟨b, o, none⟩) N c (fun _ => 255) ∧ Below w.heap.size w w' := by
  have hs := page_size hW hH
  refine (new_yes W H w hW hH).mono ?_
  rintro e w' ⟨A, n, c, he, ⟨h1, h2, h3⟩, hb⟩
  have hn : n = N := by rw [← h1, hN]; simp
  subst hn
  obtain ⟨b, o, rfl, hlt, hc⟩ := h3 (by omega)
  refine ⟨b, o, c, he, ⟨h2, b, o, rfl, hlt, fun j hj => ⟨?_, show (0 : Int) ≤ 255 by decide, show (255 : Int) ≤ 255 by decide⟩⟩, hb⟩
  rw [hc j (by rw [h1]; exact hj)]
  simp
set_option maxRecDepth 100000 in
set_option maxHeartbeats 3200000 in
theorem sizes_law (A1 : Option Addr) (n1 c1 : Nat) (ns1 : Nat → Int) (x y k0 k1 k2 k3 : Int) (w : World) (hr1 : Ints w A1 n1 c1 ns1) (hn1 : n1 ≤ 9223372036854775807) (_hx : -9223372036854775808 ≤ x ∧ x ≤ 9223372036854775807) (_hy : -9223372036854775808 ≤ y ∧ y ≤ 9223372036854775807) (hk0 : 0 ≤ k0 ∧ k0 ≤ 255) (hk1 : 0 ≤ k1 ∧ k1 ≤ 255) (hk2 : 0 ≤ k2 ∧ k2 ≤ 255) (hk3 : 0 ≤ k3 ∧ k3 ≤ 255) :
    Calls Try.prog 10 #[.slice A1 n1 c1, .int .i64 x, .int .i64 y, .agg #[.int .u8 k0, .int .u8 k1, .int .u8 k2, .int .u8 k3]] w fun ed w' => ed = .returned (.bool true) ∧ Below w.heap.size w w' := by
  obtain ⟨W, hW, hW2, hxW, hx0, hx1⟩ := side_fix x 64 (by decide) (by decide)
  obtain ⟨H, hH, hH2, hyH, hy0, hy1⟩ := side_fix y 9 (by decide) (by decide)
  have hPX := fun W => place_any x 64 W (by decide) (by decide)
  have hPY := fun W => place_any y 9 W (by decide) (by decide)
  obtain ⟨zx, hzx⟩ : ∃ z, x % 64 = z := ⟨_, rfl⟩
  obtain ⟨zy, hzy⟩ : ∃ z, y % 9 = z := ⟨_, rfl⟩
  rw [hzx] at hPX hxW hx0 hx1
  rw [hzy] at hPY hyH hy0 hy1
  have HPX := Lib.hid hPX
  have HPY := Lib.hid hPY
  obtain ⟨N, hN⟩ : ∃ N, N = 3 * (W * H) := ⟨_, rfl⟩
  obtain ⟨R, hR⟩ : ∃ R, min 6 (1 + 3 * W) = R := ⟨_, rfl⟩
  obtain ⟨F, hF1, hF2⟩ := put_one W k0 k1 k2 k3 hk0 hk1 hk2 hk3
  have hsz : ∀ l : List UInt8, l.length = N → (putL W H l).length ≤ 4 + H * (1 + 3 * W) ∧ 4 + H * R ≤ (putL W H l).length := fun l hl => by
    have e : 3 * W * (0 + H) ≤ l.length := by rw [Nat.zero_add, hl, hN, three_mul]; exact Nat.le_refl _
    have h := encs_len W l 0 H e
    have h2 := encs_ge hW.1 l H 0 e
    rw [hR] at h2
    unfold putL headL
    simp only [List.length_append, List.length_cons, List.length_nil]
    omega
  have hfl : ∀ B : Nat → Int, (∀ j, j < N → B j = F (j % 3)) → (putL W H (listB N B)).length = 4 + H * R := fun B hB => by
    rw [← hR]; exact flat_len_is hW hH hN B F hB hF2
  have HSZ := Lib.hid hsz
  have HFL := Lib.hid (hfl _ (fun j _ => hF1 j))
  have HPG := Lib.hid (fun W' h => lpage_any A1 n1 c1 ns1 W H N W' h hn1 hW hH hN)
  have HPS := Lib.hid (fun A c l W' hb => lput_any W H N c A l W' hW hH hN hb)
  have HNW := Lib.hid (fun W' => new_pg W H N W' hW hH hN)
  have HAL := Lib.hid (fun W' => rall_any W H W' hW hH)
  have HPU := Lib.hid (fun c d A D R B W' hp hr => rg.put_any W H N c d A D R k0 k1 k2 k3 B W' hW hH hN hk0 hk1 hk2 hk3 hp hr)
  have HRR := Lib.hid hR
  have HI1 := Lib.hid hr1
  have HW := Lib.hid hW
  have HH := Lib.hid hH
  obtain ⟨hW0, hW1⟩ := hW
  obtain ⟨hH0, hH1⟩ := hH
  clear hPX hPY hzx hzy hN hr1 hn1 _hx _hy hW2 hH2 hsz hfl hF1 hF2 hk0 hk1 hk2 hk3 hR
  go_enter Try.func10, Try.ntmps10
  go_wp2_with fail
  have hst0 : Below w.heap.size w (w.alloc (.cells #[.int .u8 k0, .int .u8 k1, .int .u8 k2, .int .u8 k3] 54)) := by (repeat' (first | exact Below.refl _ _ | exact Below.refl _ _ | refine balloc ?_ _ | refine Below.drew ?_ | refine below_drewN ?_ _ | refine bset ?_ (by first | omega | (simp <;> omega)) _))
  refine (lknown_any _).mono ?_
  rintro e_ w1 ⟨rfl, hb⟩
  have hst : Below w.heap.size w w1 := btrans hst0 hb
  have Kk := (Blk.new w 54 #[.int .u8 k0, .int .u8 k1, .int .u8 k2, .int .u8 k3])
  replace Kk := Kk.below hb Kk.lt
  have hbw : Below w.heap.size w w1 := hst
  replace HI1 := Lib.hid (HI1.out.below hst)
  clear hst hst0 hb 
  have lKk := Kk.lt
  have cKk0 := Kk.cell 0
  have cKk1 := Kk.cell 1
  have cKk2 := Kk.cell 2
  have cKk3 := Kk.cell 3
  simp only [List.getElem?_toArray, List.getElem?_cons_succ, List.getElem?_cons_zero] at cKk0 cKk1 cKk2 cKk3
  go_wp2_with fail
  refine (HPX.out _).mono ?_
  rintro e_ w_ ⟨rfl, rfl⟩
  go_wp2_with fail
  refine (HPY.out _).mono ?_
  rintro e_ w_ ⟨rfl, rfl⟩
  go_wp2_with fail
  clear hx0 hx1 hy0 hy1 hxW hyH
  have hst0 : Below w1.heap.size w1 w1 := by (repeat' (first | exact Below.refl _ _ | exact Below.refl _ _ | refine balloc ?_ _ | refine Below.drew ?_ | refine below_drewN ?_ _ | refine bset ?_ (by first | omega | (simp <;> omega)) _))
  refine (HPG.out _ (HI1.out.below hst0)).mono ?_
  rintro e_ w2 ⟨gp, B, rfl, hP0, hb⟩
  have hst : Below w1.heap.size w1 w2 := btrans hst0 hb
  replace Kk := Kk.below hb Kk.lt
  replace hbw : Below w.heap.size w w2 := btrans hbw hst
  replace HI1 := Lib.hid (HI1.out.below hst)
  clear hst hst0 hb lKk cKk0 cKk1 cKk2 cKk3
  have lKk := Kk.lt
  have cKk0 := Kk.cell 0
  have cKk1 := Kk.cell 1
  have cKk2 := Kk.cell 2
  have cKk3 := Kk.cell 3
  simp only [List.getElem?_toArray, List.getElem?_cons_succ, List.getElem?_cons_zero] at cKk0 cKk1 cKk2 cKk3
  obtain ⟨l, hl⟩ : ∃ l, listB N B = l := ⟨_, rfl⟩
  have hP := lf.Pg.lb hP0
  rw [hl] at hP
  have HLL := Lib.hid (show l.length = N from hP.len)
  clear hP0 hl
  have HhP := Lib.hid hP
  clear hP
  go_wp2_with fail
  have hst0 : Below w2.heap.size w2 w2 := by (repeat' (first | exact Below.refl _ _ | exact Below.refl _ _ | refine balloc ?_ _ | refine Below.drew ?_ | refine below_drewN ?_ _ | refine bset ?_ (by first | omega | (simp <;> omega)) _))
  refine (HPS.out _ _ _ _ (HhP.out.below hst0)).mono ?_
  rintro e_ w3 ⟨Dq, m, dq, rfl, hQ, hm, hb⟩
  have hst : Below w2.heap.size w2 w3 := btrans hst0 hb
  replace Kk := Kk.below hb Kk.lt
  replace hbw : Below w.heap.size w w3 := btrans hbw hst
  replace HI1 := Lib.hid (HI1.out.below hst)
  replace HhP := Lib.hid (HhP.out.below hst)
  clear hst hst0 hb lKk cKk0 cKk1 cKk2 cKk3
  have lKk := Kk.lt
  have cKk0 := Kk.cell 0
  have cKk1 := Kk.cell 1
  have cKk2 := Kk.cell 2
  have cKk3 := Kk.cell 3
  simp only [List.getElem?_toArray, List.getElem?_cons_succ, List.getElem?_cons_zero] at cKk0 cKk1 cKk2 cKk3
  have HM1 := Lib.hid (show m ≤ 4 + H * (1 + 3 * W) ∧ 4 + H * R ≤ m by have := HSZ.out l HLL.out; rw [hQ.len] at this; exact this)
  clear hm hQ
  go_wp2_with fail
  have hst0 : Below w3.heap.size w3 w3 := by (repeat' (first | exact Below.refl _ _ | exact Below.refl _ _ | refine balloc ?_ _ | refine Below.drew ?_ | refine below_drewN ?_ _ | refine bset ?_ (by first | omega | (simp <;> omega)) _))
  refine (HNW.out _).mono ?_
  rintro e_ w4 ⟨b1, o1, f1, rfl, hN, hb⟩
  have hst : Below w3.heap.size w3 w4 := btrans hst0 hb
  replace Kk := Kk.below hb Kk.lt
  replace hbw : Below w.heap.size w w4 := btrans hbw hst
  replace HI1 := Lib.hid (HI1.out.below hst)
  replace HhP := Lib.hid (HhP.out.below hst)
  clear hst hst0 hb lKk cKk0 cKk1 cKk2 cKk3
  have HhN := Lib.hid hN
  clear hN
  have lKk := Kk.lt
  have cKk0 := Kk.cell 0
  have cKk1 := Kk.cell 1
  have cKk2 := Kk.cell 2
  have cKk3 := Kk.cell 3
  simp only [List.getElem?_toArray, List.getElem?_cons_succ, List.getElem?_cons_zero] at cKk0 cKk1 cKk2 cKk3
  go_wp2_with fail
  have hst0 : Below w4.heap.size w4 (w4.alloc (.cells #[.int .i64 (W : Int), .int .i64 (H : Int), .slice (some ⟨b1, o1, none⟩) N f1] 24)) := by (repeat' (first | exact Below.refl _ _ | exact Below.refl _ _ | refine balloc ?_ _ | refine Below.drew ?_ | refine below_drewN ?_ _ | refine bset ?_ (by first | omega | (simp <;> omega)) _))
  refine (HAL.out _).mono ?_
  rintro e_ w5 ⟨gA, hgA, rfl, qA, hb⟩
  clear hgA
  have hst : Below w4.heap.size w4 w5 := btrans hst0 hb
  replace Kk := (Kk.alloc (.cells #[.int .i64 (W : Int), .int .i64 (H : Int), .slice (some ⟨b1, o1, none⟩) N f1] 24))
  have Kn := (Blk.new w4 24 #[.int .i64 (W : Int), .int .i64 (H : Int), .slice (some ⟨b1, o1, none⟩) N f1])
  replace Kk := Kk.below hb Kk.lt
  replace Kn := Kn.below hb Kn.lt
  replace hbw : Below w.heap.size w w5 := btrans hbw hst
  replace HI1 := Lib.hid (HI1.out.below hst)
  replace HhP := Lib.hid (HhP.out.below hst)
  replace HhN := Lib.hid (HhN.out.below hst)
  clear hst hst0 hb lKk cKk0 cKk1 cKk2 cKk3
  have HqA := Lib.hid qA
  clear qA
  have lKk := Kk.lt
  have cKk0 := Kk.cell 0
  have cKk1 := Kk.cell 1
  have cKk2 := Kk.cell 2
  have cKk3 := Kk.cell 3
  have lKn := Kn.lt
  have cKn0 := Kn.cell 0
  have cKn1 := Kn.cell 1
  have cKn2 := Kn.cell 2
  simp only [List.getElem?_toArray, List.getElem?_cons_succ, List.getElem?_cons_zero] at cKk0 cKk1 cKk2 cKk3 cKn0 cKn1 cKn2
  go_wp2_with fail
  have hst0 : Below w5.heap.size w5 (w5.alloc (.cells #[.int .i64 (W : Int), .int .i64 (H : Int), .slice (some ⟨gA, 0, none⟩) H H] 49)) := by (repeat' (first | exact Below.refl _ _ | exact Below.refl _ _ | refine balloc ?_ _ | refine Below.drew ?_ | refine below_drewN ?_ _ | refine bset ?_ (by first | omega | (simp <;> omega)) _))
  refine (HPU.out _ _ _ _ _ _ _ (HhN.out.below hst0) (HqA.out.below hst0)).mono ?_
  rintro e_ w6 ⟨gd, fd, hgd, rfl, qd, hb⟩
  clear hgd
  have hd := lf.Pg.lb qd
  clear qd
  have hst : Below w5.heap.size w5 w6 := btrans hst0 hb
  replace Kk := (Kk.alloc (.cells #[.int .i64 (W : Int), .int .i64 (H : Int), .slice (some ⟨gA, 0, none⟩) H H] 49))
  replace Kn := (Kn.alloc (.cells #[.int .i64 (W : Int), .int .i64 (H : Int), .slice (some ⟨gA, 0, none⟩) H H] 49))
  have KA := (Blk.new w5 49 #[.int .i64 (W : Int), .int .i64 (H : Int), .slice (some ⟨gA, 0, none⟩) H H])
  replace Kk := Kk.below hb Kk.lt
  replace Kn := Kn.below hb Kn.lt
  replace KA := KA.below hb KA.lt
  replace hbw : Below w.heap.size w w6 := btrans hbw hst
  replace HI1 := Lib.hid (HI1.out.below hst)
  replace HhP := Lib.hid (HhP.out.below hst)
  replace HhN := Lib.hid (HhN.out.below hst)
  replace HqA := Lib.hid (HqA.out.below hst)
  clear hst hst0 hb lKk cKk0 cKk1 cKk2 cKk3 lKn cKn0 cKn1 cKn2
  have Hhd := Lib.hid hd
  clear hd
  have lKk := Kk.lt
  have cKk0 := Kk.cell 0
  have cKk1 := Kk.cell 1
  have cKk2 := Kk.cell 2
  have cKk3 := Kk.cell 3
  have lKn := Kn.lt
  have cKn0 := Kn.cell 0
  have cKn1 := Kn.cell 1
  have cKn2 := Kn.cell 2
  have lKA := KA.lt
  have cKA0 := KA.cell 0
  have cKA1 := KA.cell 1
  have cKA2 := KA.cell 2
  simp only [List.getElem?_toArray, List.getElem?_cons_succ, List.getElem?_cons_zero] at cKk0 cKk1 cKk2 cKk3 cKn0 cKn1 cKn2 cKA0 cKA1 cKA2
  go_wp2_with fail
  have hst0 : Below w6.heap.size w6 (w6.alloc (.cells #[.int .i64 (W : Int), .int .i64 (H : Int), .slice (some ⟨gd, 0, none⟩) N fd] 24)) := by (repeat' (first | exact Below.refl _ _ | exact Below.refl _ _ | refine balloc ?_ _ | refine Below.drew ?_ | refine below_drewN ?_ _ | refine bset ?_ (by first | omega | (simp <;> omega)) _))
  refine (HPS.out _ _ _ _ (Hhd.out.below hst0)).mono ?_
  rintro e_ w7 ⟨Dc, mc, dc, rfl, hC, hmc, hb⟩
  have HM2 := Lib.hid (show mc = 4 + H * R by rw [← hC.len]; exact HFL.out)
  clear hmc hC
  have hst : Below w6.heap.size w6 w7 := btrans hst0 hb
  replace Kk := (Kk.alloc (.cells #[.int .i64 (W : Int), .int .i64 (H : Int), .slice (some ⟨gd, 0, none⟩) N fd] 24))
  replace Kn := (Kn.alloc (.cells #[.int .i64 (W : Int), .int .i64 (H : Int), .slice (some ⟨gd, 0, none⟩) N fd] 24))
  replace KA := (KA.alloc (.cells #[.int .i64 (W : Int), .int .i64 (H : Int), .slice (some ⟨gd, 0, none⟩) N fd] 24))
  have Kd := (Blk.new w6 24 #[.int .i64 (W : Int), .int .i64 (H : Int), .slice (some ⟨gd, 0, none⟩) N fd])
  replace Kk := Kk.below hb Kk.lt
  replace Kn := Kn.below hb Kn.lt
  replace KA := KA.below hb KA.lt
  replace Kd := Kd.below hb Kd.lt
  replace hbw : Below w.heap.size w w7 := btrans hbw hst
  replace HI1 := Lib.hid (HI1.out.below hst)
  replace HhP := Lib.hid (HhP.out.below hst)
  replace HhN := Lib.hid (HhN.out.below hst)
  replace HqA := Lib.hid (HqA.out.below hst)
  replace Hhd := Lib.hid (Hhd.out.below hst)
  clear hst hst0 hb lKk cKk0 cKk1 cKk2 cKk3 lKn cKn0 cKn1 cKn2 lKA cKA0 cKA1 cKA2
  have lKk := Kk.lt
  have cKk0 := Kk.cell 0
  have cKk1 := Kk.cell 1
  have cKk2 := Kk.cell 2
  have cKk3 := Kk.cell 3
  have lKn := Kn.lt
  have cKn0 := Kn.cell 0
  have cKn1 := Kn.cell 1
  have cKn2 := Kn.cell 2
  have lKA := KA.lt
  have cKA0 := KA.cell 0
  have cKA1 := KA.cell 1
  have cKA2 := KA.cell 2
  have lKd := Kd.lt
  have cKd0 := Kd.cell 0
  have cKd1 := Kd.cell 1
  have cKd2 := Kd.cell 2
  simp only [List.getElem?_toArray, List.getElem?_cons_succ, List.getElem?_cons_zero] at cKk0 cKk1 cKk2 cKk3 cKn0 cKn1 cKn2 cKA0 cKA1 cKA2 cKd0 cKd1 cKd2
  obtain ⟨r, hr⟩ : ∃ r, 3 * W = r := ⟨_, rfl⟩
  obtain ⟨s, hs⟩ : ∃ s, H * (1 + r) = s := ⟨_, rfl⟩
  obtain ⟨t, ht⟩ : ∃ t, H * R = t := ⟨_, rfl⟩
  have hm1 := HM1.out
  have hm2 := HM2.out
  rw [hr, hs, ht] at hm1
  rw [ht] at hm2
  have hrb : r ≤ 192 := by omega
  have hR2 : R = min 6 (1 + r) := by rw [← HRR.out, hr]
  have hsb : s ≤ 12352 := by rw [← hs]; exact Nat.mul_le_mul hH1 (show 1 + r ≤ 193 by omega)
  have htb : t ≤ 384 := by rw [← ht]; exact Nat.mul_le_mul hH1 (show R ≤ 6 by omega)
  have e0 : 3 * (W : Int) = (r : Int) := by omega
  have e1 : (H : Int) * (1 + (r : Int)) = (s : Int) := by rw [← hs]; push_cast; rfl
  have e2 : (H : Int) * (R : Int) = (t : Int) := by rw [← ht]; push_cast; rfl
  have e3 : (if 1 + (r : Int) < 6 then 1 + (r : Int) else 6) = (R : Int) := by rw [hR2]; split <;> omega
  have e4 : decide ((m : Int) ≤ 4 + (s : Int)) = true := by simp; omega
  have e5 : decide (4 + (t : Int) ≤ (m : Int)) = true := by simp; omega
  have e6 : ((mc : Int) == 4 + (t : Int)) = true := by simp; omega
  clear hr hs ht hm1 hm2 hR2
  go_wp2_with fail
  go_ret
  exact ⟨by first | rfl | (simp; done), by (repeat' (first | exact hbw | exact Below.refl _ _ | refine balloc ?_ _ | refine Below.drew ?_ | refine below_drewN ?_ _ | refine bset ?_ (by first | omega | (simp <;> omega)) _))⟩
end Go.Proofs.Ytfmkdccpgkbnoaa.lf
