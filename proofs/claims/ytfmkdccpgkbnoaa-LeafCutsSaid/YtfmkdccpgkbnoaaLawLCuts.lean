/-
  LeafCuts: a page's bytes, cut, are too short; with one more they are no page's.
-/
import Derived.Test.YtfmkdccpgkbnoaaLeafT
namespace Go.Proofs.Ytfmkdccpgkbnoaa.lf
set_option linter.unusedVariables false
set_option linter.unusedSimpArgs false
open Go.RowKit bs rg op
set_option maxRecDepth 100000 in
set_option maxHeartbeats 800000 in
theorem cuts_law (A1 : Option Addr) (n1 c1 : Nat) (ns1 : Nat → Int) (x y z k : Int) (w : World) (hr1 : Ints w A1 n1 c1 ns1) (hn1 : n1 ≤ 9223372036854775807) (_hx : -9223372036854775808 ≤ x ∧ x ≤ 9223372036854775807) (_hy : -9223372036854775808 ≤ y ∧ y ≤ 9223372036854775807) (_hz : -9223372036854775808 ≤ z ∧ z ≤ 9223372036854775807) (hk : 0 ≤ k ∧ k ≤ 255) :
    Calls Try.prog 5 #[.slice A1 n1 c1, .int .i64 x, .int .i64 y, .int .i64 z, .int .u8 k] w fun ed w' => ed = .returned (.bool true) ∧ Below w.heap.size w w' := by
  obtain ⟨W, hW, hW2, hxW, hx0, hx1⟩ := side_fix x 12 (by decide) (by decide)
  obtain ⟨H, hH, hH2, hyH, hy0, hy1⟩ := side_fix y 12 (by decide) (by decide)
  have hPX := fun W => place_any x 12 W (by decide) (by decide)
  have hPY := fun W => place_any y 12 W (by decide) (by decide)
  obtain ⟨zx, hzx⟩ : ∃ z, x % 12 = z := ⟨_, rfl⟩
  obtain ⟨zy, hzy⟩ : ∃ z, y % 12 = z := ⟨_, rfl⟩
  rw [hzx] at hPX hxW hx0 hx1
  rw [hzy] at hPY hyH hy0 hy1
  have HXW := Lib.hid hxW
  have HYH := Lib.hid hyH
  have HPX := Lib.hid hPX
  have HPY := Lib.hid hPY
  obtain ⟨N, hN⟩ : ∃ N, N = 3 * (W * H) := ⟨_, rfl⟩
  have HPG := Lib.hid (fun W' h => lpage_any A1 n1 c1 ns1 W H N W' h hn1 hW hH hN)
  have HPU := Lib.hid (fun A c l W' hb => lput_any W H N c A l W' hW hH hN hb)
  have HCU := Lib.hid (fun l hl i hi => take_cut (W := W) (H := H) hW hH l hl i hi)
  have HMO := Lib.hid (fun l hl q => take_more (W := W) (H := H) hW hH l hl q)
  have HLE := Lib.hid (show ∀ l : List UInt8, l.length = N → (putL W H l).length ≤ 12355 from fun l hl => by
    have h := encs_len W l 0 H (by rw [Nat.zero_add, hl, hN, three_mul]; exact Nat.le_refl _)
    have h2 : H * (1 + 3 * W) ≤ 12 * 37 := Nat.mul_le_mul (by omega) (by omega)
    unfold putL headL
    simp only [List.length_append, List.length_cons, List.length_nil]
    omega)
  have HN := Lib.hid (show N = 3 * W * H by rw [hN, three_mul])
  have HI1 := Lib.hid hr1
  obtain ⟨q, rfl⟩ := byte_of k hk
  clear hxW hyH hPX hPY hzx hzy hN hr1 hn1 _hx _hy hk hW2 hH2
  go_enter Try.func5, Try.ntmps5
  go_wp2_with fail
  have hst0 : Below w.heap.size w w := by (repeat' (first | exact Below.refl _ _ | exact Below.refl _ _ | refine balloc ?_ _ | refine Below.drew ?_ | refine below_drewN ?_ _ | refine bset ?_ (by first | omega | (simp <;> omega)) _))
  refine (lknown_any _).mono ?_
  rintro e_ w1 ⟨rfl, hb⟩
  have hst : Below w.heap.size w w1 := btrans hst0 hb
  have hbw : Below w.heap.size w w1 := hst
  replace HI1 := Lib.hid (HI1.out.below hst)
  clear hst hst0 hb 
  go_wp2_with fail
  refine (HPX.out _).mono ?_
  rintro e_ w_ ⟨rfl, rfl⟩
  go_wp2_with fail
  refine (HPY.out _).mono ?_
  rintro e_ w_ ⟨rfl, rfl⟩
  go_wp2_with fail
  rw [HXW.out, HYH.out]
  clear hx0 hx1 hy0 hy1
  have hst0 : Below w1.heap.size w1 w1 := by (repeat' (first | exact Below.refl _ _ | exact Below.refl _ _ | refine balloc ?_ _ | refine Below.drew ?_ | refine below_drewN ?_ _ | refine bset ?_ (by first | omega | (simp <;> omega)) _))
  refine (HPG.out _ (HI1.out.below hst0)).mono ?_
  rintro e_ w2 ⟨gp, B, rfl, hP0, hb⟩
  have hst : Below w1.heap.size w1 w2 := btrans hst0 hb
  replace hbw : Below w.heap.size w w2 := btrans hbw hst
  replace HI1 := Lib.hid (HI1.out.below hst)
  clear hst hst0 hb 
  obtain ⟨l, hl⟩ : ∃ l, listB N B = l := ⟨_, rfl⟩
  have hP := lf.Pg.lb hP0
  rw [hl] at hP
  have HLL := Lib.hid (show l.length = N from hP.len)
  clear hP0 hl
  have HhP := Lib.hid hP
  clear hP
  go_wp2_with fail
  have hst0 : Below w2.heap.size w2 (w2.alloc (.cells #[.int .i64 (W : Int), .int .i64 (H : Int), .slice (some ⟨gp, 0, none⟩) N N] 24)) := by (repeat' (first | exact Below.refl _ _ | exact Below.refl _ _ | refine balloc ?_ _ | refine Below.drew ?_ | refine below_drewN ?_ _ | refine bset ?_ (by first | omega | (simp <;> omega)) _))
  refine (HPU.out _ _ _ _ (HhP.out.below hst0)).mono ?_
  rintro e_ w3 ⟨Dq, m, dq, rfl, hQ, hm, hb⟩
  have hst : Below w2.heap.size w2 w3 := btrans hst0 hb
  have Kp := (Blk.new w2 24 #[.int .i64 (W : Int), .int .i64 (H : Int), .slice (some ⟨gp, 0, none⟩) N N])
  replace Kp := Kp.below hb Kp.lt
  replace hbw : Below w.heap.size w w3 := btrans hbw hst
  replace HI1 := Lib.hid (HI1.out.below hst)
  replace HhP := Lib.hid (HhP.out.below hst)
  clear hst hst0 hb 
  have HhQ := Lib.hid hQ
  clear hQ
  have lKp := Kp.lt
  have cKp0 := Kp.cell 0
  have cKp1 := Kp.cell 1
  have cKp2 := Kp.cell 2
  simp only [List.getElem?_toArray, List.getElem?_cons_succ, List.getElem?_cons_zero] at cKp0 cKp1 cKp2
  obtain ⟨hm0, hm1⟩ := hm
  have hm2 : m ≤ 12355 := by have := HLE.out l HLL.out; rw [HhQ.out.len] at this; exact this
  obtain ⟨i, hi, him⟩ := place_fix z m (by omega)
  have hPZ := fun W => place_any z (m : Int) W (by omega) (by omega)
  rw [hi] at hPZ
  have hcut := HCU.out l (by rw [HLL.out]; exact HN.out) i (by rw [HhQ.out.len]; exact him)
  have HCT := Lib.hid hcut
  have HPZ := Lib.hid hPZ
  have hlt8 : decide ((m : Int) < 8) = false := by simp; omega
  have hcap : i ≤ dq := by have := HhQ.out.1.2.1; omega
  clear hcut hPZ hi
  go_wp2_with fail
  refine (HPZ.out _).mono ?_
  rintro e_ w_ ⟨rfl, rfl⟩
  go_wp2_with (at_builtin; refine Held.of ?_)
  unfold Held
  have hst0 : Below w3.heap.size w3 w3 := by (repeat' (first | exact Below.refl _ _ | exact Below.refl _ _ | refine balloc ?_ _ | refine Below.drew ?_ | refine below_drewN ?_ _ | refine bset ?_ (by first | omega | (simp <;> omega)) _))
  have hLn := LB.len (LB.take (HhQ.out.below hst0) (by omega) : LB _ _ i _ _)
  refine wpList_copy (.tmp 41) (.tmp 47) _ _ _ _ rfl rfl (by first | rfl | (rw [size_alloc]; rfl) | (rw [size_alloc, size_alloc]; rfl)) rfl (LB.take (HhQ.out.below hst0) (by omega)) (by omega) ?_
  intro vcut w4 hO hb
  have hst : Below w3.heap.size w3 w4 := btrans hst0 hb
  replace Kp := Kp.below hb Kp.lt
  replace hbw : Below w.heap.size w w4 := btrans hbw hst
  replace HI1 := Lib.hid (HI1.out.below hst)
  replace HhP := Lib.hid (HhP.out.below hst)
  replace HhQ := Lib.hid (HhQ.out.below hst)
  clear hst hst0 hb lKp cKp0 cKp1 cKp2
  obtain ⟨Acut, ccut, rfl, hcut⟩ := hO.lbn hLn
  clear hO hLn
  have Hhcut := Lib.hid hcut
  clear hcut
  have lKp := Kp.lt
  have cKp0 := Kp.cell 0
  have cKp1 := Kp.cell 1
  have cKp2 := Kp.cell 2
  simp only [List.getElem?_toArray, List.getElem?_cons_succ, List.getElem?_cons_zero] at cKp0 cKp1 cKp2
  go_wp2_with fail
  have hst0 : Below w4.heap.size w4 w4 := by (repeat' (first | exact Below.refl _ _ | exact Below.refl _ _ | refine balloc ?_ _ | refine Below.drew ?_ | refine below_drewN ?_ _ | refine bset ?_ (by first | omega | (simp <;> omega)) _))
  refine (ltake_bad _ _ _ _ _ (by omega) (Hhcut.out.below hst0) 4 (by decide) HCT.out).mono ?_
  rintro e_ w5 ⟨rfl, hb⟩
  have hst : Below w4.heap.size w4 w5 := btrans hst0 hb
  replace Kp := Kp.below hb Kp.lt
  replace hbw : Below w.heap.size w w5 := btrans hbw hst
  replace HI1 := Lib.hid (HI1.out.below hst)
  replace HhP := Lib.hid (HhP.out.below hst)
  replace HhQ := Lib.hid (HhQ.out.below hst)
  replace Hhcut := Lib.hid (Hhcut.out.below hst)
  clear hst hst0 hb lKp cKp0 cKp1 cKp2
  have lKp := Kp.lt
  have cKp0 := Kp.cell 0
  have cKp1 := Kp.cell 1
  have cKp2 := Kp.cell 2
  simp only [List.getElem?_toArray, List.getElem?_cons_succ, List.getElem?_cons_zero] at cKp0 cKp1 cKp2
  go_wp2_with (at_builtin; refine Held.of ?_)
  unfold Held
  have hst0 : Below w5.heap.size w5 (w5.alloc (.cells #[.int .i64 0, .int .i64 0, .slice none 0 0] 24)) := by (repeat' (first | exact Below.refl _ _ | exact Below.refl _ _ | refine balloc ?_ _ | refine Below.drew ?_ | refine below_drewN ?_ _ | refine bset ?_ (by first | omega | (simp <;> omega)) _))
  have hLn := LB.len ((HhQ.out.below hst0) : LB _ _ m _ _)
  refine wpList_copy (.tmp 53) (.tmp 54) _ _ _ _ rfl rfl (by first | rfl | (rw [size_alloc]; rfl) | (rw [size_alloc, size_alloc]; rfl)) rfl ((HhQ.out.below hst0)) (by omega) ?_
  intro vmore w6 hO hb
  have HO := Lib.hid hO
  have HB := Lib.hid hb
  have HLn := Lib.hid hLn
  clear hO hb hLn
  go_wp2_with (at_builtin; refine Held.of ?_)
  unfold Held
  refine wpList_push (u := (w5.alloc (.cells #[.int .i64 0, .int .i64 0, .slice none 0 0] 24))) (.tmp 55) (.tmp 57) _ _ _ _ _ _ rfl rfl rfl (by first | rfl | (rw [size_alloc]; rfl) | (rw [size_alloc, size_alloc]; rfl)) (OwnB.below HO.out (by (repeat' (first | exact Below.refl _ _ | exact Below.refl _ _ | refine balloc ?_ _ | refine Below.drew ?_ | refine below_drewN ?_ _ | refine bset ?_ (by first | omega | (simp <;> omega)) _)))) (LB.new _ _ 1 [q] rfl rfl) (by (repeat' (first | exact HB.out | exact Below.refl _ _ | refine balloc ?_ _ | refine Below.drew ?_ | refine below_drewN ?_ _ | refine bset ?_ (by first | omega | (simp <;> omega)) _))) (by rw [HLn.out]; omega) ?_
  intro vmore2 w7 hO hb
  have hLn := HLn.out
  clear HO HB HLn
  have hst : Below w5.heap.size w5 w7 := btrans hst0 hb
  replace Kp := (Kp.alloc (.cells #[.int .i64 0, .int .i64 0, .slice none 0 0] 24))
  have Kz := (Blk.new w5 24 #[.int .i64 0, .int .i64 0, .slice none 0 0])
  replace Kp := Kp.below hb Kp.lt
  replace Kz := Kz.below hb Kz.lt
  replace hbw : Below w.heap.size w w7 := btrans hbw hst
  replace HI1 := Lib.hid (HI1.out.below hst)
  replace HhP := Lib.hid (HhP.out.below hst)
  replace HhQ := Lib.hid (HhQ.out.below hst)
  replace Hhcut := Lib.hid (Hhcut.out.below hst)
  clear hst hst0 hb lKp cKp0 cKp1 cKp2
  obtain ⟨Amore, cmore, rfl, hmore⟩ := hO.lbn (n := m + 1) (by rw [List.length_append, hLn]; rfl)
  clear hO hLn
  have Hhmore := Lib.hid hmore
  clear hmore
  have lKp := Kp.lt
  have cKp0 := Kp.cell 0
  have cKp1 := Kp.cell 1
  have cKp2 := Kp.cell 2
  have lKz := Kz.lt
  have cKz0 := Kz.cell 0
  have cKz1 := Kz.cell 1
  have cKz2 := Kz.cell 2
  simp only [List.getElem?_toArray, List.getElem?_cons_succ, List.getElem?_cons_zero] at cKp0 cKp1 cKp2 cKz0 cKz1 cKz2
  go_wp2_with fail
  have hst0 : Below w7.heap.size w7 w7 := by (repeat' (first | exact Below.refl _ _ | exact Below.refl _ _ | refine balloc ?_ _ | refine Below.drew ?_ | refine below_drewN ?_ _ | refine bset ?_ (by first | omega | (simp <;> omega)) _))
  refine (ltake_bad _ _ _ _ _ (by omega) (Hhmore.out.below hst0) 3 (by decide) (HMO.out l (by rw [HLL.out]; exact HN.out) q)).mono ?_
  rintro e_ w8 ⟨rfl, hb⟩
  have hst : Below w7.heap.size w7 w8 := btrans hst0 hb
  replace Kp := Kp.below hb Kp.lt
  replace Kz := Kz.below hb Kz.lt
  replace hbw : Below w.heap.size w w8 := btrans hbw hst
  replace HI1 := Lib.hid (HI1.out.below hst)
  replace HhP := Lib.hid (HhP.out.below hst)
  replace HhQ := Lib.hid (HhQ.out.below hst)
  replace Hhcut := Lib.hid (Hhcut.out.below hst)
  replace Hhmore := Lib.hid (Hhmore.out.below hst)
  clear hst hst0 hb lKp cKp0 cKp1 cKp2 lKz cKz0 cKz1 cKz2
  have lKp := Kp.lt
  have cKp0 := Kp.cell 0
  have cKp1 := Kp.cell 1
  have cKp2 := Kp.cell 2
  have lKz := Kz.lt
  have cKz0 := Kz.cell 0
  have cKz1 := Kz.cell 1
  have cKz2 := Kz.cell 2
  simp only [List.getElem?_toArray, List.getElem?_cons_succ, List.getElem?_cons_zero] at cKp0 cKp1 cKp2 cKz0 cKz1 cKz2
  go_wp2_with fail
  go_ret
  exact ⟨by first | rfl | simp, by (repeat' (first | exact hbw | exact Below.refl _ _ | refine balloc ?_ _ | refine Below.drew ?_ | refine below_drewN ?_ _ | refine bset ?_ (by first | omega | (simp <;> omega)) _))⟩
end Go.Proofs.Ytfmkdccpgkbnoaa.lf
