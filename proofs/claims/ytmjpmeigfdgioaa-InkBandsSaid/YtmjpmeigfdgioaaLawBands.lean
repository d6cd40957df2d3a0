/-
  InkBands: a page that is laid together of bands of it, cut anywhere, is the page.
-/
import Derived.Test.YtmjpmeigfdgioaaLawSides
import Derived.Test.YtmjpmeigfdgioaaUnlike
import Derived.Test.YtmjpmeigfdgioaaLay
namespace Go.Proofs.Ytmjpmeigfdgioaa.rg
set_option linter.unusedVariables false
set_option linter.unusedSimpArgs false
open Go.RowKit bs sp ik op

theorem row_lt {W H j : Nat} (hW : 1 ≤ W) (h : j < 3 * (W * H)) : j / 3 / W < H := by
  rw [Nat.div_lt_iff_lt_mul (by omega), Nat.mul_comm H W]
  omega
theorem bands_same (W H : Nat) (k : Int) (B C : Nat → Int) (hW : 1 ≤ W) (hH : H ≤ 64) (j : Nat) (hj : j < 3 * (W * H)) :
    layB W (fun j i => decide (k ≤ (j : Int)) && decide ((j : Int) < 99) && true) (layB W (fun j i => decide ((-1 : Int) ≤ (j : Int)) && decide ((j : Int) < k) && true) C B) B j = B j := by
  have h := row_lt hW hj
  unfold layB
  generalize j / 3 / W = q at *
  by_cases h1 : (q : Int) < k
  · rw [if_neg (by simp; omega), if_pos (by simp; omega)]
  · rw [if_pos (by simp; omega)]
theorem bands_rest (W H : Nat) (k : Int) (B C : Nat → Int) (hW : 1 ≤ W) (hH : H ≤ 64) (j : Nat) (hj : j < H) (i : Nat) (hi : i < W) :
    (dif (layB W (fun j i => decide ((-1 : Int) ≤ (j : Int)) && decide ((j : Int) < k) && true) C B) B (j * W + i) && !((fun j i => decide (k ≤ (j : Int)) && decide ((j : Int) < 99) && true) j i)) = false := by
  by_cases h1 : (j : Int) < k
  · have e : ∀ t, t < 3 → layB W (fun j i => decide ((-1 : Int) ≤ (j : Int)) && decide ((j : Int) < k) && true) C B (3 * (j * W + i) + t) = B (3 * (j * W + i) + t) := fun t ht => by
      have e1 : (3 * (j * W + i) + t) / 3 = j * W + i := by omega
      unfold layB
      rw [e1, (pix_of hi).1, if_pos (by simp; omega)]
    unfold dif
    have e0 := e 0 (by omega)
    rw [Nat.add_zero] at e0
    rw [e0, e 1 (by omega), e 2 (by omega)]
    simp
  · have e2 : (fun j i => decide (k ≤ (j : Int)) && decide ((j : Int) < 99) && true) j i = true := by simp; omega
    simp only [e2]
    simp
set_option maxRecDepth 100000 in
set_option maxHeartbeats 12800000 in
theorem bands_law (A1 : Option Addr) (n1 c1 : Nat) (ns1 : Nat → Int) (A2 : Option Addr) (n2 c2 : Nat) (ns2 : Nat → Int) (x y at_ : Int) (w : World) (hr1 : Ints w A1 n1 c1 ns1) (hn1 : n1 ≤ 9223372036854775807) (hr2 : Ints w A2 n2 c2 ns2) (hn2 : n2 ≤ 9223372036854775807) (_hx : -9223372036854775808 ≤ x ∧ x ≤ 9223372036854775807) (_hy : -9223372036854775808 ≤ y ∧ y ≤ 9223372036854775807) (_ht : -9223372036854775808 ≤ at_ ∧ at_ ≤ 9223372036854775807) :
    Calls Try.prog 7 #[.slice A1 n1 c1, .slice A2 n2 c2, .int .i64 x, .int .i64 y, .int .i64 at_] w fun ed w' => ed = .returned (.bool true) ∧ Below w.heap.size w w' := by
  obtain ⟨W, hW, hSW⟩ := lside_fix x
  obtain ⟨H, hH, hSH⟩ := lside_fix y
  have hPL := fun W => place_any at_ 14 W (by decide) (by decide)
  obtain ⟨z, hz⟩ : ∃ z, at_ % 14 = z := ⟨_, rfl⟩
  have hz1 : 0 ≤ z ∧ z < 14 := by omega
  rw [hz] at hPL
  obtain ⟨k, hk⟩ : ∃ k, z - 2 = k := ⟨_, rfl⟩
  obtain ⟨hz10, hz11⟩ := hz1
  have HPL := Lib.hid hPL
  have HSW := Lib.hid hSW
  have HSH := Lib.hid hSH
  obtain ⟨N, hN⟩ : ∃ N, N = 3 * (W * H) := ⟨_, rfl⟩
  have HPG := Lib.hid (fun W' h => lpage_any A1 n1 c1 ns1 W H N W' h hn1 hW hH hN)
  have HPS := Lib.hid (fun W' h => lpage_any A2 n2 c2 ns2 W H N W' h hn2 hW hH hN)
  have HAL := Lib.hid (fun W' => rall_any W H W' hW hH)
  have HBD := Lib.hid (fun c A R lo hi W' h => rband_any W H c A R lo hi W' hW hH h)
  have HLA := Lib.hid (fun c d e A E D R B C W' hp hq hr => lay_any W H N c d e A E D R B C W' hW hH hN hp hq hr)
  have HUN := Lib.hid (fun c d A D B C W' hp hq => unlike_any W H N c d A D B C W' hW hH hN hp hq)
  have HLE := Lib.hid (fun c d A B R S W' ha hb => rless_any W H c d A B R S W' hW hH ha hb)
  have HCO := Lib.hid (fun d D R W' hr h => rcount_zero W H d D R W' hW hH hr h)
  have HS1 := Lib.hid (fun B C j (hj : j < N) => bands_same W H k B C hW.1 hH.2 j (hN ▸ hj))
  have HS2 := Lib.hid (fun B C j hj i hi => bands_rest W H k B C hW.1 hH.2 j hj i hi)
  have HI1 := Lib.hid hr1
  have HI2 := Lib.hid hr2
  clear hSW hSH hW hH hN hr1 hr2 hn1 hn2 _hx _hy _ht hPL hz
  go_enter Try.func7, Try.ntmps7
  go_wp2_with fail
  have hst0 : Below w.heap.size w w := by (repeat' (first | exact Below.refl _ _ | exact Below.refl _ _ | refine balloc ?_ _ | refine Below.drew ?_ | refine below_drewN ?_ _ | refine bset ?_ (by first | omega | (simp <;> omega)) _))
  refine (known_any _).mono ?_
  rintro e_ w1 ⟨rfl, hb⟩
  have hst : Below w.heap.size w w1 := btrans hst0 hb
  have hbw : Below w.heap.size w w1 := hst
  replace HI1 := Lib.hid (HI1.out.below hst)
  replace HI2 := Lib.hid (HI2.out.below hst)
  clear hst hst0 hb 
  go_wp2_with (go_at_call 11; first | (refine (HSW.out _).mono ?_; rintro e_ w_ ⟨rfl, rfl⟩) | (refine (HSH.out _).mono ?_; rintro e_ w_ ⟨rfl, rfl⟩))
  have hst0 : Below w1.heap.size w1 w1 := by (repeat' (first | exact Below.refl _ _ | exact Below.refl _ _ | refine balloc ?_ _ | refine Below.drew ?_ | refine below_drewN ?_ _ | refine bset ?_ (by first | omega | (simp <;> omega)) _))
  refine (HPG.out _ (HI1.out.below hst0)).mono ?_
  rintro e_ w2 ⟨gp, B, rfl, hP, hb⟩
  have hst : Below w1.heap.size w1 w2 := btrans hst0 hb
  replace hbw : Below w.heap.size w w2 := btrans hbw hst
  replace HI1 := Lib.hid (HI1.out.below hst)
  replace HI2 := Lib.hid (HI2.out.below hst)
  clear hst hst0 hb 
  have HhP := Lib.hid hP
  clear hP
  go_wp2_with (go_at_call 11; first | (refine (HSW.out _).mono ?_; rintro e_ w_ ⟨rfl, rfl⟩) | (refine (HSH.out _).mono ?_; rintro e_ w_ ⟨rfl, rfl⟩))
  have hst0 : Below w2.heap.size w2 w2 := by (repeat' (first | exact Below.refl _ _ | exact Below.refl _ _ | refine balloc ?_ _ | refine Below.drew ?_ | refine below_drewN ?_ _ | refine bset ?_ (by first | omega | (simp <;> omega)) _))
  refine (HPS.out _ (HI2.out.below hst0)).mono ?_
  rintro e_ w3 ⟨gs, C, rfl, hS, hb⟩
  have hst : Below w2.heap.size w2 w3 := btrans hst0 hb
  replace hbw : Below w.heap.size w w3 := btrans hbw hst
  replace HI1 := Lib.hid (HI1.out.below hst)
  replace HI2 := Lib.hid (HI2.out.below hst)
  replace HhP := Lib.hid (HhP.out.below hst)
  clear hst hst0 hb 
  have HhS := Lib.hid hS
  clear hS
  go_wp2_with fail
  have hst0 : Below w3.heap.size w3 ((w3.alloc (.cells #[.int .i64 (W : Int), .int .i64 (H : Int), .slice (some ⟨gp, 0, none⟩) N N] 30)).alloc (.cells #[.int .i64 (W : Int), .int .i64 (H : Int), .slice (some ⟨gs, 0, none⟩) N N] 30)) := by (repeat' (first | exact Below.refl _ _ | exact Below.refl _ _ | refine balloc ?_ _ | refine Below.drew ?_ | refine below_drewN ?_ _ | refine bset ?_ (by first | omega | (simp <;> omega)) _))
  refine (HAL.out _).mono ?_
  rintro e_ w4 ⟨gA, hgA, rfl, qA, hb⟩
  clear hgA
  have hst : Below w3.heap.size w3 w4 := btrans hst0 hb
  have Kp := ((Blk.new w3 30 #[.int .i64 (W : Int), .int .i64 (H : Int), .slice (some ⟨gp, 0, none⟩) N N]).alloc (.cells #[.int .i64 (W : Int), .int .i64 (H : Int), .slice (some ⟨gs, 0, none⟩) N N] 30))
  have Ks := (Blk.new (w3.alloc (.cells #[.int .i64 (W : Int), .int .i64 (H : Int), .slice (some ⟨gp, 0, none⟩) N N] 30)) 30 #[.int .i64 (W : Int), .int .i64 (H : Int), .slice (some ⟨gs, 0, none⟩) N N])
  have hz_Ks : (w3.alloc (.cells #[.int .i64 (W : Int), .int .i64 (H : Int), .slice (some ⟨gp, 0, none⟩) N N] 30)).heap.size = w3.heap.size + 1 := by simp
  rw [hz_Ks] at Ks
  clear hz_Ks
  replace Kp := Kp.below hb Kp.lt
  replace Ks := Ks.below hb Ks.lt
  replace hbw : Below w.heap.size w w4 := btrans hbw hst
  replace HI1 := Lib.hid (HI1.out.below hst)
  replace HI2 := Lib.hid (HI2.out.below hst)
  replace HhP := Lib.hid (HhP.out.below hst)
  replace HhS := Lib.hid (HhS.out.below hst)
  clear hst hst0 hb 
  have HqA := Lib.hid qA
  clear qA
  have lKp := Kp.lt
  have cKp0 := Kp.cell 0
  have cKp1 := Kp.cell 1
  have cKp2 := Kp.cell 2
  have lKs := Ks.lt
  have cKs0 := Ks.cell 0
  have cKs1 := Ks.cell 1
  have cKs2 := Ks.cell 2
  simp only [List.getElem?_toArray, List.getElem?_cons_succ, List.getElem?_cons_zero] at cKp0 cKp1 cKp2 cKs0 cKs1 cKs2
  go_wp2_with (go_at_call 25; refine (HPL.out _).mono ?_; rintro e_ w_ ⟨rfl, rfl⟩)
  have hst0 : Below w4.heap.size w4 (w4.alloc (.cells #[.int .i64 (W : Int), .int .i64 (H : Int), .slice (some ⟨gA, 0, none⟩) H H] 35)) := by (repeat' (first | exact Below.refl _ _ | exact Below.refl _ _ | refine balloc ?_ _ | refine Below.drew ?_ | refine below_drewN ?_ _ | refine bset ?_ (by first | omega | (simp <;> omega)) _))
  refine (HBD.out _ _ _ (-1) k _ (HqA.out.below hst0)).mono ?_
  rintro e_ w5 ⟨gX, hgX, rfl, qX, hb⟩
  clear hgX
  have hst : Below w4.heap.size w4 w5 := btrans hst0 hb
  replace Kp := (Kp.alloc (.cells #[.int .i64 (W : Int), .int .i64 (H : Int), .slice (some ⟨gA, 0, none⟩) H H] 35))
  replace Ks := (Ks.alloc (.cells #[.int .i64 (W : Int), .int .i64 (H : Int), .slice (some ⟨gA, 0, none⟩) H H] 35))
  have KA := (Blk.new w4 35 #[.int .i64 (W : Int), .int .i64 (H : Int), .slice (some ⟨gA, 0, none⟩) H H])
  replace Kp := Kp.below hb Kp.lt
  replace Ks := Ks.below hb Ks.lt
  replace KA := KA.below hb KA.lt
  replace hbw : Below w.heap.size w w5 := btrans hbw hst
  replace HI1 := Lib.hid (HI1.out.below hst)
  replace HI2 := Lib.hid (HI2.out.below hst)
  replace HhP := Lib.hid (HhP.out.below hst)
  replace HhS := Lib.hid (HhS.out.below hst)
  replace HqA := Lib.hid (HqA.out.below hst)
  clear hst hst0 hb lKp cKp0 cKp1 cKp2 lKs cKs0 cKs1 cKs2
  have HqX := Lib.hid qX
  clear qX
  have lKp := Kp.lt
  have cKp0 := Kp.cell 0
  have cKp1 := Kp.cell 1
  have cKp2 := Kp.cell 2
  have lKs := Ks.lt
  have cKs0 := Ks.cell 0
  have cKs1 := Ks.cell 1
  have cKs2 := Ks.cell 2
  have lKA := KA.lt
  have cKA0 := KA.cell 0
  have cKA1 := KA.cell 1
  have cKA2 := KA.cell 2
  simp only [List.getElem?_toArray, List.getElem?_cons_succ, List.getElem?_cons_zero] at cKp0 cKp1 cKp2 cKs0 cKs1 cKs2 cKA0 cKA1 cKA2
  go_wp2_with fail
  have hst0 : Below w5.heap.size w5 (w5.alloc (.cells #[.int .i64 (W : Int), .int .i64 (H : Int), .slice (some ⟨gX, 0, none⟩) H H] 35)) := by (repeat' (first | exact Below.refl _ _ | exact Below.refl _ _ | refine balloc ?_ _ | refine Below.drew ?_ | refine below_drewN ?_ _ | refine bset ?_ (by first | omega | (simp <;> omega)) _))
  refine (HBD.out _ _ _ k 99 _ (HqA.out.below hst0)).mono ?_
  rintro e_ w6 ⟨gY, hgY, rfl, qY, hb⟩
  clear hgY
  have hst : Below w5.heap.size w5 w6 := btrans hst0 hb
  replace Kp := (Kp.alloc (.cells #[.int .i64 (W : Int), .int .i64 (H : Int), .slice (some ⟨gX, 0, none⟩) H H] 35))
  replace Ks := (Ks.alloc (.cells #[.int .i64 (W : Int), .int .i64 (H : Int), .slice (some ⟨gX, 0, none⟩) H H] 35))
  replace KA := (KA.alloc (.cells #[.int .i64 (W : Int), .int .i64 (H : Int), .slice (some ⟨gX, 0, none⟩) H H] 35))
  have KX := (Blk.new w5 35 #[.int .i64 (W : Int), .int .i64 (H : Int), .slice (some ⟨gX, 0, none⟩) H H])
  replace Kp := Kp.below hb Kp.lt
  replace Ks := Ks.below hb Ks.lt
  replace KA := KA.below hb KA.lt
  replace KX := KX.below hb KX.lt
  replace hbw : Below w.heap.size w w6 := btrans hbw hst
  replace HI1 := Lib.hid (HI1.out.below hst)
  replace HI2 := Lib.hid (HI2.out.below hst)
  replace HhP := Lib.hid (HhP.out.below hst)
  replace HhS := Lib.hid (HhS.out.below hst)
  replace HqA := Lib.hid (HqA.out.below hst)
  replace HqX := Lib.hid (HqX.out.below hst)
  clear hst hst0 hb lKp cKp0 cKp1 cKp2 lKs cKs0 cKs1 cKs2 lKA cKA0 cKA1 cKA2
  have HqY := Lib.hid qY
  clear qY
  have lKp := Kp.lt
  have cKp0 := Kp.cell 0
  have cKp1 := Kp.cell 1
  have cKp2 := Kp.cell 2
  have lKs := Ks.lt
  have cKs0 := Ks.cell 0
  have cKs1 := Ks.cell 1
  have cKs2 := Ks.cell 2
  have lKA := KA.lt
  have cKA0 := KA.cell 0
  have cKA1 := KA.cell 1
  have cKA2 := KA.cell 2
  have lKX := KX.lt
  have cKX0 := KX.cell 0
  have cKX1 := KX.cell 1
  have cKX2 := KX.cell 2
  simp only [List.getElem?_toArray, List.getElem?_cons_succ, List.getElem?_cons_zero] at cKp0 cKp1 cKp2 cKs0 cKs1 cKs2 cKA0 cKA1 cKA2 cKX0 cKX1 cKX2
  go_wp2_with fail
  have hst0 : Below w6.heap.size w6 (w6.alloc (.cells #[.int .i64 (W : Int), .int .i64 (H : Int), .slice (some ⟨gY, 0, none⟩) H H] 35)) := by (repeat' (first | exact Below.refl _ _ | exact Below.refl _ _ | refine balloc ?_ _ | refine Below.drew ?_ | refine below_drewN ?_ _ | refine bset ?_ (by first | omega | (simp <;> omega)) _))
  refine (HLA.out _ _ _ _ _ _ _ _ _ _ (HhS.out.below hst0) (HhP.out.below hst0) (HqX.out.below hst0)).mono ?_
  rintro e_ w7 ⟨ga, fa, hga, rfl, qa, hb⟩
  clear hga
  have hst : Below w6.heap.size w6 w7 := btrans hst0 hb
  replace Kp := (Kp.alloc (.cells #[.int .i64 (W : Int), .int .i64 (H : Int), .slice (some ⟨gY, 0, none⟩) H H] 35))
  replace Ks := (Ks.alloc (.cells #[.int .i64 (W : Int), .int .i64 (H : Int), .slice (some ⟨gY, 0, none⟩) H H] 35))
  replace KA := (KA.alloc (.cells #[.int .i64 (W : Int), .int .i64 (H : Int), .slice (some ⟨gY, 0, none⟩) H H] 35))
  replace KX := (KX.alloc (.cells #[.int .i64 (W : Int), .int .i64 (H : Int), .slice (some ⟨gY, 0, none⟩) H H] 35))
  have KY := (Blk.new w6 35 #[.int .i64 (W : Int), .int .i64 (H : Int), .slice (some ⟨gY, 0, none⟩) H H])
  replace Kp := Kp.below hb Kp.lt
  replace Ks := Ks.below hb Ks.lt
  replace KA := KA.below hb KA.lt
  replace KX := KX.below hb KX.lt
  replace KY := KY.below hb KY.lt
  replace hbw : Below w.heap.size w w7 := btrans hbw hst
  replace HI1 := Lib.hid (HI1.out.below hst)
  replace HI2 := Lib.hid (HI2.out.below hst)
  replace HhP := Lib.hid (HhP.out.below hst)
  replace HhS := Lib.hid (HhS.out.below hst)
  replace HqA := Lib.hid (HqA.out.below hst)
  replace HqX := Lib.hid (HqX.out.below hst)
  replace HqY := Lib.hid (HqY.out.below hst)
  clear hst hst0 hb lKp cKp0 cKp1 cKp2 lKs cKs0 cKs1 cKs2 lKA cKA0 cKA1 cKA2 lKX cKX0 cKX1 cKX2
  have Hqa := Lib.hid qa
  clear qa
  have lKp := Kp.lt
  have cKp0 := Kp.cell 0
  have cKp1 := Kp.cell 1
  have cKp2 := Kp.cell 2
  have lKs := Ks.lt
  have cKs0 := Ks.cell 0
  have cKs1 := Ks.cell 1
  have cKs2 := Ks.cell 2
  have lKA := KA.lt
  have cKA0 := KA.cell 0
  have cKA1 := KA.cell 1
  have cKA2 := KA.cell 2
  have lKX := KX.lt
  have cKX0 := KX.cell 0
  have cKX1 := KX.cell 1
  have cKX2 := KX.cell 2
  have lKY := KY.lt
  have cKY0 := KY.cell 0
  have cKY1 := KY.cell 1
  have cKY2 := KY.cell 2
  simp only [List.getElem?_toArray, List.getElem?_cons_succ, List.getElem?_cons_zero] at cKp0 cKp1 cKp2 cKs0 cKs1 cKs2 cKA0 cKA1 cKA2 cKX0 cKX1 cKX2 cKY0 cKY1 cKY2
  go_wp2_with fail
  have hst0 : Below w7.heap.size w7 (w7.alloc (.cells #[.int .i64 (W : Int), .int .i64 (H : Int), .slice (some ⟨ga, 0, none⟩) N fa] 30)) := by (repeat' (first | exact Below.refl _ _ | exact Below.refl _ _ | refine balloc ?_ _ | refine Below.drew ?_ | refine below_drewN ?_ _ | refine bset ?_ (by first | omega | (simp <;> omega)) _))
  refine (HLA.out _ _ _ _ _ _ _ _ _ _ (Hqa.out.below hst0) (HhP.out.below hst0) (HqY.out.below hst0)).mono ?_
  rintro e_ w8 ⟨gb, fb, hgb, rfl, qb, hb⟩
  clear hgb
  have hst : Below w7.heap.size w7 w8 := btrans hst0 hb
  replace Kp := (Kp.alloc (.cells #[.int .i64 (W : Int), .int .i64 (H : Int), .slice (some ⟨ga, 0, none⟩) N fa] 30))
  replace Ks := (Ks.alloc (.cells #[.int .i64 (W : Int), .int .i64 (H : Int), .slice (some ⟨ga, 0, none⟩) N fa] 30))
  replace KA := (KA.alloc (.cells #[.int .i64 (W : Int), .int .i64 (H : Int), .slice (some ⟨ga, 0, none⟩) N fa] 30))
  replace KX := (KX.alloc (.cells #[.int .i64 (W : Int), .int .i64 (H : Int), .slice (some ⟨ga, 0, none⟩) N fa] 30))
  replace KY := (KY.alloc (.cells #[.int .i64 (W : Int), .int .i64 (H : Int), .slice (some ⟨ga, 0, none⟩) N fa] 30))
  have Ka := (Blk.new w7 30 #[.int .i64 (W : Int), .int .i64 (H : Int), .slice (some ⟨ga, 0, none⟩) N fa])
  replace Kp := Kp.below hb Kp.lt
  replace Ks := Ks.below hb Ks.lt
  replace KA := KA.below hb KA.lt
  replace KX := KX.below hb KX.lt
  replace KY := KY.below hb KY.lt
  replace Ka := Ka.below hb Ka.lt
  replace hbw : Below w.heap.size w w8 := btrans hbw hst
  replace HI1 := Lib.hid (HI1.out.below hst)
  replace HI2 := Lib.hid (HI2.out.below hst)
  replace HhP := Lib.hid (HhP.out.below hst)
  replace HhS := Lib.hid (HhS.out.below hst)
  replace HqA := Lib.hid (HqA.out.below hst)
  replace HqX := Lib.hid (HqX.out.below hst)
  replace HqY := Lib.hid (HqY.out.below hst)
  replace Hqa := Lib.hid (Hqa.out.below hst)
  clear hst hst0 hb lKp cKp0 cKp1 cKp2 lKs cKs0 cKs1 cKs2 lKA cKA0 cKA1 cKA2 lKX cKX0 cKX1 cKX2 lKY cKY0 cKY1 cKY2
  have Hqb := Lib.hid qb
  clear qb
  have lKp := Kp.lt
  have cKp0 := Kp.cell 0
  have cKp1 := Kp.cell 1
  have cKp2 := Kp.cell 2
  have lKs := Ks.lt
  have cKs0 := Ks.cell 0
  have cKs1 := Ks.cell 1
  have cKs2 := Ks.cell 2
  have lKA := KA.lt
  have cKA0 := KA.cell 0
  have cKA1 := KA.cell 1
  have cKA2 := KA.cell 2
  have lKX := KX.lt
  have cKX0 := KX.cell 0
  have cKX1 := KX.cell 1
  have cKX2 := KX.cell 2
  have lKY := KY.lt
  have cKY0 := KY.cell 0
  have cKY1 := KY.cell 1
  have cKY2 := KY.cell 2
  have lKa := Ka.lt
  have cKa0 := Ka.cell 0
  have cKa1 := Ka.cell 1
  have cKa2 := Ka.cell 2
  simp only [List.getElem?_toArray, List.getElem?_cons_succ, List.getElem?_cons_zero] at cKp0 cKp1 cKp2 cKs0 cKs1 cKs2 cKA0 cKA1 cKA2 cKX0 cKX1 cKX2 cKY0 cKY1 cKY2 cKa0 cKa1 cKa2
  go_wp2_with fail
  have hst0 : Below w8.heap.size w8 (w8.alloc (.cells #[.int .i64 (W : Int), .int .i64 (H : Int), .slice (some ⟨gb, 0, none⟩) N fb] 30)) := by (repeat' (first | exact Below.refl _ _ | exact Below.refl _ _ | refine balloc ?_ _ | refine Below.drew ?_ | refine below_drewN ?_ _ | refine bset ?_ (by first | omega | (simp <;> omega)) _))
  refine (HLA.out _ _ _ _ _ _ _ _ _ _ (HhS.out.below hst0) (HhP.out.below hst0) (HqA.out.below hst0)).mono ?_
  rintro e_ w9 ⟨gc, fc, hgc, rfl, qc, hb⟩
  clear hgc
  have hst : Below w8.heap.size w8 w9 := btrans hst0 hb
  replace Kp := (Kp.alloc (.cells #[.int .i64 (W : Int), .int .i64 (H : Int), .slice (some ⟨gb, 0, none⟩) N fb] 30))
  replace Ks := (Ks.alloc (.cells #[.int .i64 (W : Int), .int .i64 (H : Int), .slice (some ⟨gb, 0, none⟩) N fb] 30))
  replace KA := (KA.alloc (.cells #[.int .i64 (W : Int), .int .i64 (H : Int), .slice (some ⟨gb, 0, none⟩) N fb] 30))
  replace KX := (KX.alloc (.cells #[.int .i64 (W : Int), .int .i64 (H : Int), .slice (some ⟨gb, 0, none⟩) N fb] 30))
  replace KY := (KY.alloc (.cells #[.int .i64 (W : Int), .int .i64 (H : Int), .slice (some ⟨gb, 0, none⟩) N fb] 30))
  replace Ka := (Ka.alloc (.cells #[.int .i64 (W : Int), .int .i64 (H : Int), .slice (some ⟨gb, 0, none⟩) N fb] 30))
  have Kb := (Blk.new w8 30 #[.int .i64 (W : Int), .int .i64 (H : Int), .slice (some ⟨gb, 0, none⟩) N fb])
  replace Kp := Kp.below hb Kp.lt
  replace Ks := Ks.below hb Ks.lt
  replace KA := KA.below hb KA.lt
  replace KX := KX.below hb KX.lt
  replace KY := KY.below hb KY.lt
  replace Ka := Ka.below hb Ka.lt
  replace Kb := Kb.below hb Kb.lt
  replace hbw : Below w.heap.size w w9 := btrans hbw hst
  replace HI1 := Lib.hid (HI1.out.below hst)
  replace HI2 := Lib.hid (HI2.out.below hst)
  replace HhP := Lib.hid (HhP.out.below hst)
  replace HhS := Lib.hid (HhS.out.below hst)
  replace HqA := Lib.hid (HqA.out.below hst)
  replace HqX := Lib.hid (HqX.out.below hst)
  replace HqY := Lib.hid (HqY.out.below hst)
  replace Hqa := Lib.hid (Hqa.out.below hst)
  replace Hqb := Lib.hid (Hqb.out.below hst)
  clear hst hst0 hb lKp cKp0 cKp1 cKp2 lKs cKs0 cKs1 cKs2 lKA cKA0 cKA1 cKA2 lKX cKX0 cKX1 cKX2 lKY cKY0 cKY1 cKY2 lKa cKa0 cKa1 cKa2
  have Hqc := Lib.hid qc
  clear qc
  have lKp := Kp.lt
  have cKp0 := Kp.cell 0
  have cKp1 := Kp.cell 1
  have cKp2 := Kp.cell 2
  have lKs := Ks.lt
  have cKs0 := Ks.cell 0
  have cKs1 := Ks.cell 1
  have cKs2 := Ks.cell 2
  have lKA := KA.lt
  have cKA0 := KA.cell 0
  have cKA1 := KA.cell 1
  have cKA2 := KA.cell 2
  have lKX := KX.lt
  have cKX0 := KX.cell 0
  have cKX1 := KX.cell 1
  have cKX2 := KX.cell 2
  have lKY := KY.lt
  have cKY0 := KY.cell 0
  have cKY1 := KY.cell 1
  have cKY2 := KY.cell 2
  have lKa := Ka.lt
  have cKa0 := Ka.cell 0
  have cKa1 := Ka.cell 1
  have cKa2 := Ka.cell 2
  have lKb := Kb.lt
  have cKb0 := Kb.cell 0
  have cKb1 := Kb.cell 1
  have cKb2 := Kb.cell 2
  simp only [List.getElem?_toArray, List.getElem?_cons_succ, List.getElem?_cons_zero] at cKp0 cKp1 cKp2 cKs0 cKs1 cKs2 cKA0 cKA1 cKA2 cKX0 cKX1 cKX2 cKY0 cKY1 cKY2 cKa0 cKa1 cKa2 cKb0 cKb1 cKb2
  go_wp2_with fail
  have hst0 : Below w9.heap.size w9 (w9.alloc (.cells #[.int .i64 (W : Int), .int .i64 (H : Int), .slice (some ⟨gc, 0, none⟩) N fc] 30)) := by (repeat' (first | exact Below.refl _ _ | exact Below.refl _ _ | refine balloc ?_ _ | refine Below.drew ?_ | refine below_drewN ?_ _ | refine bset ?_ (by first | omega | (simp <;> omega)) _))
  refine (HUN.out _ _ _ _ _ _ _ (Hqa.out.below hst0) (HhP.out.below hst0)).mono ?_
  rintro e_ w10 ⟨gu, hgu, rfl, qu, hb⟩
  clear hgu
  have hst : Below w9.heap.size w9 w10 := btrans hst0 hb
  replace Kp := (Kp.alloc (.cells #[.int .i64 (W : Int), .int .i64 (H : Int), .slice (some ⟨gc, 0, none⟩) N fc] 30))
  replace Ks := (Ks.alloc (.cells #[.int .i64 (W : Int), .int .i64 (H : Int), .slice (some ⟨gc, 0, none⟩) N fc] 30))
  replace KA := (KA.alloc (.cells #[.int .i64 (W : Int), .int .i64 (H : Int), .slice (some ⟨gc, 0, none⟩) N fc] 30))
  replace KX := (KX.alloc (.cells #[.int .i64 (W : Int), .int .i64 (H : Int), .slice (some ⟨gc, 0, none⟩) N fc] 30))
  replace KY := (KY.alloc (.cells #[.int .i64 (W : Int), .int .i64 (H : Int), .slice (some ⟨gc, 0, none⟩) N fc] 30))
  replace Ka := (Ka.alloc (.cells #[.int .i64 (W : Int), .int .i64 (H : Int), .slice (some ⟨gc, 0, none⟩) N fc] 30))
  replace Kb := (Kb.alloc (.cells #[.int .i64 (W : Int), .int .i64 (H : Int), .slice (some ⟨gc, 0, none⟩) N fc] 30))
  have Kc := (Blk.new w9 30 #[.int .i64 (W : Int), .int .i64 (H : Int), .slice (some ⟨gc, 0, none⟩) N fc])
  replace Kp := Kp.below hb Kp.lt
  replace Ks := Ks.below hb Ks.lt
  replace KA := KA.below hb KA.lt
  replace KX := KX.below hb KX.lt
  replace KY := KY.below hb KY.lt
  replace Ka := Ka.below hb Ka.lt
  replace Kb := Kb.below hb Kb.lt
  replace Kc := Kc.below hb Kc.lt
  replace hbw : Below w.heap.size w w10 := btrans hbw hst
  replace HI1 := Lib.hid (HI1.out.below hst)
  replace HI2 := Lib.hid (HI2.out.below hst)
  replace HhP := Lib.hid (HhP.out.below hst)
  replace HhS := Lib.hid (HhS.out.below hst)
  replace HqA := Lib.hid (HqA.out.below hst)
  replace HqX := Lib.hid (HqX.out.below hst)
  replace HqY := Lib.hid (HqY.out.below hst)
  replace Hqa := Lib.hid (Hqa.out.below hst)
  replace Hqb := Lib.hid (Hqb.out.below hst)
  replace Hqc := Lib.hid (Hqc.out.below hst)
  clear hst hst0 hb lKp cKp0 cKp1 cKp2 lKs cKs0 cKs1 cKs2 lKA cKA0 cKA1 cKA2 lKX cKX0 cKX1 cKX2 lKY cKY0 cKY1 cKY2 lKa cKa0 cKa1 cKa2 lKb cKb0 cKb1 cKb2
  have Hqu := Lib.hid qu
  clear qu
  have lKp := Kp.lt
  have cKp0 := Kp.cell 0
  have cKp1 := Kp.cell 1
  have cKp2 := Kp.cell 2
  have lKs := Ks.lt
  have cKs0 := Ks.cell 0
  have cKs1 := Ks.cell 1
  have cKs2 := Ks.cell 2
  have lKA := KA.lt
  have cKA0 := KA.cell 0
  have cKA1 := KA.cell 1
  have cKA2 := KA.cell 2
  have lKX := KX.lt
  have cKX0 := KX.cell 0
  have cKX1 := KX.cell 1
  have cKX2 := KX.cell 2
  have lKY := KY.lt
  have cKY0 := KY.cell 0
  have cKY1 := KY.cell 1
  have cKY2 := KY.cell 2
  have lKa := Ka.lt
  have cKa0 := Ka.cell 0
  have cKa1 := Ka.cell 1
  have cKa2 := Ka.cell 2
  have lKb := Kb.lt
  have cKb0 := Kb.cell 0
  have cKb1 := Kb.cell 1
  have cKb2 := Kb.cell 2
  have lKc := Kc.lt
  have cKc0 := Kc.cell 0
  have cKc1 := Kc.cell 1
  have cKc2 := Kc.cell 2
  simp only [List.getElem?_toArray, List.getElem?_cons_succ, List.getElem?_cons_zero] at cKp0 cKp1 cKp2 cKs0 cKs1 cKs2 cKA0 cKA1 cKA2 cKX0 cKX1 cKX2 cKY0 cKY1 cKY2 cKa0 cKa1 cKa2 cKb0 cKb1 cKb2 cKc0 cKc1 cKc2
  go_wp2_with fail
  have hst0 : Below w10.heap.size w10 (w10.alloc (.cells #[.int .i64 (W : Int), .int .i64 (H : Int), .slice (some ⟨gu, 0, none⟩) H H] 35)) := by (repeat' (first | exact Below.refl _ _ | exact Below.refl _ _ | refine balloc ?_ _ | refine Below.drew ?_ | refine below_drewN ?_ _ | refine bset ?_ (by first | omega | (simp <;> omega)) _))
  refine (HLE.out _ _ _ _ _ _ _ (Hqu.out.below hst0) (HqY.out.below hst0)).mono ?_
  rintro e_ w11 ⟨ge, hge, rfl, qe, hb⟩
  clear hge
  have hst : Below w10.heap.size w10 w11 := btrans hst0 hb
  replace Kp := (Kp.alloc (.cells #[.int .i64 (W : Int), .int .i64 (H : Int), .slice (some ⟨gu, 0, none⟩) H H] 35))
  replace Ks := (Ks.alloc (.cells #[.int .i64 (W : Int), .int .i64 (H : Int), .slice (some ⟨gu, 0, none⟩) H H] 35))
  replace KA := (KA.alloc (.cells #[.int .i64 (W : Int), .int .i64 (H : Int), .slice (some ⟨gu, 0, none⟩) H H] 35))
  replace KX := (KX.alloc (.cells #[.int .i64 (W : Int), .int .i64 (H : Int), .slice (some ⟨gu, 0, none⟩) H H] 35))
  replace KY := (KY.alloc (.cells #[.int .i64 (W : Int), .int .i64 (H : Int), .slice (some ⟨gu, 0, none⟩) H H] 35))
  replace Ka := (Ka.alloc (.cells #[.int .i64 (W : Int), .int .i64 (H : Int), .slice (some ⟨gu, 0, none⟩) H H] 35))
  replace Kb := (Kb.alloc (.cells #[.int .i64 (W : Int), .int .i64 (H : Int), .slice (some ⟨gu, 0, none⟩) H H] 35))
  replace Kc := (Kc.alloc (.cells #[.int .i64 (W : Int), .int .i64 (H : Int), .slice (some ⟨gu, 0, none⟩) H H] 35))
  have Ku := (Blk.new w10 35 #[.int .i64 (W : Int), .int .i64 (H : Int), .slice (some ⟨gu, 0, none⟩) H H])
  replace Kp := Kp.below hb Kp.lt
  replace Ks := Ks.below hb Ks.lt
  replace KA := KA.below hb KA.lt
  replace KX := KX.below hb KX.lt
  replace KY := KY.below hb KY.lt
  replace Ka := Ka.below hb Ka.lt
  replace Kb := Kb.below hb Kb.lt
  replace Kc := Kc.below hb Kc.lt
  replace Ku := Ku.below hb Ku.lt
  replace hbw : Below w.heap.size w w11 := btrans hbw hst
  replace HI1 := Lib.hid (HI1.out.below hst)
  replace HI2 := Lib.hid (HI2.out.below hst)
  replace HhP := Lib.hid (HhP.out.below hst)
  replace HhS := Lib.hid (HhS.out.below hst)
  replace HqA := Lib.hid (HqA.out.below hst)
  replace HqX := Lib.hid (HqX.out.below hst)
  replace HqY := Lib.hid (HqY.out.below hst)
  replace Hqa := Lib.hid (Hqa.out.below hst)
  replace Hqb := Lib.hid (Hqb.out.below hst)
  replace Hqc := Lib.hid (Hqc.out.below hst)
  replace Hqu := Lib.hid (Hqu.out.below hst)
  clear hst hst0 hb lKp cKp0 cKp1 cKp2 lKs cKs0 cKs1 cKs2 lKA cKA0 cKA1 cKA2 lKX cKX0 cKX1 cKX2 lKY cKY0 cKY1 cKY2 lKa cKa0 cKa1 cKa2 lKb cKb0 cKb1 cKb2 lKc cKc0 cKc1 cKc2
  have Hqe := Lib.hid qe
  clear qe
  have lKp := Kp.lt
  have cKp0 := Kp.cell 0
  have cKp1 := Kp.cell 1
  have cKp2 := Kp.cell 2
  have lKs := Ks.lt
  have cKs0 := Ks.cell 0
  have cKs1 := Ks.cell 1
  have cKs2 := Ks.cell 2
  have lKA := KA.lt
  have cKA0 := KA.cell 0
  have cKA1 := KA.cell 1
  have cKA2 := KA.cell 2
  have lKX := KX.lt
  have cKX0 := KX.cell 0
  have cKX1 := KX.cell 1
  have cKX2 := KX.cell 2
  have lKY := KY.lt
  have cKY0 := KY.cell 0
  have cKY1 := KY.cell 1
  have cKY2 := KY.cell 2
  have lKa := Ka.lt
  have cKa0 := Ka.cell 0
  have cKa1 := Ka.cell 1
  have cKa2 := Ka.cell 2
  have lKb := Kb.lt
  have cKb0 := Kb.cell 0
  have cKb1 := Kb.cell 1
  have cKb2 := Kb.cell 2
  have lKc := Kc.lt
  have cKc0 := Kc.cell 0
  have cKc1 := Kc.cell 1
  have cKc2 := Kc.cell 2
  have lKu := Ku.lt
  have cKu0 := Ku.cell 0
  have cKu1 := Ku.cell 1
  have cKu2 := Ku.cell 2
  simp only [List.getElem?_toArray, List.getElem?_cons_succ, List.getElem?_cons_zero] at cKp0 cKp1 cKp2 cKs0 cKs1 cKs2 cKA0 cKA1 cKA2 cKX0 cKX1 cKX2 cKY0 cKY1 cKY2 cKa0 cKa1 cKa2 cKb0 cKb1 cKb2 cKc0 cKc1 cKc2 cKu0 cKu1 cKu2
  go_wp2_with fail
  have hst0 : Below w11.heap.size w11 (w11.alloc (.cells #[.int .i64 (W : Int), .int .i64 (H : Int), .slice (some ⟨ge, 0, none⟩) H H] 35)) := by (repeat' (first | exact Below.refl _ _ | exact Below.refl _ _ | refine balloc ?_ _ | refine Below.drew ?_ | refine below_drewN ?_ _ | refine bset ?_ (by first | omega | (simp <;> omega)) _))
  refine (psame_yes _ _ _ _ _ _ _ _ _ _ (Hqb.out.below hst0) (HhP.out.below hst0) (fun j hj => HS1.out B C j hj)).mono ?_
  rintro e_ w12 ⟨rfl, hb⟩
  have hst : Below w11.heap.size w11 w12 := btrans hst0 hb
  replace Kp := (Kp.alloc (.cells #[.int .i64 (W : Int), .int .i64 (H : Int), .slice (some ⟨ge, 0, none⟩) H H] 35))
  replace Ks := (Ks.alloc (.cells #[.int .i64 (W : Int), .int .i64 (H : Int), .slice (some ⟨ge, 0, none⟩) H H] 35))
  replace KA := (KA.alloc (.cells #[.int .i64 (W : Int), .int .i64 (H : Int), .slice (some ⟨ge, 0, none⟩) H H] 35))
  replace KX := (KX.alloc (.cells #[.int .i64 (W : Int), .int .i64 (H : Int), .slice (some ⟨ge, 0, none⟩) H H] 35))
  replace KY := (KY.alloc (.cells #[.int .i64 (W : Int), .int .i64 (H : Int), .slice (some ⟨ge, 0, none⟩) H H] 35))
  replace Ka := (Ka.alloc (.cells #[.int .i64 (W : Int), .int .i64 (H : Int), .slice (some ⟨ge, 0, none⟩) H H] 35))
  replace Kb := (Kb.alloc (.cells #[.int .i64 (W : Int), .int .i64 (H : Int), .slice (some ⟨ge, 0, none⟩) H H] 35))
  replace Kc := (Kc.alloc (.cells #[.int .i64 (W : Int), .int .i64 (H : Int), .slice (some ⟨ge, 0, none⟩) H H] 35))
  replace Ku := (Ku.alloc (.cells #[.int .i64 (W : Int), .int .i64 (H : Int), .slice (some ⟨ge, 0, none⟩) H H] 35))
  have Ke := (Blk.new w11 35 #[.int .i64 (W : Int), .int .i64 (H : Int), .slice (some ⟨ge, 0, none⟩) H H])
  replace Kp := Kp.below hb Kp.lt
  replace Ks := Ks.below hb Ks.lt
  replace KA := KA.below hb KA.lt
  replace KX := KX.below hb KX.lt
  replace KY := KY.below hb KY.lt
  replace Ka := Ka.below hb Ka.lt
  replace Kb := Kb.below hb Kb.lt
  replace Kc := Kc.below hb Kc.lt
  replace Ku := Ku.below hb Ku.lt
  replace Ke := Ke.below hb Ke.lt
  replace hbw : Below w.heap.size w w12 := btrans hbw hst
  replace HI1 := Lib.hid (HI1.out.below hst)
  replace HI2 := Lib.hid (HI2.out.below hst)
  replace HhP := Lib.hid (HhP.out.below hst)
  replace HhS := Lib.hid (HhS.out.below hst)
  replace HqA := Lib.hid (HqA.out.below hst)
  replace HqX := Lib.hid (HqX.out.below hst)
  replace HqY := Lib.hid (HqY.out.below hst)
  replace Hqa := Lib.hid (Hqa.out.below hst)
  replace Hqb := Lib.hid (Hqb.out.below hst)
  replace Hqc := Lib.hid (Hqc.out.below hst)
  replace Hqu := Lib.hid (Hqu.out.below hst)
  replace Hqe := Lib.hid (Hqe.out.below hst)
  clear hst hst0 hb lKp cKp0 cKp1 cKp2 lKs cKs0 cKs1 cKs2 lKA cKA0 cKA1 cKA2 lKX cKX0 cKX1 cKX2 lKY cKY0 cKY1 cKY2 lKa cKa0 cKa1 cKa2 lKb cKb0 cKb1 cKb2 lKc cKc0 cKc1 cKc2 lKu cKu0 cKu1 cKu2
  have lKp := Kp.lt
  have cKp0 := Kp.cell 0
  have cKp1 := Kp.cell 1
  have cKp2 := Kp.cell 2
  have lKs := Ks.lt
  have cKs0 := Ks.cell 0
  have cKs1 := Ks.cell 1
  have cKs2 := Ks.cell 2
  have lKA := KA.lt
  have cKA0 := KA.cell 0
  have cKA1 := KA.cell 1
  have cKA2 := KA.cell 2
  have lKX := KX.lt
  have cKX0 := KX.cell 0
  have cKX1 := KX.cell 1
  have cKX2 := KX.cell 2
  have lKY := KY.lt
  have cKY0 := KY.cell 0
  have cKY1 := KY.cell 1
  have cKY2 := KY.cell 2
  have lKa := Ka.lt
  have cKa0 := Ka.cell 0
  have cKa1 := Ka.cell 1
  have cKa2 := Ka.cell 2
  have lKb := Kb.lt
  have cKb0 := Kb.cell 0
  have cKb1 := Kb.cell 1
  have cKb2 := Kb.cell 2
  have lKc := Kc.lt
  have cKc0 := Kc.cell 0
  have cKc1 := Kc.cell 1
  have cKc2 := Kc.cell 2
  have lKu := Ku.lt
  have cKu0 := Ku.cell 0
  have cKu1 := Ku.cell 1
  have cKu2 := Ku.cell 2
  have lKe := Ke.lt
  have cKe0 := Ke.cell 0
  have cKe1 := Ke.cell 1
  have cKe2 := Ke.cell 2
  simp only [List.getElem?_toArray, List.getElem?_cons_succ, List.getElem?_cons_zero] at cKp0 cKp1 cKp2 cKs0 cKs1 cKs2 cKA0 cKA1 cKA2 cKX0 cKX1 cKX2 cKY0 cKY1 cKY2 cKa0 cKa1 cKa2 cKb0 cKb1 cKb2 cKc0 cKc1 cKc2 cKu0 cKu1 cKu2 cKe0 cKe1 cKe2
  go_wp2_with fail
  have hst0 : Below w12.heap.size w12 w12 := by (repeat' (first | exact Below.refl _ _ | exact Below.refl _ _ | refine balloc ?_ _ | refine Below.drew ?_ | refine below_drewN ?_ _ | refine bset ?_ (by first | omega | (simp <;> omega)) _))
  refine (psame_yes _ _ _ _ _ _ _ _ _ _ (Hqc.out.below hst0) (HhP.out.below hst0) (fun j hj => by unfold layB; simp)).mono ?_
  rintro e_ w13 ⟨rfl, hb⟩
  have hst : Below w12.heap.size w12 w13 := btrans hst0 hb
  replace Kp := Kp.below hb Kp.lt
  replace Ks := Ks.below hb Ks.lt
  replace KA := KA.below hb KA.lt
  replace KX := KX.below hb KX.lt
  replace KY := KY.below hb KY.lt
  replace Ka := Ka.below hb Ka.lt
  replace Kb := Kb.below hb Kb.lt
  replace Kc := Kc.below hb Kc.lt
  replace Ku := Ku.below hb Ku.lt
  replace Ke := Ke.below hb Ke.lt
  replace hbw : Below w.heap.size w w13 := btrans hbw hst
  replace HI1 := Lib.hid (HI1.out.below hst)
  replace HI2 := Lib.hid (HI2.out.below hst)
  replace HhP := Lib.hid (HhP.out.below hst)
  replace HhS := Lib.hid (HhS.out.below hst)
  replace HqA := Lib.hid (HqA.out.below hst)
  replace HqX := Lib.hid (HqX.out.below hst)
  replace HqY := Lib.hid (HqY.out.below hst)
  replace Hqa := Lib.hid (Hqa.out.below hst)
  replace Hqb := Lib.hid (Hqb.out.below hst)
  replace Hqc := Lib.hid (Hqc.out.below hst)
  replace Hqu := Lib.hid (Hqu.out.below hst)
  replace Hqe := Lib.hid (Hqe.out.below hst)
  clear hst hst0 hb lKp cKp0 cKp1 cKp2 lKs cKs0 cKs1 cKs2 lKA cKA0 cKA1 cKA2 lKX cKX0 cKX1 cKX2 lKY cKY0 cKY1 cKY2 lKa cKa0 cKa1 cKa2 lKb cKb0 cKb1 cKb2 lKc cKc0 cKc1 cKc2 lKu cKu0 cKu1 cKu2 lKe cKe0 cKe1 cKe2
  have lKp := Kp.lt
  have cKp0 := Kp.cell 0
  have cKp1 := Kp.cell 1
  have cKp2 := Kp.cell 2
  have lKs := Ks.lt
  have cKs0 := Ks.cell 0
  have cKs1 := Ks.cell 1
  have cKs2 := Ks.cell 2
  have lKA := KA.lt
  have cKA0 := KA.cell 0
  have cKA1 := KA.cell 1
  have cKA2 := KA.cell 2
  have lKX := KX.lt
  have cKX0 := KX.cell 0
  have cKX1 := KX.cell 1
  have cKX2 := KX.cell 2
  have lKY := KY.lt
  have cKY0 := KY.cell 0
  have cKY1 := KY.cell 1
  have cKY2 := KY.cell 2
  have lKa := Ka.lt
  have cKa0 := Ka.cell 0
  have cKa1 := Ka.cell 1
  have cKa2 := Ka.cell 2
  have lKb := Kb.lt
  have cKb0 := Kb.cell 0
  have cKb1 := Kb.cell 1
  have cKb2 := Kb.cell 2
  have lKc := Kc.lt
  have cKc0 := Kc.cell 0
  have cKc1 := Kc.cell 1
  have cKc2 := Kc.cell 2
  have lKu := Ku.lt
  have cKu0 := Ku.cell 0
  have cKu1 := Ku.cell 1
  have cKu2 := Ku.cell 2
  have lKe := Ke.lt
  have cKe0 := Ke.cell 0
  have cKe1 := Ke.cell 1
  have cKe2 := Ke.cell 2
  simp only [List.getElem?_toArray, List.getElem?_cons_succ, List.getElem?_cons_zero] at cKp0 cKp1 cKp2 cKs0 cKs1 cKs2 cKA0 cKA1 cKA2 cKX0 cKX1 cKX2 cKY0 cKY1 cKY2 cKa0 cKa1 cKa2 cKb0 cKb1 cKb2 cKc0 cKc1 cKc2 cKu0 cKu1 cKu2 cKe0 cKe1 cKe2
  go_wp2_with fail
  have hst0 : Below w13.heap.size w13 w13 := by (repeat' (first | exact Below.refl _ _ | exact Below.refl _ _ | refine balloc ?_ _ | refine Below.drew ?_ | refine below_drewN ?_ _ | refine bset ?_ (by first | omega | (simp <;> omega)) _))
  refine (HCO.out _ _ _ _ (Hqe.out.below hst0) (fun j hj i hi => HS2.out B C j hj i hi)).mono ?_
  rintro e_ w14 ⟨rfl, hb⟩
  have hst : Below w13.heap.size w13 w14 := btrans hst0 hb
  replace Kp := Kp.below hb Kp.lt
  replace Ks := Ks.below hb Ks.lt
  replace KA := KA.below hb KA.lt
  replace KX := KX.below hb KX.lt
  replace KY := KY.below hb KY.lt
  replace Ka := Ka.below hb Ka.lt
  replace Kb := Kb.below hb Kb.lt
  replace Kc := Kc.below hb Kc.lt
  replace Ku := Ku.below hb Ku.lt
  replace Ke := Ke.below hb Ke.lt
  replace hbw : Below w.heap.size w w14 := btrans hbw hst
  replace HI1 := Lib.hid (HI1.out.below hst)
  replace HI2 := Lib.hid (HI2.out.below hst)
  replace HhP := Lib.hid (HhP.out.below hst)
  replace HhS := Lib.hid (HhS.out.below hst)
  replace HqA := Lib.hid (HqA.out.below hst)
  replace HqX := Lib.hid (HqX.out.below hst)
  replace HqY := Lib.hid (HqY.out.below hst)
  replace Hqa := Lib.hid (Hqa.out.below hst)
  replace Hqb := Lib.hid (Hqb.out.below hst)
  replace Hqc := Lib.hid (Hqc.out.below hst)
  replace Hqu := Lib.hid (Hqu.out.below hst)
  replace Hqe := Lib.hid (Hqe.out.below hst)
  clear hst hst0 hb lKp cKp0 cKp1 cKp2 lKs cKs0 cKs1 cKs2 lKA cKA0 cKA1 cKA2 lKX cKX0 cKX1 cKX2 lKY cKY0 cKY1 cKY2 lKa cKa0 cKa1 cKa2 lKb cKb0 cKb1 cKb2 lKc cKc0 cKc1 cKc2 lKu cKu0 cKu1 cKu2 lKe cKe0 cKe1 cKe2
  have lKp := Kp.lt
  have cKp0 := Kp.cell 0
  have cKp1 := Kp.cell 1
  have cKp2 := Kp.cell 2
  have lKs := Ks.lt
  have cKs0 := Ks.cell 0
  have cKs1 := Ks.cell 1
  have cKs2 := Ks.cell 2
  have lKA := KA.lt
  have cKA0 := KA.cell 0
  have cKA1 := KA.cell 1
  have cKA2 := KA.cell 2
  have lKX := KX.lt
  have cKX0 := KX.cell 0
  have cKX1 := KX.cell 1
  have cKX2 := KX.cell 2
  have lKY := KY.lt
  have cKY0 := KY.cell 0
  have cKY1 := KY.cell 1
  have cKY2 := KY.cell 2
  have lKa := Ka.lt
  have cKa0 := Ka.cell 0
  have cKa1 := Ka.cell 1
  have cKa2 := Ka.cell 2
  have lKb := Kb.lt
  have cKb0 := Kb.cell 0
  have cKb1 := Kb.cell 1
  have cKb2 := Kb.cell 2
  have lKc := Kc.lt
  have cKc0 := Kc.cell 0
  have cKc1 := Kc.cell 1
  have cKc2 := Kc.cell 2
  have lKu := Ku.lt
  have cKu0 := Ku.cell 0
  have cKu1 := Ku.cell 1
  have cKu2 := Ku.cell 2
  have lKe := Ke.lt
  have cKe0 := Ke.cell 0
  have cKe1 := Ke.cell 1
  have cKe2 := Ke.cell 2
  simp only [List.getElem?_toArray, List.getElem?_cons_succ, List.getElem?_cons_zero] at cKp0 cKp1 cKp2 cKs0 cKs1 cKs2 cKA0 cKA1 cKA2 cKX0 cKX1 cKX2 cKY0 cKY1 cKY2 cKa0 cKa1 cKa2 cKb0 cKb1 cKb2 cKc0 cKc1 cKc2 cKu0 cKu1 cKu2 cKe0 cKe1 cKe2
  go_wp2_with fail
  go_ret
  exact ⟨rfl, hbw⟩
end Go.Proofs.Ytmjpmeigfdgioaa.rg
