/-
  ScreenParts: the bits of a page that is laid together of two pages are the bits of each page at its pixels.
-/
import Derived.Test.YtodeebaogpepkaaLawDarker
import Derived.Test.YtodeebaogpepkaaLay
import Derived.Test.YtodeebaogpepkaaRMask
namespace Go.Proofs.Ytodeebaogpepkaa.rg
set_option linter.unusedVariables false
set_option linter.unusedSimpArgs false
open Go.RowKit bs sp ik op

/-- a region's bits -/
def setB (W : Nat) (R : Nat → Nat → Bool) (t : Nat) : Int := if R (t / W) (t % W) = true then 1 else 0
theorem setB_two (W : Nat) (R : Nat → Nat → Bool) (t : Nat) : setB W R t = 0 ∨ setB W R t = 1 := by
  unfold setB
  split
  · right; rfl
  · left; rfl
theorem parts_is (W : Nat) (R : Nat → Nat → Bool) (B C : Nat → Int) (k : Nat) :
    bitF W (layB W R B C) k = joinI (meetI (bitF W C k) (setB W R k)) (lessI (bitF W B k) (setB W R k)) := by
  have e : ∀ t, t < 3 → layB W R B C (3 * k + t) = if R (k / W) (k % W) = true then C (3 * k + t) else B (3 * k + t) := fun t ht => by
    unfold layB
    rw [show (3 * k + t) / 3 = k by omega]
  have e0 := e 0 (by omega)
  have e1 := e 1 (by omega)
  have e2 := e 2 (by omega)
  rw [Nat.add_zero] at e0
  have hb := bitF_two W B k
  have hc := bitF_two W C k
  by_cases h : R (k / W) (k % W) = true
  · rw [if_pos h] at e0 e1 e2
    have e3 : bitF W (layB W R B C) k = bitF W C k := by unfold bitF; rw [e0, e1, e2]
    have e4 : setB W R k = 1 := if_pos h
    rw [e3, e4]
    unfold joinI meetI lessI
    rcases hc with hc | hc <;> rw [hc] <;> simp
  · rw [if_neg h] at e0 e1 e2
    have e3 : bitF W (layB W R B C) k = bitF W B k := by unfold bitF; rw [e0, e1, e2]
    have e4 : setB W R k = 0 := if_neg h
    rw [e3, e4]
    unfold joinI meetI lessI
    rcases hb with hb | hb <;> rw [hb] <;> simp
set_option maxRecDepth 100000 in
set_option maxHeartbeats 12800000 in
theorem sparts_law (A1 : Option Addr) (n1 c1 : Nat) (ns1 : Nat → Int) (A2 : Option Addr) (n2 c2 : Nat) (ns2 : Nat → Int) (A3 : Option Addr) (n3 c3 : Nat) (ns3 : Nat → Int) (x y : Int) (w : World) (hr1 : Ints w A1 n1 c1 ns1) (hn1 : n1 ≤ 9223372036854775807) (hr2 : Ints w A2 n2 c2 ns2) (hn2 : n2 ≤ 9223372036854775807) (hr3 : Ints w A3 n3 c3 ns3) (hn3 : n3 ≤ 9223372036854775807) (_hx : -9223372036854775808 ≤ x ∧ x ≤ 9223372036854775807) (_hy : -9223372036854775808 ≤ y ∧ y ≤ 9223372036854775807) :
    Calls Try.prog 8 #[.slice A1 n1 c1, .slice A2 n2 c2, .slice A3 n3 c3, .int .i64 x, .int .i64 y] w fun ed w' => ed = .returned (.bool true) ∧ Below w.heap.size w w' := by
  obtain ⟨W, hW, hxW, hx0, hx1⟩ := twelve_fix x
  obtain ⟨H, hH, hyH, hy0, hy1⟩ := twelve_fix y
  have hPX := fun W => place_any x 12 W (by decide) (by decide)
  have hPY := fun W => place_any y 12 W (by decide) (by decide)
  obtain ⟨zx, hzx⟩ : ∃ z, x % 12 = z := ⟨_, rfl⟩
  obtain ⟨zy, hzy⟩ : ∃ z, y % 12 = z := ⟨_, rfl⟩
  rw [hzx] at hPX hxW hx0 hx1
  rw [hzy] at hPY hyH hy0 hy1
  have HXW := Lib.hid hxW
  have HYH := Lib.hid hyH
  have HPX := Lib.hid hPX
  have HPY := Lib.hid hPY
  obtain ⟨q, hq⟩ : ∃ q, W * H = q := ⟨_, rfl⟩
  obtain ⟨N, hN⟩ : ∃ N, N = 3 * (W * H) := ⟨_, rfl⟩
  have HPG := Lib.hid (fun W' h => lpage_any A1 n1 c1 ns1 W H N W' h hn1 hW hH hN)
  have HPS := Lib.hid (fun W' h => lpage_any A2 n2 c2 ns2 W H N W' h hn2 hW hH hN)
  have HM3 := Lib.hid (fun W' h => lmade_any A3 n3 c3 ns3 W H W' h hn3 hW hH)
  have HLA := Lib.hid (fun c d e A E D R B C W' hp hq hr => lay_any W H N c d e A E D R B C W' hW hH hN hp hq hr)
  have HBI := Lib.hid (fun c A B W' hp => sbits_any W H N c q A B W' hW hH hN hq hp)
  have HMS := Lib.hid (fun c A R W' hr => rmask_any W H q c A R W' hW hH hq hr)
  have HLE := Lib.hid (fun c d A D B C W' hp hB hr hC => cless_any W H q c d A D B C W' hW hH hq.symm hp hB hr hC)
  have HME := Lib.hid (fun c d A D B C W' hp hB hr hC => cmeet_any W H q c d A D B C W' hW hH hq.symm hp hB hr hC)
  have HJO := Lib.hid (fun c d A D B C W' hp hB hr hC => cjoin_any W H q c d A D B C W' hW hH hq.symm hp hB hr hC)
  have HB2 := Lib.hid (fun (B : Nat → Int) (j : Nat) (_ : j < q) => bitF_two W B j)
  have HT2 := Lib.hid (fun (R : Nat → Nat → Bool) (j : Nat) (_ : j < q) => setB_two W R j)
  have HX2 := Lib.hid (fun (C : Nat → Int) (R : Nat → Nat → Bool) (j : Nat) (_ : j < q) => meetI_two (bitF W C j) (setB W R j) (bitF_two W C j) (setB_two W R j))
  have HY2 := Lib.hid (fun (B : Nat → Int) (R : Nat → Nat → Bool) (j : Nat) (_ : j < q) => lessI_two (bitF W B j) (setB W R j) (bitF_two W B j) (setB_two W R j))
  have HFI := Lib.hid (fun (R : Nat → Nat → Bool) (B C : Nat → Int) (j : Nat) (_ : j < q) => parts_is W R B C j)
  have HI1 := Lib.hid hr1
  have HI2 := Lib.hid hr2
  have HI3 := Lib.hid hr3
  clear hxW hyH hPX hPY hzx hzy hN hq hr1 hr2 hr3 hn1 hn2 hn3 _hx _hy
  go_enter Try.func8, Try.ntmps8
  go_wp2_with fail
  have hst0 : Below w.heap.size w w := by (repeat' (first | exact Below.refl _ _ | exact Below.refl _ _ | refine balloc ?_ _ | refine Below.drew ?_ | refine below_drewN ?_ _ | refine bset ?_ (by first | omega | (simp <;> omega)) _))
  refine (sc.known_any _).mono ?_
  rintro e_ w1 ⟨rfl, hb⟩
  have hst : Below w.heap.size w w1 := btrans hst0 hb
  have hbw : Below w.heap.size w w1 := hst
  replace HI1 := Lib.hid (HI1.out.below hst)
  replace HI2 := Lib.hid (HI2.out.below hst)
  replace HI3 := Lib.hid (HI3.out.below hst)
  clear hst hst0 hb 
  go_wp2_with fail
  refine (HPX.out _).mono ?_
  rintro e_ w_ ⟨rfl, rfl⟩
  go_wp2_with fail
  refine (HPY.out _).mono ?_
  rintro e_ w_ ⟨rfl, rfl⟩
  go_wp2_with fail
  rw [HXW.out, HYH.out]
  clear hx0 hx1 hy0 hy1
  have hst0 : Below w1.heap.size w1 w1 := by (repeat' (first | exact Below.refl _ _ | exact Below.refl _ _ | refine balloc ?_ _ | refine Below.drew ?_ | refine below_drewN ?_ _ | refine bset ?_ (by first | omega | (simp <;> omega)) _))
  refine (HPG.out _ (HI1.out.below hst0)).mono ?_
  rintro e_ w2 ⟨gp, B, rfl, hP, hb⟩
  have hst : Below w1.heap.size w1 w2 := btrans hst0 hb
  replace hbw : Below w.heap.size w w2 := btrans hbw hst
  replace HI1 := Lib.hid (HI1.out.below hst)
  replace HI2 := Lib.hid (HI2.out.below hst)
  replace HI3 := Lib.hid (HI3.out.below hst)
  clear hst hst0 hb 
  have HhP := Lib.hid hP
  clear hP
  go_wp2_with fail
  have hst0 : Below w2.heap.size w2 w2 := by (repeat' (first | exact Below.refl _ _ | exact Below.refl _ _ | refine balloc ?_ _ | refine Below.drew ?_ | refine below_drewN ?_ _ | refine bset ?_ (by first | omega | (simp <;> omega)) _))
  refine (HPS.out _ (HI2.out.below hst0)).mono ?_
  rintro e_ w3 ⟨gs, C, rfl, hS, hb⟩
  have hst : Below w2.heap.size w2 w3 := btrans hst0 hb
  replace hbw : Below w.heap.size w w3 := btrans hbw hst
  replace HI1 := Lib.hid (HI1.out.below hst)
  replace HI2 := Lib.hid (HI2.out.below hst)
  replace HI3 := Lib.hid (HI3.out.below hst)
  replace HhP := Lib.hid (HhP.out.below hst)
  clear hst hst0 hb 
  have HhS := Lib.hid hS
  clear hS
  go_wp2_with fail
  have hst0 : Below w3.heap.size w3 w3 := by (repeat' (first | exact Below.refl _ _ | exact Below.refl _ _ | refine balloc ?_ _ | refine Below.drew ?_ | refine below_drewN ?_ _ | refine bset ?_ (by first | omega | (simp <;> omega)) _))
  refine (HM3.out _ (HI3.out.below hst0)).mono ?_
  rintro e_ w4 ⟨D1, d1, R, rfl, hR, hb⟩
  have hst : Below w3.heap.size w3 w4 := btrans hst0 hb
  replace hbw : Below w.heap.size w w4 := btrans hbw hst
  replace HI1 := Lib.hid (HI1.out.below hst)
  replace HI2 := Lib.hid (HI2.out.below hst)
  replace HI3 := Lib.hid (HI3.out.below hst)
  replace HhP := Lib.hid (HhP.out.below hst)
  replace HhS := Lib.hid (HhS.out.below hst)
  clear hst hst0 hb 
  have HhR := Lib.hid hR
  clear hR
  go_wp2_with fail
  have hst0 : Below w4.heap.size w4 (((w4.alloc (.cells #[.int .i64 (W : Int), .int .i64 (H : Int), .slice (some ⟨gp, 0, none⟩) N N] 34)).alloc (.cells #[.int .i64 (W : Int), .int .i64 (H : Int), .slice (some ⟨gs, 0, none⟩) N N] 34)).alloc (.cells #[.int .i64 (W : Int), .int .i64 (H : Int), .slice D1 H d1] 50)) := by (repeat' (first | exact Below.refl _ _ | exact Below.refl _ _ | refine balloc ?_ _ | refine Below.drew ?_ | refine below_drewN ?_ _ | refine bset ?_ (by first | omega | (simp <;> omega)) _))
  refine (HLA.out _ _ _ _ _ _ _ _ _ _ (HhP.out.below hst0) (HhS.out.below hst0) (HhR.out.below hst0)).mono ?_
  rintro e_ w5 ⟨gz, fz, hgz, rfl, qz, hb⟩
  clear hgz
  have hst : Below w4.heap.size w4 w5 := btrans hst0 hb
  have Kp := (((Blk.new w4 34 #[.int .i64 (W : Int), .int .i64 (H : Int), .slice (some ⟨gp, 0, none⟩) N N]).alloc (.cells #[.int .i64 (W : Int), .int .i64 (H : Int), .slice (some ⟨gs, 0, none⟩) N N] 34)).alloc (.cells #[.int .i64 (W : Int), .int .i64 (H : Int), .slice D1 H d1] 50))
  have Ks := ((Blk.new (w4.alloc (.cells #[.int .i64 (W : Int), .int .i64 (H : Int), .slice (some ⟨gp, 0, none⟩) N N] 34)) 34 #[.int .i64 (W : Int), .int .i64 (H : Int), .slice (some ⟨gs, 0, none⟩) N N]).alloc (.cells #[.int .i64 (W : Int), .int .i64 (H : Int), .slice D1 H d1] 50))
  have hz_Ks : (w4.alloc (.cells #[.int .i64 (W : Int), .int .i64 (H : Int), .slice (some ⟨gp, 0, none⟩) N N] 34)).heap.size = w4.heap.size + 1 := by simp
  rw [hz_Ks] at Ks
  clear hz_Ks
  have Kr := (Blk.new ((w4.alloc (.cells #[.int .i64 (W : Int), .int .i64 (H : Int), .slice (some ⟨gp, 0, none⟩) N N] 34)).alloc (.cells #[.int .i64 (W : Int), .int .i64 (H : Int), .slice (some ⟨gs, 0, none⟩) N N] 34)) 50 #[.int .i64 (W : Int), .int .i64 (H : Int), .slice D1 H d1])
  have hz_Kr : ((w4.alloc (.cells #[.int .i64 (W : Int), .int .i64 (H : Int), .slice (some ⟨gp, 0, none⟩) N N] 34)).alloc (.cells #[.int .i64 (W : Int), .int .i64 (H : Int), .slice (some ⟨gs, 0, none⟩) N N] 34)).heap.size = w4.heap.size + 1 + 1 := by simp
  rw [hz_Kr] at Kr
  clear hz_Kr
  replace Kp := Kp.below hb Kp.lt
  replace Ks := Ks.below hb Ks.lt
  replace Kr := Kr.below hb Kr.lt
  replace hbw : Below w.heap.size w w5 := btrans hbw hst
  replace HI1 := Lib.hid (HI1.out.below hst)
  replace HI2 := Lib.hid (HI2.out.below hst)
  replace HI3 := Lib.hid (HI3.out.below hst)
  replace HhP := Lib.hid (HhP.out.below hst)
  replace HhS := Lib.hid (HhS.out.below hst)
  replace HhR := Lib.hid (HhR.out.below hst)
  clear hst hst0 hb 
  have Hqz := Lib.hid qz
  clear qz
  have lKp := Kp.lt
  have cKp0 := Kp.cell 0
  have cKp1 := Kp.cell 1
  have cKp2 := Kp.cell 2
  have lKs := Ks.lt
  have cKs0 := Ks.cell 0
  have cKs1 := Ks.cell 1
  have cKs2 := Ks.cell 2
  have lKr := Kr.lt
  have cKr0 := Kr.cell 0
  have cKr1 := Kr.cell 1
  have cKr2 := Kr.cell 2
  simp only [List.getElem?_toArray, List.getElem?_cons_succ, List.getElem?_cons_zero] at cKp0 cKp1 cKp2 cKs0 cKs1 cKs2 cKr0 cKr1 cKr2
  go_wp2_with fail
  have hst0 : Below w5.heap.size w5 (w5.alloc (.cells #[.int .i64 (W : Int), .int .i64 (H : Int), .slice (some ⟨gz, 0, none⟩) N fz] 34)) := by (repeat' (first | exact Below.refl _ _ | exact Below.refl _ _ | refine balloc ?_ _ | refine Below.drew ?_ | refine below_drewN ?_ _ | refine bset ?_ (by first | omega | (simp <;> omega)) _))
  refine (HBI.out _ _ _ _ (HhP.out.below hst0)).mono ?_
  rintro e_ w6 ⟨ga, rfl, qa, hb⟩
  have hst : Below w5.heap.size w5 w6 := btrans hst0 hb
  replace Kp := (Kp.alloc (.cells #[.int .i64 (W : Int), .int .i64 (H : Int), .slice (some ⟨gz, 0, none⟩) N fz] 34))
  replace Ks := (Ks.alloc (.cells #[.int .i64 (W : Int), .int .i64 (H : Int), .slice (some ⟨gz, 0, none⟩) N fz] 34))
  replace Kr := (Kr.alloc (.cells #[.int .i64 (W : Int), .int .i64 (H : Int), .slice (some ⟨gz, 0, none⟩) N fz] 34))
  have Kz := (Blk.new w5 34 #[.int .i64 (W : Int), .int .i64 (H : Int), .slice (some ⟨gz, 0, none⟩) N fz])
  replace Kp := Kp.below hb Kp.lt
  replace Ks := Ks.below hb Ks.lt
  replace Kr := Kr.below hb Kr.lt
  replace Kz := Kz.below hb Kz.lt
  replace hbw : Below w.heap.size w w6 := btrans hbw hst
  replace HI1 := Lib.hid (HI1.out.below hst)
  replace HI2 := Lib.hid (HI2.out.below hst)
  replace HI3 := Lib.hid (HI3.out.below hst)
  replace HhP := Lib.hid (HhP.out.below hst)
  replace HhS := Lib.hid (HhS.out.below hst)
  replace HhR := Lib.hid (HhR.out.below hst)
  replace Hqz := Lib.hid (Hqz.out.below hst)
  clear hst hst0 hb lKp cKp0 cKp1 cKp2 lKs cKs0 cKs1 cKs2 lKr cKr0 cKr1 cKr2
  have Hqa := Lib.hid qa
  clear qa
  have lKp := Kp.lt
  have cKp0 := Kp.cell 0
  have cKp1 := Kp.cell 1
  have cKp2 := Kp.cell 2
  have lKs := Ks.lt
  have cKs0 := Ks.cell 0
  have cKs1 := Ks.cell 1
  have cKs2 := Ks.cell 2
  have lKr := Kr.lt
  have cKr0 := Kr.cell 0
  have cKr1 := Kr.cell 1
  have cKr2 := Kr.cell 2
  have lKz := Kz.lt
  have cKz0 := Kz.cell 0
  have cKz1 := Kz.cell 1
  have cKz2 := Kz.cell 2
  simp only [List.getElem?_toArray, List.getElem?_cons_succ, List.getElem?_cons_zero] at cKp0 cKp1 cKp2 cKs0 cKs1 cKs2 cKr0 cKr1 cKr2 cKz0 cKz1 cKz2
  go_wp2_with fail
  have hst0 : Below w6.heap.size w6 (w6.alloc (.cells #[.int .i64 (W : Int), .int .i64 (H : Int), .slice (some ⟨ga, 0, none⟩) q q] 36)) := by (repeat' (first | exact Below.refl _ _ | exact Below.refl _ _ | refine balloc ?_ _ | refine Below.drew ?_ | refine below_drewN ?_ _ | refine bset ?_ (by first | omega | (simp <;> omega)) _))
  refine (HBI.out _ _ _ _ (HhS.out.below hst0)).mono ?_
  rintro e_ w7 ⟨gb, rfl, qb, hb⟩
  have hst : Below w6.heap.size w6 w7 := btrans hst0 hb
  replace Kp := (Kp.alloc (.cells #[.int .i64 (W : Int), .int .i64 (H : Int), .slice (some ⟨ga, 0, none⟩) q q] 36))
  replace Ks := (Ks.alloc (.cells #[.int .i64 (W : Int), .int .i64 (H : Int), .slice (some ⟨ga, 0, none⟩) q q] 36))
  replace Kr := (Kr.alloc (.cells #[.int .i64 (W : Int), .int .i64 (H : Int), .slice (some ⟨ga, 0, none⟩) q q] 36))
  replace Kz := (Kz.alloc (.cells #[.int .i64 (W : Int), .int .i64 (H : Int), .slice (some ⟨ga, 0, none⟩) q q] 36))
  have Ka := (Blk.new w6 36 #[.int .i64 (W : Int), .int .i64 (H : Int), .slice (some ⟨ga, 0, none⟩) q q])
  replace Kp := Kp.below hb Kp.lt
  replace Ks := Ks.below hb Ks.lt
  replace Kr := Kr.below hb Kr.lt
  replace Kz := Kz.below hb Kz.lt
  replace Ka := Ka.below hb Ka.lt
  replace hbw : Below w.heap.size w w7 := btrans hbw hst
  replace HI1 := Lib.hid (HI1.out.below hst)
  replace HI2 := Lib.hid (HI2.out.below hst)
  replace HI3 := Lib.hid (HI3.out.below hst)
  replace HhP := Lib.hid (HhP.out.below hst)
  replace HhS := Lib.hid (HhS.out.below hst)
  replace HhR := Lib.hid (HhR.out.below hst)
  replace Hqz := Lib.hid (Hqz.out.below hst)
  replace Hqa := Lib.hid (Hqa.out.below hst)
  clear hst hst0 hb lKp cKp0 cKp1 cKp2 lKs cKs0 cKs1 cKs2 lKr cKr0 cKr1 cKr2 lKz cKz0 cKz1 cKz2
  have Hqb := Lib.hid qb
  clear qb
  have lKp := Kp.lt
  have cKp0 := Kp.cell 0
  have cKp1 := Kp.cell 1
  have cKp2 := Kp.cell 2
  have lKs := Ks.lt
  have cKs0 := Ks.cell 0
  have cKs1 := Ks.cell 1
  have cKs2 := Ks.cell 2
  have lKr := Kr.lt
  have cKr0 := Kr.cell 0
  have cKr1 := Kr.cell 1
  have cKr2 := Kr.cell 2
  have lKz := Kz.lt
  have cKz0 := Kz.cell 0
  have cKz1 := Kz.cell 1
  have cKz2 := Kz.cell 2
  have lKa := Ka.lt
  have cKa0 := Ka.cell 0
  have cKa1 := Ka.cell 1
  have cKa2 := Ka.cell 2
  simp only [List.getElem?_toArray, List.getElem?_cons_succ, List.getElem?_cons_zero] at cKp0 cKp1 cKp2 cKs0 cKs1 cKs2 cKr0 cKr1 cKr2 cKz0 cKz1 cKz2 cKa0 cKa1 cKa2
  go_wp2_with fail
  have hst0 : Below w7.heap.size w7 (w7.alloc (.cells #[.int .i64 (W : Int), .int .i64 (H : Int), .slice (some ⟨gb, 0, none⟩) q q] 36)) := by (repeat' (first | exact Below.refl _ _ | exact Below.refl _ _ | refine balloc ?_ _ | refine Below.drew ?_ | refine below_drewN ?_ _ | refine bset ?_ (by first | omega | (simp <;> omega)) _))
  refine (HBI.out _ _ _ _ (Hqz.out.below hst0)).mono ?_
  rintro e_ w8 ⟨gc, rfl, qc, hb⟩
  have hst : Below w7.heap.size w7 w8 := btrans hst0 hb
  replace Kp := (Kp.alloc (.cells #[.int .i64 (W : Int), .int .i64 (H : Int), .slice (some ⟨gb, 0, none⟩) q q] 36))
  replace Ks := (Ks.alloc (.cells #[.int .i64 (W : Int), .int .i64 (H : Int), .slice (some ⟨gb, 0, none⟩) q q] 36))
  replace Kr := (Kr.alloc (.cells #[.int .i64 (W : Int), .int .i64 (H : Int), .slice (some ⟨gb, 0, none⟩) q q] 36))
  replace Kz := (Kz.alloc (.cells #[.int .i64 (W : Int), .int .i64 (H : Int), .slice (some ⟨gb, 0, none⟩) q q] 36))
  replace Ka := (Ka.alloc (.cells #[.int .i64 (W : Int), .int .i64 (H : Int), .slice (some ⟨gb, 0, none⟩) q q] 36))
  have Kb := (Blk.new w7 36 #[.int .i64 (W : Int), .int .i64 (H : Int), .slice (some ⟨gb, 0, none⟩) q q])
  replace Kp := Kp.below hb Kp.lt
  replace Ks := Ks.below hb Ks.lt
  replace Kr := Kr.below hb Kr.lt
  replace Kz := Kz.below hb Kz.lt
  replace Ka := Ka.below hb Ka.lt
  replace Kb := Kb.below hb Kb.lt
  replace hbw : Below w.heap.size w w8 := btrans hbw hst
  replace HI1 := Lib.hid (HI1.out.below hst)
  replace HI2 := Lib.hid (HI2.out.below hst)
  replace HI3 := Lib.hid (HI3.out.below hst)
  replace HhP := Lib.hid (HhP.out.below hst)
  replace HhS := Lib.hid (HhS.out.below hst)
  replace HhR := Lib.hid (HhR.out.below hst)
  replace Hqz := Lib.hid (Hqz.out.below hst)
  replace Hqa := Lib.hid (Hqa.out.below hst)
  replace Hqb := Lib.hid (Hqb.out.below hst)
  clear hst hst0 hb lKp cKp0 cKp1 cKp2 lKs cKs0 cKs1 cKs2 lKr cKr0 cKr1 cKr2 lKz cKz0 cKz1 cKz2 lKa cKa0 cKa1 cKa2
  have Hqc := Lib.hid qc
  clear qc
  have lKp := Kp.lt
  have cKp0 := Kp.cell 0
  have cKp1 := Kp.cell 1
  have cKp2 := Kp.cell 2
  have lKs := Ks.lt
  have cKs0 := Ks.cell 0
  have cKs1 := Ks.cell 1
  have cKs2 := Ks.cell 2
  have lKr := Kr.lt
  have cKr0 := Kr.cell 0
  have cKr1 := Kr.cell 1
  have cKr2 := Kr.cell 2
  have lKz := Kz.lt
  have cKz0 := Kz.cell 0
  have cKz1 := Kz.cell 1
  have cKz2 := Kz.cell 2
  have lKa := Ka.lt
  have cKa0 := Ka.cell 0
  have cKa1 := Ka.cell 1
  have cKa2 := Ka.cell 2
  have lKb := Kb.lt
  have cKb0 := Kb.cell 0
  have cKb1 := Kb.cell 1
  have cKb2 := Kb.cell 2
  simp only [List.getElem?_toArray, List.getElem?_cons_succ, List.getElem?_cons_zero] at cKp0 cKp1 cKp2 cKs0 cKs1 cKs2 cKr0 cKr1 cKr2 cKz0 cKz1 cKz2 cKa0 cKa1 cKa2 cKb0 cKb1 cKb2
  go_wp2_with fail
  have hst0 : Below w8.heap.size w8 (w8.alloc (.cells #[.int .i64 (W : Int), .int .i64 (H : Int), .slice (some ⟨gc, 0, none⟩) q q] 36)) := by (repeat' (first | exact Below.refl _ _ | exact Below.refl _ _ | refine balloc ?_ _ | refine Below.drew ?_ | refine below_drewN ?_ _ | refine bset ?_ (by first | omega | (simp <;> omega)) _))
  refine (HMS.out _ _ _ _ (HhR.out.below hst0)).mono ?_
  rintro e_ w9 ⟨gt, hgt, rfl, qt, hb⟩
  clear hgt
  replace qt : Pg _ _ _ _ (setB W R) := qt
  have hst : Below w8.heap.size w8 w9 := btrans hst0 hb
  replace Kp := (Kp.alloc (.cells #[.int .i64 (W : Int), .int .i64 (H : Int), .slice (some ⟨gc, 0, none⟩) q q] 36))
  replace Ks := (Ks.alloc (.cells #[.int .i64 (W : Int), .int .i64 (H : Int), .slice (some ⟨gc, 0, none⟩) q q] 36))
  replace Kr := (Kr.alloc (.cells #[.int .i64 (W : Int), .int .i64 (H : Int), .slice (some ⟨gc, 0, none⟩) q q] 36))
  replace Kz := (Kz.alloc (.cells #[.int .i64 (W : Int), .int .i64 (H : Int), .slice (some ⟨gc, 0, none⟩) q q] 36))
  replace Ka := (Ka.alloc (.cells #[.int .i64 (W : Int), .int .i64 (H : Int), .slice (some ⟨gc, 0, none⟩) q q] 36))
  replace Kb := (Kb.alloc (.cells #[.int .i64 (W : Int), .int .i64 (H : Int), .slice (some ⟨gc, 0, none⟩) q q] 36))
  have Kc := (Blk.new w8 36 #[.int .i64 (W : Int), .int .i64 (H : Int), .slice (some ⟨gc, 0, none⟩) q q])
  replace Kp := Kp.below hb Kp.lt
  replace Ks := Ks.below hb Ks.lt
  replace Kr := Kr.below hb Kr.lt
  replace Kz := Kz.below hb Kz.lt
  replace Ka := Ka.below hb Ka.lt
  replace Kb := Kb.below hb Kb.lt
  replace Kc := Kc.below hb Kc.lt
  replace hbw : Below w.heap.size w w9 := btrans hbw hst
  replace HI1 := Lib.hid (HI1.out.below hst)
  replace HI2 := Lib.hid (HI2.out.below hst)
  replace HI3 := Lib.hid (HI3.out.below hst)
  replace HhP := Lib.hid (HhP.out.below hst)
  replace HhS := Lib.hid (HhS.out.below hst)
  replace HhR := Lib.hid (HhR.out.below hst)
  replace Hqz := Lib.hid (Hqz.out.below hst)
  replace Hqa := Lib.hid (Hqa.out.below hst)
  replace Hqb := Lib.hid (Hqb.out.below hst)
  replace Hqc := Lib.hid (Hqc.out.below hst)
  clear hst hst0 hb lKp cKp0 cKp1 cKp2 lKs cKs0 cKs1 cKs2 lKr cKr0 cKr1 cKr2 lKz cKz0 cKz1 cKz2 lKa cKa0 cKa1 cKa2 lKb cKb0 cKb1 cKb2
  have Hqt := Lib.hid qt
  clear qt
  have lKp := Kp.lt
  have cKp0 := Kp.cell 0
  have cKp1 := Kp.cell 1
  have cKp2 := Kp.cell 2
  have lKs := Ks.lt
  have cKs0 := Ks.cell 0
  have cKs1 := Ks.cell 1
  have cKs2 := Ks.cell 2
  have lKr := Kr.lt
  have cKr0 := Kr.cell 0
  have cKr1 := Kr.cell 1
  have cKr2 := Kr.cell 2
  have lKz := Kz.lt
  have cKz0 := Kz.cell 0
  have cKz1 := Kz.cell 1
  have cKz2 := Kz.cell 2
  have lKa := Ka.lt
  have cKa0 := Ka.cell 0
  have cKa1 := Ka.cell 1
  have cKa2 := Ka.cell 2
  have lKb := Kb.lt
  have cKb0 := Kb.cell 0
  have cKb1 := Kb.cell 1
  have cKb2 := Kb.cell 2
  have lKc := Kc.lt
  have cKc0 := Kc.cell 0
  have cKc1 := Kc.cell 1
  have cKc2 := Kc.cell 2
  simp only [List.getElem?_toArray, List.getElem?_cons_succ, List.getElem?_cons_zero] at cKp0 cKp1 cKp2 cKs0 cKs1 cKs2 cKr0 cKr1 cKr2 cKz0 cKz1 cKz2 cKa0 cKa1 cKa2 cKb0 cKb1 cKb2 cKc0 cKc1 cKc2
  go_wp2_with fail
  have hst0 : Below w9.heap.size w9 (w9.alloc (.cells #[.int .i64 (W : Int), .int .i64 (H : Int), .slice (some ⟨gt, 0, none⟩) q q] 36)) := by (repeat' (first | exact Below.refl _ _ | exact Below.refl _ _ | refine balloc ?_ _ | refine Below.drew ?_ | refine below_drewN ?_ _ | refine bset ?_ (by first | omega | (simp <;> omega)) _))
  refine (HME.out _ _ _ _ _ _ _ (Hqb.out.below hst0) (HB2.out C) (Hqt.out.below hst0) (HT2.out R)).mono ?_
  rintro e_ w10 ⟨gi, hgi, rfl, qi, hb⟩
  clear hgi
  have hst : Below w9.heap.size w9 w10 := btrans hst0 hb
  replace Kp := (Kp.alloc (.cells #[.int .i64 (W : Int), .int .i64 (H : Int), .slice (some ⟨gt, 0, none⟩) q q] 36))
  replace Ks := (Ks.alloc (.cells #[.int .i64 (W : Int), .int .i64 (H : Int), .slice (some ⟨gt, 0, none⟩) q q] 36))
  replace Kr := (Kr.alloc (.cells #[.int .i64 (W : Int), .int .i64 (H : Int), .slice (some ⟨gt, 0, none⟩) q q] 36))
  replace Kz := (Kz.alloc (.cells #[.int .i64 (W : Int), .int .i64 (H : Int), .slice (some ⟨gt, 0, none⟩) q q] 36))
  replace Ka := (Ka.alloc (.cells #[.int .i64 (W : Int), .int .i64 (H : Int), .slice (some ⟨gt, 0, none⟩) q q] 36))
  replace Kb := (Kb.alloc (.cells #[.int .i64 (W : Int), .int .i64 (H : Int), .slice (some ⟨gt, 0, none⟩) q q] 36))
  replace Kc := (Kc.alloc (.cells #[.int .i64 (W : Int), .int .i64 (H : Int), .slice (some ⟨gt, 0, none⟩) q q] 36))
  have Kt := (Blk.new w9 36 #[.int .i64 (W : Int), .int .i64 (H : Int), .slice (some ⟨gt, 0, none⟩) q q])
  replace Kp := Kp.below hb Kp.lt
  replace Ks := Ks.below hb Ks.lt
  replace Kr := Kr.below hb Kr.lt
  replace Kz := Kz.below hb Kz.lt
  replace Ka := Ka.below hb Ka.lt
  replace Kb := Kb.below hb Kb.lt
  replace Kc := Kc.below hb Kc.lt
  replace Kt := Kt.below hb Kt.lt
  replace hbw : Below w.heap.size w w10 := btrans hbw hst
  replace HI1 := Lib.hid (HI1.out.below hst)
  replace HI2 := Lib.hid (HI2.out.below hst)
  replace HI3 := Lib.hid (HI3.out.below hst)
  replace HhP := Lib.hid (HhP.out.below hst)
  replace HhS := Lib.hid (HhS.out.below hst)
  replace HhR := Lib.hid (HhR.out.below hst)
  replace Hqz := Lib.hid (Hqz.out.below hst)
  replace Hqa := Lib.hid (Hqa.out.below hst)
  replace Hqb := Lib.hid (Hqb.out.below hst)
  replace Hqc := Lib.hid (Hqc.out.below hst)
  replace Hqt := Lib.hid (Hqt.out.below hst)
  clear hst hst0 hb lKp cKp0 cKp1 cKp2 lKs cKs0 cKs1 cKs2 lKr cKr0 cKr1 cKr2 lKz cKz0 cKz1 cKz2 lKa cKa0 cKa1 cKa2 lKb cKb0 cKb1 cKb2 lKc cKc0 cKc1 cKc2
  have Hqi := Lib.hid qi
  clear qi
  have lKp := Kp.lt
  have cKp0 := Kp.cell 0
  have cKp1 := Kp.cell 1
  have cKp2 := Kp.cell 2
  have lKs := Ks.lt
  have cKs0 := Ks.cell 0
  have cKs1 := Ks.cell 1
  have cKs2 := Ks.cell 2
  have lKr := Kr.lt
  have cKr0 := Kr.cell 0
  have cKr1 := Kr.cell 1
  have cKr2 := Kr.cell 2
  have lKz := Kz.lt
  have cKz0 := Kz.cell 0
  have cKz1 := Kz.cell 1
  have cKz2 := Kz.cell 2
  have lKa := Ka.lt
  have cKa0 := Ka.cell 0
  have cKa1 := Ka.cell 1
  have cKa2 := Ka.cell 2
  have lKb := Kb.lt
  have cKb0 := Kb.cell 0
  have cKb1 := Kb.cell 1
  have cKb2 := Kb.cell 2
  have lKc := Kc.lt
  have cKc0 := Kc.cell 0
  have cKc1 := Kc.cell 1
  have cKc2 := Kc.cell 2
  have lKt := Kt.lt
  have cKt0 := Kt.cell 0
  have cKt1 := Kt.cell 1
  have cKt2 := Kt.cell 2
  simp only [List.getElem?_toArray, List.getElem?_cons_succ, List.getElem?_cons_zero] at cKp0 cKp1 cKp2 cKs0 cKs1 cKs2 cKr0 cKr1 cKr2 cKz0 cKz1 cKz2 cKa0 cKa1 cKa2 cKb0 cKb1 cKb2 cKc0 cKc1 cKc2 cKt0 cKt1 cKt2
  go_wp2_with fail
  have hst0 : Below w10.heap.size w10 (w10.alloc (.cells #[.int .i64 (W : Int), .int .i64 (H : Int), .slice (some ⟨gi, 0, none⟩) q q] 36)) := by (repeat' (first | exact Below.refl _ _ | exact Below.refl _ _ | refine balloc ?_ _ | refine Below.drew ?_ | refine below_drewN ?_ _ | refine bset ?_ (by first | omega | (simp <;> omega)) _))
  refine (HLE.out _ _ _ _ _ _ _ (Hqa.out.below hst0) (HB2.out B) (Hqt.out.below hst0) (HT2.out R)).mono ?_
  rintro e_ w11 ⟨go, hgo, rfl, qo, hb⟩
  clear hgo
  have hst : Below w10.heap.size w10 w11 := btrans hst0 hb
  replace Kp := (Kp.alloc (.cells #[.int .i64 (W : Int), .int .i64 (H : Int), .slice (some ⟨gi, 0, none⟩) q q] 36))
  replace Ks := (Ks.alloc (.cells #[.int .i64 (W : Int), .int .i64 (H : Int), .slice (some ⟨gi, 0, none⟩) q q] 36))
  replace Kr := (Kr.alloc (.cells #[.int .i64 (W : Int), .int .i64 (H : Int), .slice (some ⟨gi, 0, none⟩) q q] 36))
  replace Kz := (Kz.alloc (.cells #[.int .i64 (W : Int), .int .i64 (H : Int), .slice (some ⟨gi, 0, none⟩) q q] 36))
  replace Ka := (Ka.alloc (.cells #[.int .i64 (W : Int), .int .i64 (H : Int), .slice (some ⟨gi, 0, none⟩) q q] 36))
  replace Kb := (Kb.alloc (.cells #[.int .i64 (W : Int), .int .i64 (H : Int), .slice (some ⟨gi, 0, none⟩) q q] 36))
  replace Kc := (Kc.alloc (.cells #[.int .i64 (W : Int), .int .i64 (H : Int), .slice (some ⟨gi, 0, none⟩) q q] 36))
  replace Kt := (Kt.alloc (.cells #[.int .i64 (W : Int), .int .i64 (H : Int), .slice (some ⟨gi, 0, none⟩) q q] 36))
  have Ki := (Blk.new w10 36 #[.int .i64 (W : Int), .int .i64 (H : Int), .slice (some ⟨gi, 0, none⟩) q q])
  replace Kp := Kp.below hb Kp.lt
  replace Ks := Ks.below hb Ks.lt
  replace Kr := Kr.below hb Kr.lt
  replace Kz := Kz.below hb Kz.lt
  replace Ka := Ka.below hb Ka.lt
  replace Kb := Kb.below hb Kb.lt
  replace Kc := Kc.below hb Kc.lt
  replace Kt := Kt.below hb Kt.lt
  replace Ki := Ki.below hb Ki.lt
  replace hbw : Below w.heap.size w w11 := btrans hbw hst
  replace HI1 := Lib.hid (HI1.out.below hst)
  replace HI2 := Lib.hid (HI2.out.below hst)
  replace HI3 := Lib.hid (HI3.out.below hst)
  replace HhP := Lib.hid (HhP.out.below hst)
  replace HhS := Lib.hid (HhS.out.below hst)
  replace HhR := Lib.hid (HhR.out.below hst)
  replace Hqz := Lib.hid (Hqz.out.below hst)
  replace Hqa := Lib.hid (Hqa.out.below hst)
  replace Hqb := Lib.hid (Hqb.out.below hst)
  replace Hqc := Lib.hid (Hqc.out.below hst)
  replace Hqt := Lib.hid (Hqt.out.below hst)
  replace Hqi := Lib.hid (Hqi.out.below hst)
  clear hst hst0 hb lKp cKp0 cKp1 cKp2 lKs cKs0 cKs1 cKs2 lKr cKr0 cKr1 cKr2 lKz cKz0 cKz1 cKz2 lKa cKa0 cKa1 cKa2 lKb cKb0 cKb1 cKb2 lKc cKc0 cKc1 cKc2 lKt cKt0 cKt1 cKt2
  have Hqo := Lib.hid qo
  clear qo
  have lKp := Kp.lt
  have cKp0 := Kp.cell 0
  have cKp1 := Kp.cell 1
  have cKp2 := Kp.cell 2
  have lKs := Ks.lt
  have cKs0 := Ks.cell 0
  have cKs1 := Ks.cell 1
  have cKs2 := Ks.cell 2
  have lKr := Kr.lt
  have cKr0 := Kr.cell 0
  have cKr1 := Kr.cell 1
  have cKr2 := Kr.cell 2
  have lKz := Kz.lt
  have cKz0 := Kz.cell 0
  have cKz1 := Kz.cell 1
  have cKz2 := Kz.cell 2
  have lKa := Ka.lt
  have cKa0 := Ka.cell 0
  have cKa1 := Ka.cell 1
  have cKa2 := Ka.cell 2
  have lKb := Kb.lt
  have cKb0 := Kb.cell 0
  have cKb1 := Kb.cell 1
  have cKb2 := Kb.cell 2
  have lKc := Kc.lt
  have cKc0 := Kc.cell 0
  have cKc1 := Kc.cell 1
  have cKc2 := Kc.cell 2
  have lKt := Kt.lt
  have cKt0 := Kt.cell 0
  have cKt1 := Kt.cell 1
  have cKt2 := Kt.cell 2
  have lKi := Ki.lt
  have cKi0 := Ki.cell 0
  have cKi1 := Ki.cell 1
  have cKi2 := Ki.cell 2
  simp only [List.getElem?_toArray, List.getElem?_cons_succ, List.getElem?_cons_zero] at cKp0 cKp1 cKp2 cKs0 cKs1 cKs2 cKr0 cKr1 cKr2 cKz0 cKz1 cKz2 cKa0 cKa1 cKa2 cKb0 cKb1 cKb2 cKc0 cKc1 cKc2 cKt0 cKt1 cKt2 cKi0 cKi1 cKi2
  go_wp2_with fail
  have hst0 : Below w11.heap.size w11 (w11.alloc (.cells #[.int .i64 (W : Int), .int .i64 (H : Int), .slice (some ⟨go, 0, none⟩) q q] 36)) := by (repeat' (first | exact Below.refl _ _ | exact Below.refl _ _ | refine balloc ?_ _ | refine Below.drew ?_ | refine below_drewN ?_ _ | refine bset ?_ (by first | omega | (simp <;> omega)) _))
  refine (HJO.out _ _ _ _ _ _ _ (Hqi.out.below hst0) (HX2.out C R) (Hqo.out.below hst0) (HY2.out B R)).mono ?_
  rintro e_ w12 ⟨gw, hgw, rfl, qw, hb⟩
  clear hgw
  have hst : Below w11.heap.size w11 w12 := btrans hst0 hb
  replace Kp := (Kp.alloc (.cells #[.int .i64 (W : Int), .int .i64 (H : Int), .slice (some ⟨go, 0, none⟩) q q] 36))
  replace Ks := (Ks.alloc (.cells #[.int .i64 (W : Int), .int .i64 (H : Int), .slice (some ⟨go, 0, none⟩) q q] 36))
  replace Kr := (Kr.alloc (.cells #[.int .i64 (W : Int), .int .i64 (H : Int), .slice (some ⟨go, 0, none⟩) q q] 36))
  replace Kz := (Kz.alloc (.cells #[.int .i64 (W : Int), .int .i64 (H : Int), .slice (some ⟨go, 0, none⟩) q q] 36))
  replace Ka := (Ka.alloc (.cells #[.int .i64 (W : Int), .int .i64 (H : Int), .slice (some ⟨go, 0, none⟩) q q] 36))
  replace Kb := (Kb.alloc (.cells #[.int .i64 (W : Int), .int .i64 (H : Int), .slice (some ⟨go, 0, none⟩) q q] 36))
  replace Kc := (Kc.alloc (.cells #[.int .i64 (W : Int), .int .i64 (H : Int), .slice (some ⟨go, 0, none⟩) q q] 36))
  replace Kt := (Kt.alloc (.cells #[.int .i64 (W : Int), .int .i64 (H : Int), .slice (some ⟨go, 0, none⟩) q q] 36))
  replace Ki := (Ki.alloc (.cells #[.int .i64 (W : Int), .int .i64 (H : Int), .slice (some ⟨go, 0, none⟩) q q] 36))
  have Ko := (Blk.new w11 36 #[.int .i64 (W : Int), .int .i64 (H : Int), .slice (some ⟨go, 0, none⟩) q q])
  replace Kp := Kp.below hb Kp.lt
  replace Ks := Ks.below hb Ks.lt
  replace Kr := Kr.below hb Kr.lt
  replace Kz := Kz.below hb Kz.lt
  replace Ka := Ka.below hb Ka.lt
  replace Kb := Kb.below hb Kb.lt
  replace Kc := Kc.below hb Kc.lt
  replace Kt := Kt.below hb Kt.lt
  replace Ki := Ki.below hb Ki.lt
  replace Ko := Ko.below hb Ko.lt
  replace hbw : Below w.heap.size w w12 := btrans hbw hst
  replace HI1 := Lib.hid (HI1.out.below hst)
  replace HI2 := Lib.hid (HI2.out.below hst)
  replace HI3 := Lib.hid (HI3.out.below hst)
  replace HhP := Lib.hid (HhP.out.below hst)
  replace HhS := Lib.hid (HhS.out.below hst)
  replace HhR := Lib.hid (HhR.out.below hst)
  replace Hqz := Lib.hid (Hqz.out.below hst)
  replace Hqa := Lib.hid (Hqa.out.below hst)
  replace Hqb := Lib.hid (Hqb.out.below hst)
  replace Hqc := Lib.hid (Hqc.out.below hst)
  replace Hqt := Lib.hid (Hqt.out.below hst)
  replace Hqi := Lib.hid (Hqi.out.below hst)
  replace Hqo := Lib.hid (Hqo.out.below hst)
  clear hst hst0 hb lKp cKp0 cKp1 cKp2 lKs cKs0 cKs1 cKs2 lKr cKr0 cKr1 cKr2 lKz cKz0 cKz1 cKz2 lKa cKa0 cKa1 cKa2 lKb cKb0 cKb1 cKb2 lKc cKc0 cKc1 cKc2 lKt cKt0 cKt1 cKt2 lKi cKi0 cKi1 cKi2
  have Hqw := Lib.hid qw
  clear qw
  have lKp := Kp.lt
  have cKp0 := Kp.cell 0
  have cKp1 := Kp.cell 1
  have cKp2 := Kp.cell 2
  have lKs := Ks.lt
  have cKs0 := Ks.cell 0
  have cKs1 := Ks.cell 1
  have cKs2 := Ks.cell 2
  have lKr := Kr.lt
  have cKr0 := Kr.cell 0
  have cKr1 := Kr.cell 1
  have cKr2 := Kr.cell 2
  have lKz := Kz.lt
  have cKz0 := Kz.cell 0
  have cKz1 := Kz.cell 1
  have cKz2 := Kz.cell 2
  have lKa := Ka.lt
  have cKa0 := Ka.cell 0
  have cKa1 := Ka.cell 1
  have cKa2 := Ka.cell 2
  have lKb := Kb.lt
  have cKb0 := Kb.cell 0
  have cKb1 := Kb.cell 1
  have cKb2 := Kb.cell 2
  have lKc := Kc.lt
  have cKc0 := Kc.cell 0
  have cKc1 := Kc.cell 1
  have cKc2 := Kc.cell 2
  have lKt := Kt.lt
  have cKt0 := Kt.cell 0
  have cKt1 := Kt.cell 1
  have cKt2 := Kt.cell 2
  have lKi := Ki.lt
  have cKi0 := Ki.cell 0
  have cKi1 := Ki.cell 1
  have cKi2 := Ki.cell 2
  have lKo := Ko.lt
  have cKo0 := Ko.cell 0
  have cKo1 := Ko.cell 1
  have cKo2 := Ko.cell 2
  simp only [List.getElem?_toArray, List.getElem?_cons_succ, List.getElem?_cons_zero] at cKp0 cKp1 cKp2 cKs0 cKs1 cKs2 cKr0 cKr1 cKr2 cKz0 cKz1 cKz2 cKa0 cKa1 cKa2 cKb0 cKb1 cKb2 cKc0 cKc1 cKc2 cKt0 cKt1 cKt2 cKi0 cKi1 cKi2 cKo0 cKo1 cKo2
  go_wp2_with fail
  have hst0 : Below w12.heap.size w12 (w12.alloc (.cells #[.int .i64 (W : Int), .int .i64 (H : Int), .slice (some ⟨gw, 0, none⟩) q q] 36)) := by (repeat' (first | exact Below.refl _ _ | exact Below.refl _ _ | refine balloc ?_ _ | refine Below.drew ?_ | refine below_drewN ?_ _ | refine bset ?_ (by first | omega | (simp <;> omega)) _))
  refine (csame_yes _ _ _ _ _ _ _ _ _ _ (Hqc.out.below hst0) (Hqw.out.below hst0) (fun j hj => HFI.out R B C j hj)).mono ?_
  rintro e_ w13 ⟨rfl, hb⟩
  have hst : Below w12.heap.size w12 w13 := btrans hst0 hb
  replace Kp := (Kp.alloc (.cells #[.int .i64 (W : Int), .int .i64 (H : Int), .slice (some ⟨gw, 0, none⟩) q q] 36))
  replace Ks := (Ks.alloc (.cells #[.int .i64 (W : Int), .int .i64 (H : Int), .slice (some ⟨gw, 0, none⟩) q q] 36))
  replace Kr := (Kr.alloc (.cells #[.int .i64 (W : Int), .int .i64 (H : Int), .slice (some ⟨gw, 0, none⟩) q q] 36))
  replace Kz := (Kz.alloc (.cells #[.int .i64 (W : Int), .int .i64 (H : Int), .slice (some ⟨gw, 0, none⟩) q q] 36))
  replace Ka := (Ka.alloc (.cells #[.int .i64 (W : Int), .int .i64 (H : Int), .slice (some ⟨gw, 0, none⟩) q q] 36))
  replace Kb := (Kb.alloc (.cells #[.int .i64 (W : Int), .int .i64 (H : Int), .slice (some ⟨gw, 0, none⟩) q q] 36))
  replace Kc := (Kc.alloc (.cells #[.int .i64 (W : Int), .int .i64 (H : Int), .slice (some ⟨gw, 0, none⟩) q q] 36))
  replace Kt := (Kt.alloc (.cells #[.int .i64 (W : Int), .int .i64 (H : Int), .slice (some ⟨gw, 0, none⟩) q q] 36))
  replace Ki := (Ki.alloc (.cells #[.int .i64 (W : Int), .int .i64 (H : Int), .slice (some ⟨gw, 0, none⟩) q q] 36))
  replace Ko := (Ko.alloc (.cells #[.int .i64 (W : Int), .int .i64 (H : Int), .slice (some ⟨gw, 0, none⟩) q q] 36))
  have Kw := (Blk.new w12 36 #[.int .i64 (W : Int), .int .i64 (H : Int), .slice (some ⟨gw, 0, none⟩) q q])
  replace Kp := Kp.below hb Kp.lt
  replace Ks := Ks.below hb Ks.lt
  replace Kr := Kr.below hb Kr.lt
  replace Kz := Kz.below hb Kz.lt
  replace Ka := Ka.below hb Ka.lt
  replace Kb := Kb.below hb Kb.lt
  replace Kc := Kc.below hb Kc.lt
  replace Kt := Kt.below hb Kt.lt
  replace Ki := Ki.below hb Ki.lt
  replace Ko := Ko.below hb Ko.lt
  replace Kw := Kw.below hb Kw.lt
  replace hbw : Below w.heap.size w w13 := btrans hbw hst
  replace HI1 := Lib.hid (HI1.out.below hst)
  replace HI2 := Lib.hid (HI2.out.below hst)
  replace HI3 := Lib.hid (HI3.out.below hst)
  replace HhP := Lib.hid (HhP.out.below hst)
  replace HhS := Lib.hid (HhS.out.below hst)
  replace HhR := Lib.hid (HhR.out.below hst)
  replace Hqz := Lib.hid (Hqz.out.below hst)
  replace Hqa := Lib.hid (Hqa.out.below hst)
  replace Hqb := Lib.hid (Hqb.out.below hst)
  replace Hqc := Lib.hid (Hqc.out.below hst)
  replace Hqt := Lib.hid (Hqt.out.below hst)
  replace Hqi := Lib.hid (Hqi.out.below hst)
  replace Hqo := Lib.hid (Hqo.out.below hst)
  replace Hqw := Lib.hid (Hqw.out.below hst)
  clear hst hst0 hb lKp cKp0 cKp1 cKp2 lKs cKs0 cKs1 cKs2 lKr cKr0 cKr1 cKr2 lKz cKz0 cKz1 cKz2 lKa cKa0 cKa1 cKa2 lKb cKb0 cKb1 cKb2 lKc cKc0 cKc1 cKc2 lKt cKt0 cKt1 cKt2 lKi cKi0 cKi1 cKi2 lKo cKo0 cKo1 cKo2
  have lKp := Kp.lt
  have cKp0 := Kp.cell 0
  have cKp1 := Kp.cell 1
  have cKp2 := Kp.cell 2
  have lKs := Ks.lt
  have cKs0 := Ks.cell 0
  have cKs1 := Ks.cell 1
  have cKs2 := Ks.cell 2
  have lKr := Kr.lt
  have cKr0 := Kr.cell 0
  have cKr1 := Kr.cell 1
  have cKr2 := Kr.cell 2
  have lKz := Kz.lt
  have cKz0 := Kz.cell 0
  have cKz1 := Kz.cell 1
  have cKz2 := Kz.cell 2
  have lKa := Ka.lt
  have cKa0 := Ka.cell 0
  have cKa1 := Ka.cell 1
  have cKa2 := Ka.cell 2
  have lKb := Kb.lt
  have cKb0 := Kb.cell 0
  have cKb1 := Kb.cell 1
  have cKb2 := Kb.cell 2
  have lKc := Kc.lt
  have cKc0 := Kc.cell 0
  have cKc1 := Kc.cell 1
  have cKc2 := Kc.cell 2
  have lKt := Kt.lt
  have cKt0 := Kt.cell 0
  have cKt1 := Kt.cell 1
  have cKt2 := Kt.cell 2
  have lKi := Ki.lt
  have cKi0 := Ki.cell 0
  have cKi1 := Ki.cell 1
  have cKi2 := Ki.cell 2
  have lKo := Ko.lt
  have cKo0 := Ko.cell 0
  have cKo1 := Ko.cell 1
  have cKo2 := Ko.cell 2
  have lKw := Kw.lt
  have cKw0 := Kw.cell 0
  have cKw1 := Kw.cell 1
  have cKw2 := Kw.cell 2
  simp only [List.getElem?_toArray, List.getElem?_cons_succ, List.getElem?_cons_zero] at cKp0 cKp1 cKp2 cKs0 cKs1 cKs2 cKr0 cKr1 cKr2 cKz0 cKz1 cKz2 cKa0 cKa1 cKa2 cKb0 cKb1 cKb2 cKc0 cKc1 cKc2 cKt0 cKt1 cKt2 cKi0 cKi1 cKi2 cKo0 cKo1 cKo2 cKw0 cKw1 cKw2
  go_wp2_with fail
  go_ret
  exact ⟨rfl, hbw⟩
end Go.Proofs.Ytodeebaogpepkaa.rg
