/-
  ScreenDarker: black ink of any opacity takes no dot away, and white ink puts none there.
-/
import Derived.Test.YtodeebaogpepkaaLawMade
import Derived.Test.YtodeebaogpepkaaPut
import Derived.Test.YtodeebaogpepkaaSBits
import Derived.Test.YtodeebaogpepkaaCover2
namespace Go.Proofs.Ytodeebaogpepkaa.rg
set_option linter.unusedVariables false
set_option linter.unusedSimpArgs false
open Go.RowKit bs sp ik op

theorem twelve_fix (v : Int) : ∃ k : Nat, (1 ≤ k ∧ k ≤ 64) ∧ 1 + v % 12 = (k : Int) ∧ 0 ≤ v % 12 ∧ v % 12 < 12 := by
  have h0 := Int.emod_nonneg v (show (12 : Int) ≠ 0 by omega)
  have h1 := Int.emod_lt_of_pos v (show (0 : Int) < 12 by omega)
  exact ⟨(1 + v % 12).toNat, by omega, by omega, h0, h1⟩
theorem tone_dark (g h i j : Int) (hgh : g ≤ h) (ht : sc.tone h i j = true) : sc.tone g i j = true := by
  unfold sc.tone at *
  simp only [decide_eq_true_eq] at *
  omega
theorem bitF_dark (W : Nat) (B C : Nat → Int) (k : Nat) (h0 : C (3 * k) ≤ B (3 * k)) (h1 : C (3 * k + 1) ≤ B (3 * k + 1)) (h2 : C (3 * k + 2) ≤ B (3 * k + 2)) (hb : bitF W B k = 1) : bitF W C k = 1 := by
  unfold bitF at *
  have hg : sc.grey (C (3 * k)) (C (3 * k + 1)) (C (3 * k + 2)) ≤ sc.grey (B (3 * k)) (B (3 * k + 1)) (B (3 * k + 2)) := by
    unfold sc.grey
    omega
  by_cases h : sc.tone (sc.grey (B (3 * k)) (B (3 * k + 1)) (B (3 * k + 2))) ((k : Int) % W) ((k : Int) / W) = true
  · rw [if_pos (tone_dark _ _ _ _ hg h)]
  · rw [if_neg h] at hb
    omega
theorem put_black (W : Nat) (R : Nat → Nat → Bool) (a : Int) (B : Nat → Int) (ha : 0 ≤ a ∧ a ≤ 255) (j : Nat) (hB : 0 ≤ B j ∧ B j ≤ 255) : putB W R 0 0 0 a B j ≤ B j := by
  unfold putB
  split
  · have e : chan 0 0 0 (j % 3) = 0 := by unfold chan; (repeat' split) <;> rfl
    rw [e]
    exact (blend_between (B j) 0 a 0 (B j) ha hB.1 (Int.le_refl _) (Int.le_refl _) hB.1).2
  · exact Int.le_refl _
theorem put_white (W : Nat) (R : Nat → Nat → Bool) (a : Int) (B : Nat → Int) (ha : 0 ≤ a ∧ a ≤ 255) (j : Nat) (hB : 0 ≤ B j ∧ B j ≤ 255) : B j ≤ putB W R 255 255 255 a B j := by
  unfold putB
  split
  · have e : chan 255 255 255 (j % 3) = 255 := by unfold chan; (repeat' split) <;> rfl
    rw [e]
    exact (blend_between (B j) 255 a (B j) 255 ha (Int.le_refl _) hB.2 hB.2 (Int.le_refl _)).1
  · exact Int.le_refl _
theorem none_lost (x y : Int) (hx : x = 0 ∨ x = 1) (h : x = 1 → y = 1) : lessI x y = 0 := by
  unfold lessI
  rcases hx with rfl | rfl
  · split <;> rfl
  · rw [if_pos (h rfl)]
set_option maxRecDepth 100000 in
set_option maxHeartbeats 12800000 in
theorem darker_law (A1 : Option Addr) (n1 c1 : Nat) (ns1 : Nat → Int) (A2 : Option Addr) (n2 c2 : Nat) (ns2 : Nat → Int) (x y a : Int) (w : World) (hr1 : Ints w A1 n1 c1 ns1) (hn1 : n1 ≤ 9223372036854775807) (hr2 : Ints w A2 n2 c2 ns2) (hn2 : n2 ≤ 9223372036854775807) (_hx : -9223372036854775808 ≤ x ∧ x ≤ 9223372036854775807) (_hy : -9223372036854775808 ≤ y ∧ y ≤ 9223372036854775807) (ha : 0 ≤ a ∧ a ≤ 255) :
    Calls Try.prog 7 #[.slice A1 n1 c1, .slice A2 n2 c2, .int .i64 x, .int .i64 y, .int .u8 a] w fun ed w' => ed = .returned (.bool true) ∧ Below w.heap.size w w' := by
  obtain ⟨W, hW, hxW, hx0, hx1⟩ := twelve_fix x
  obtain ⟨H, hH, hyH, hy0, hy1⟩ := twelve_fix y
  have hPX := fun W => place_any x 12 W (by decide) (by decide)
  have hPY := fun W => place_any y 12 W (by decide) (by decide)
  obtain ⟨zx, hzx⟩ : ∃ z, x % 12 = z := ⟨_, rfl⟩
  obtain ⟨zy, hzy⟩ : ∃ z, y % 12 = z := ⟨_, rfl⟩
  rw [hzx] at hPX hxW hx0 hx1
  rw [hzy] at hPY hyH hy0 hy1
  have HXW := Lib.hid hxW
  have HYH := Lib.hid hyH
  have HPX := Lib.hid hPX
  have HPY := Lib.hid hPY
  obtain ⟨q, hq⟩ : ∃ q, W * H = q := ⟨_, rfl⟩
  obtain ⟨N, hN⟩ : ∃ N, N = 3 * (W * H) := ⟨_, rfl⟩
  have hNq : N = 3 * q := by rw [hN, hq]
  have HPG := Lib.hid (fun W' h => lpage_any A1 n1 c1 ns1 W H N W' h hn1 hW hH hN)
  have HM2 := Lib.hid (fun W' h => lmade_any A2 n2 c2 ns2 W H W' h hn2 hW hH)
  have HP0 := Lib.hid (fun c d A D R B W' hp hr => put_any W H N c d A D R 0 0 0 a B W' hW hH hN ⟨by omega, by omega⟩ ⟨by omega, by omega⟩ ⟨by omega, by omega⟩ ha hp hr)
  have HP1 := Lib.hid (fun c d A D R B W' hp hr => put_any W H N c d A D R 255 255 255 a B W' hW hH hN ⟨by omega, by omega⟩ ⟨by omega, by omega⟩ ⟨by omega, by omega⟩ ha hp hr)
  have HBI := Lib.hid (fun c A B W' hp => sbits_any W H N c q A B W' hW hH hN hq hp)
  have HLE := Lib.hid (fun c d A D B C W' hp hB hr hC => cless_any W H q c d A D B C W' hW hH hq.symm hp hB hr hC)
  have HCO := Lib.hid (fun c A (B : Nat → Int) W' hp (hB : ∀ j, j < q → B j = 0) => csum_zero B q hB ▸ ccount_any W H q c A B W' hW hH hq.symm hp (fun j hj => Or.inl (hB j hj)))
  have HB2 := Lib.hid (fun (B : Nat → Int) (j : Nat) (_ : j < q) => bitF_two W B j)
  have HD1 := Lib.hid (fun (R : Nat → Nat → Bool) (B : Nat → Int) (hB : ∀ j, j < N → 0 ≤ B j ∧ B j ≤ 255) (k : Nat) (hk : k < q) => none_lost (bitF W B k) (bitF W (putB W R 0 0 0 a B) k) (bitF_two W B k) (bitF_dark W B (putB W R 0 0 0 a B) k (put_black W R a B ha _ (hB _ (by omega))) (put_black W R a B ha _ (hB _ (by omega))) (put_black W R a B ha _ (hB _ (by omega)))))
  have HD2 := Lib.hid (fun (R : Nat → Nat → Bool) (B : Nat → Int) (hB : ∀ j, j < N → 0 ≤ B j ∧ B j ≤ 255) (k : Nat) (hk : k < q) => none_lost (bitF W (putB W R 255 255 255 a B) k) (bitF W B k) (bitF_two W _ k) (bitF_dark W (putB W R 255 255 255 a B) B k (put_white W R a B ha _ (hB _ (by omega))) (put_white W R a B ha _ (hB _ (by omega))) (put_white W R a B ha _ (hB _ (by omega)))))
  have HI1 := Lib.hid hr1
  have HI2 := Lib.hid hr2
  clear hxW hyH hPX hPY hzx hzy hN hNq hq hr1 hr2 hn1 hn2 _hx _hy ha
  go_enter Try.func7, Try.ntmps7
  go_wp2_with fail
  have hst0 : Below w.heap.size w w := by (repeat' (first | exact Below.refl _ _ | exact Below.refl _ _ | refine balloc ?_ _ | refine Below.drew ?_ | refine below_drewN ?_ _ | refine bset ?_ (by first | omega | (simp <;> omega)) _))
  refine (sc.known_any _).mono ?_
  rintro e_ w1 ⟨rfl, hb⟩
  have hst : Below w.heap.size w w1 := btrans hst0 hb
  have hbw : Below w.heap.size w w1 := hst
  replace HI1 := Lib.hid (HI1.out.below hst)
  replace HI2 := Lib.hid (HI2.out.below hst)
  clear hst hst0 hb 
  go_wp2_with fail
  refine (HPX.out _).mono ?_
  rintro e_ w_ ⟨rfl, rfl⟩
  go_wp2_with fail
  refine (HPY.out _).mono ?_
  rintro e_ w_ ⟨rfl, rfl⟩
  go_wp2_with fail
  rw [HXW.out, HYH.out]
  have hst0 : Below w1.heap.size w1 w1 := by (repeat' (first | exact Below.refl _ _ | exact Below.refl _ _ | refine balloc ?_ _ | refine Below.drew ?_ | refine below_drewN ?_ _ | refine bset ?_ (by first | omega | (simp <;> omega)) _))
  refine (HPG.out _ (HI1.out.below hst0)).mono ?_
  rintro e_ w2 ⟨gp, B, rfl, hP, hb⟩
  have hst : Below w1.heap.size w1 w2 := btrans hst0 hb
  replace hbw : Below w.heap.size w w2 := btrans hbw hst
  replace HI1 := Lib.hid (HI1.out.below hst)
  replace HI2 := Lib.hid (HI2.out.below hst)
  clear hst hst0 hb 
  have HhP := Lib.hid hP
  clear hP
  go_wp2_with fail
  have hst0 : Below w2.heap.size w2 w2 := by (repeat' (first | exact Below.refl _ _ | exact Below.refl _ _ | refine balloc ?_ _ | refine Below.drew ?_ | refine below_drewN ?_ _ | refine bset ?_ (by first | omega | (simp <;> omega)) _))
  refine (HM2.out _ (HI2.out.below hst0)).mono ?_
  rintro e_ w3 ⟨D1, d1, R, rfl, hR, hb⟩
  have hst : Below w2.heap.size w2 w3 := btrans hst0 hb
  replace hbw : Below w.heap.size w w3 := btrans hbw hst
  replace HI1 := Lib.hid (HI1.out.below hst)
  replace HI2 := Lib.hid (HI2.out.below hst)
  replace HhP := Lib.hid (HhP.out.below hst)
  clear hst hst0 hb 
  have HhR := Lib.hid hR
  clear hR
  go_wp2_with fail
  have hst0 : Below w3.heap.size w3 ((w3.alloc (.cells #[.int .i64 (W : Int), .int .i64 (H : Int), .slice (some ⟨gp, 0, none⟩) N N] 34)).alloc (.cells #[.int .i64 (W : Int), .int .i64 (H : Int), .slice D1 H d1] 50)) := by (repeat' (first | exact Below.refl _ _ | exact Below.refl _ _ | refine balloc ?_ _ | refine Below.drew ?_ | refine below_drewN ?_ _ | refine bset ?_ (by first | omega | (simp <;> omega)) _))
  refine (HP0.out _ _ _ _ _ _ _ (HhP.out.below hst0) (HhR.out.below hst0)).mono ?_
  rintro e_ w4 ⟨gd, fd, hgd, rfl, qd, hb⟩
  clear hgd
  have hst : Below w3.heap.size w3 w4 := btrans hst0 hb
  have Kp := ((Blk.new w3 34 #[.int .i64 (W : Int), .int .i64 (H : Int), .slice (some ⟨gp, 0, none⟩) N N]).alloc (.cells #[.int .i64 (W : Int), .int .i64 (H : Int), .slice D1 H d1] 50))
  have Kr := (Blk.new (w3.alloc (.cells #[.int .i64 (W : Int), .int .i64 (H : Int), .slice (some ⟨gp, 0, none⟩) N N] 34)) 50 #[.int .i64 (W : Int), .int .i64 (H : Int), .slice D1 H d1])
  have hz_Kr : (w3.alloc (.cells #[.int .i64 (W : Int), .int .i64 (H : Int), .slice (some ⟨gp, 0, none⟩) N N] 34)).heap.size = w3.heap.size + 1 := by simp
  rw [hz_Kr] at Kr
  clear hz_Kr
  replace Kp := Kp.below hb Kp.lt
  replace Kr := Kr.below hb Kr.lt
  replace hbw : Below w.heap.size w w4 := btrans hbw hst
  replace HI1 := Lib.hid (HI1.out.below hst)
  replace HI2 := Lib.hid (HI2.out.below hst)
  replace HhP := Lib.hid (HhP.out.below hst)
  replace HhR := Lib.hid (HhR.out.below hst)
  clear hst hst0 hb 
  have Hqd := Lib.hid qd
  clear qd
  have lKp := Kp.lt
  have cKp0 := Kp.cell 0
  have cKp1 := Kp.cell 1
  have cKp2 := Kp.cell 2
  have lKr := Kr.lt
  have cKr0 := Kr.cell 0
  have cKr1 := Kr.cell 1
  have cKr2 := Kr.cell 2
  simp only [List.getElem?_toArray, List.getElem?_cons_succ, List.getElem?_cons_zero] at cKp0 cKp1 cKp2 cKr0 cKr1 cKr2
  go_wp2_with fail
  have hst0 : Below w4.heap.size w4 (w4.alloc (.cells #[.int .i64 (W : Int), .int .i64 (H : Int), .slice (some ⟨gd, 0, none⟩) N fd] 34)) := by (repeat' (first | exact Below.refl _ _ | exact Below.refl _ _ | refine balloc ?_ _ | refine Below.drew ?_ | refine below_drewN ?_ _ | refine bset ?_ (by first | omega | (simp <;> omega)) _))
  refine (HP1.out _ _ _ _ _ _ _ (HhP.out.below hst0) (HhR.out.below hst0)).mono ?_
  rintro e_ w5 ⟨gl, fl, hgl, rfl, ql, hb⟩
  clear hgl
  have hst : Below w4.heap.size w4 w5 := btrans hst0 hb
  replace Kp := (Kp.alloc (.cells #[.int .i64 (W : Int), .int .i64 (H : Int), .slice (some ⟨gd, 0, none⟩) N fd] 34))
  replace Kr := (Kr.alloc (.cells #[.int .i64 (W : Int), .int .i64 (H : Int), .slice (some ⟨gd, 0, none⟩) N fd] 34))
  have Kd := (Blk.new w4 34 #[.int .i64 (W : Int), .int .i64 (H : Int), .slice (some ⟨gd, 0, none⟩) N fd])
  replace Kp := Kp.below hb Kp.lt
  replace Kr := Kr.below hb Kr.lt
  replace Kd := Kd.below hb Kd.lt
  replace hbw : Below w.heap.size w w5 := btrans hbw hst
  replace HI1 := Lib.hid (HI1.out.below hst)
  replace HI2 := Lib.hid (HI2.out.below hst)
  replace HhP := Lib.hid (HhP.out.below hst)
  replace HhR := Lib.hid (HhR.out.below hst)
  replace Hqd := Lib.hid (Hqd.out.below hst)
  clear hst hst0 hb lKp cKp0 cKp1 cKp2 lKr cKr0 cKr1 cKr2
  have Hql := Lib.hid ql
  clear ql
  have lKp := Kp.lt
  have cKp0 := Kp.cell 0
  have cKp1 := Kp.cell 1
  have cKp2 := Kp.cell 2
  have lKr := Kr.lt
  have cKr0 := Kr.cell 0
  have cKr1 := Kr.cell 1
  have cKr2 := Kr.cell 2
  have lKd := Kd.lt
  have cKd0 := Kd.cell 0
  have cKd1 := Kd.cell 1
  have cKd2 := Kd.cell 2
  simp only [List.getElem?_toArray, List.getElem?_cons_succ, List.getElem?_cons_zero] at cKp0 cKp1 cKp2 cKr0 cKr1 cKr2 cKd0 cKd1 cKd2
  go_wp2_with fail
  have hst0 : Below w5.heap.size w5 (w5.alloc (.cells #[.int .i64 (W : Int), .int .i64 (H : Int), .slice (some ⟨gl, 0, none⟩) N fl] 34)) := by (repeat' (first | exact Below.refl _ _ | exact Below.refl _ _ | refine balloc ?_ _ | refine Below.drew ?_ | refine below_drewN ?_ _ | refine bset ?_ (by first | omega | (simp <;> omega)) _))
  refine (HBI.out _ _ _ _ (HhP.out.below hst0)).mono ?_
  rintro e_ w6 ⟨gm, rfl, qm, hb⟩
  have hst : Below w5.heap.size w5 w6 := btrans hst0 hb
  replace Kp := (Kp.alloc (.cells #[.int .i64 (W : Int), .int .i64 (H : Int), .slice (some ⟨gl, 0, none⟩) N fl] 34))
  replace Kr := (Kr.alloc (.cells #[.int .i64 (W : Int), .int .i64 (H : Int), .slice (some ⟨gl, 0, none⟩) N fl] 34))
  replace Kd := (Kd.alloc (.cells #[.int .i64 (W : Int), .int .i64 (H : Int), .slice (some ⟨gl, 0, none⟩) N fl] 34))
  have Kl := (Blk.new w5 34 #[.int .i64 (W : Int), .int .i64 (H : Int), .slice (some ⟨gl, 0, none⟩) N fl])
  replace Kp := Kp.below hb Kp.lt
  replace Kr := Kr.below hb Kr.lt
  replace Kd := Kd.below hb Kd.lt
  replace Kl := Kl.below hb Kl.lt
  replace hbw : Below w.heap.size w w6 := btrans hbw hst
  replace HI1 := Lib.hid (HI1.out.below hst)
  replace HI2 := Lib.hid (HI2.out.below hst)
  replace HhP := Lib.hid (HhP.out.below hst)
  replace HhR := Lib.hid (HhR.out.below hst)
  replace Hqd := Lib.hid (Hqd.out.below hst)
  replace Hql := Lib.hid (Hql.out.below hst)
  clear hst hst0 hb lKp cKp0 cKp1 cKp2 lKr cKr0 cKr1 cKr2 lKd cKd0 cKd1 cKd2
  have Hqm := Lib.hid qm
  clear qm
  have lKp := Kp.lt
  have cKp0 := Kp.cell 0
  have cKp1 := Kp.cell 1
  have cKp2 := Kp.cell 2
  have lKr := Kr.lt
  have cKr0 := Kr.cell 0
  have cKr1 := Kr.cell 1
  have cKr2 := Kr.cell 2
  have lKd := Kd.lt
  have cKd0 := Kd.cell 0
  have cKd1 := Kd.cell 1
  have cKd2 := Kd.cell 2
  have lKl := Kl.lt
  have cKl0 := Kl.cell 0
  have cKl1 := Kl.cell 1
  have cKl2 := Kl.cell 2
  simp only [List.getElem?_toArray, List.getElem?_cons_succ, List.getElem?_cons_zero] at cKp0 cKp1 cKp2 cKr0 cKr1 cKr2 cKd0 cKd1 cKd2 cKl0 cKl1 cKl2
  go_wp2_with fail
  have hst0 : Below w6.heap.size w6 (w6.alloc (.cells #[.int .i64 (W : Int), .int .i64 (H : Int), .slice (some ⟨gm, 0, none⟩) q q] 36)) := by (repeat' (first | exact Below.refl _ _ | exact Below.refl _ _ | refine balloc ?_ _ | refine Below.drew ?_ | refine below_drewN ?_ _ | refine bset ?_ (by first | omega | (simp <;> omega)) _))
  refine (HBI.out _ _ _ _ (Hqd.out.below hst0)).mono ?_
  rintro e_ w7 ⟨ge, rfl, qe, hb⟩
  have hst : Below w6.heap.size w6 w7 := btrans hst0 hb
  replace Kp := (Kp.alloc (.cells #[.int .i64 (W : Int), .int .i64 (H : Int), .slice (some ⟨gm, 0, none⟩) q q] 36))
  replace Kr := (Kr.alloc (.cells #[.int .i64 (W : Int), .int .i64 (H : Int), .slice (some ⟨gm, 0, none⟩) q q] 36))
  replace Kd := (Kd.alloc (.cells #[.int .i64 (W : Int), .int .i64 (H : Int), .slice (some ⟨gm, 0, none⟩) q q] 36))
  replace Kl := (Kl.alloc (.cells #[.int .i64 (W : Int), .int .i64 (H : Int), .slice (some ⟨gm, 0, none⟩) q q] 36))
  have Km := (Blk.new w6 36 #[.int .i64 (W : Int), .int .i64 (H : Int), .slice (some ⟨gm, 0, none⟩) q q])
  replace Kp := Kp.below hb Kp.lt
  replace Kr := Kr.below hb Kr.lt
  replace Kd := Kd.below hb Kd.lt
  replace Kl := Kl.below hb Kl.lt
  replace Km := Km.below hb Km.lt
  replace hbw : Below w.heap.size w w7 := btrans hbw hst
  replace HI1 := Lib.hid (HI1.out.below hst)
  replace HI2 := Lib.hid (HI2.out.below hst)
  replace HhP := Lib.hid (HhP.out.below hst)
  replace HhR := Lib.hid (HhR.out.below hst)
  replace Hqd := Lib.hid (Hqd.out.below hst)
  replace Hql := Lib.hid (Hql.out.below hst)
  replace Hqm := Lib.hid (Hqm.out.below hst)
  clear hst hst0 hb lKp cKp0 cKp1 cKp2 lKr cKr0 cKr1 cKr2 lKd cKd0 cKd1 cKd2 lKl cKl0 cKl1 cKl2
  have Hqe := Lib.hid qe
  clear qe
  have lKp := Kp.lt
  have cKp0 := Kp.cell 0
  have cKp1 := Kp.cell 1
  have cKp2 := Kp.cell 2
  have lKr := Kr.lt
  have cKr0 := Kr.cell 0
  have cKr1 := Kr.cell 1
  have cKr2 := Kr.cell 2
  have lKd := Kd.lt
  have cKd0 := Kd.cell 0
  have cKd1 := Kd.cell 1
  have cKd2 := Kd.cell 2
  have lKl := Kl.lt
  have cKl0 := Kl.cell 0
  have cKl1 := Kl.cell 1
  have cKl2 := Kl.cell 2
  have lKm := Km.lt
  have cKm0 := Km.cell 0
  have cKm1 := Km.cell 1
  have cKm2 := Km.cell 2
  simp only [List.getElem?_toArray, List.getElem?_cons_succ, List.getElem?_cons_zero] at cKp0 cKp1 cKp2 cKr0 cKr1 cKr2 cKd0 cKd1 cKd2 cKl0 cKl1 cKl2 cKm0 cKm1 cKm2
  go_wp2_with fail
  have hst0 : Below w7.heap.size w7 (w7.alloc (.cells #[.int .i64 (W : Int), .int .i64 (H : Int), .slice (some ⟨ge, 0, none⟩) q q] 36)) := by (repeat' (first | exact Below.refl _ _ | exact Below.refl _ _ | refine balloc ?_ _ | refine Below.drew ?_ | refine below_drewN ?_ _ | refine bset ?_ (by first | omega | (simp <;> omega)) _))
  refine (HBI.out _ _ _ _ (Hql.out.below hst0)).mono ?_
  rintro e_ w8 ⟨gh, rfl, qh, hb⟩
  have hst : Below w7.heap.size w7 w8 := btrans hst0 hb
  replace Kp := (Kp.alloc (.cells #[.int .i64 (W : Int), .int .i64 (H : Int), .slice (some ⟨ge, 0, none⟩) q q] 36))
  replace Kr := (Kr.alloc (.cells #[.int .i64 (W : Int), .int .i64 (H : Int), .slice (some ⟨ge, 0, none⟩) q q] 36))
  replace Kd := (Kd.alloc (.cells #[.int .i64 (W : Int), .int .i64 (H : Int), .slice (some ⟨ge, 0, none⟩) q q] 36))
  replace Kl := (Kl.alloc (.cells #[.int .i64 (W : Int), .int .i64 (H : Int), .slice (some ⟨ge, 0, none⟩) q q] 36))
  replace Km := (Km.alloc (.cells #[.int .i64 (W : Int), .int .i64 (H : Int), .slice (some ⟨ge, 0, none⟩) q q] 36))
  have Ke := (Blk.new w7 36 #[.int .i64 (W : Int), .int .i64 (H : Int), .slice (some ⟨ge, 0, none⟩) q q])
  replace Kp := Kp.below hb Kp.lt
  replace Kr := Kr.below hb Kr.lt
  replace Kd := Kd.below hb Kd.lt
  replace Kl := Kl.below hb Kl.lt
  replace Km := Km.below hb Km.lt
  replace Ke := Ke.below hb Ke.lt
  replace hbw : Below w.heap.size w w8 := btrans hbw hst
  replace HI1 := Lib.hid (HI1.out.below hst)
  replace HI2 := Lib.hid (HI2.out.below hst)
  replace HhP := Lib.hid (HhP.out.below hst)
  replace HhR := Lib.hid (HhR.out.below hst)
  replace Hqd := Lib.hid (Hqd.out.below hst)
  replace Hql := Lib.hid (Hql.out.below hst)
  replace Hqm := Lib.hid (Hqm.out.below hst)
  replace Hqe := Lib.hid (Hqe.out.below hst)
  clear hst hst0 hb lKp cKp0 cKp1 cKp2 lKr cKr0 cKr1 cKr2 lKd cKd0 cKd1 cKd2 lKl cKl0 cKl1 cKl2 lKm cKm0 cKm1 cKm2
  have Hqh := Lib.hid qh
  clear qh
  have lKp := Kp.lt
  have cKp0 := Kp.cell 0
  have cKp1 := Kp.cell 1
  have cKp2 := Kp.cell 2
  have lKr := Kr.lt
  have cKr0 := Kr.cell 0
  have cKr1 := Kr.cell 1
  have cKr2 := Kr.cell 2
  have lKd := Kd.lt
  have cKd0 := Kd.cell 0
  have cKd1 := Kd.cell 1
  have cKd2 := Kd.cell 2
  have lKl := Kl.lt
  have cKl0 := Kl.cell 0
  have cKl1 := Kl.cell 1
  have cKl2 := Kl.cell 2
  have lKm := Km.lt
  have cKm0 := Km.cell 0
  have cKm1 := Km.cell 1
  have cKm2 := Km.cell 2
  have lKe := Ke.lt
  have cKe0 := Ke.cell 0
  have cKe1 := Ke.cell 1
  have cKe2 := Ke.cell 2
  simp only [List.getElem?_toArray, List.getElem?_cons_succ, List.getElem?_cons_zero] at cKp0 cKp1 cKp2 cKr0 cKr1 cKr2 cKd0 cKd1 cKd2 cKl0 cKl1 cKl2 cKm0 cKm1 cKm2 cKe0 cKe1 cKe2
  go_wp2_with fail
  have hst0 : Below w8.heap.size w8 (w8.alloc (.cells #[.int .i64 (W : Int), .int .i64 (H : Int), .slice (some ⟨gh, 0, none⟩) q q] 36)) := by (repeat' (first | exact Below.refl _ _ | exact Below.refl _ _ | refine balloc ?_ _ | refine Below.drew ?_ | refine below_drewN ?_ _ | refine bset ?_ (by first | omega | (simp <;> omega)) _))
  refine (HLE.out _ _ _ _ _ _ _ (Hqm.out.below hst0) (HB2.out _) (Hqe.out.below hst0) (HB2.out _)).mono ?_
  rintro e_ w9 ⟨go, hgo, rfl, qo, hb⟩
  clear hgo
  have hst : Below w8.heap.size w8 w9 := btrans hst0 hb
  replace Kp := (Kp.alloc (.cells #[.int .i64 (W : Int), .int .i64 (H : Int), .slice (some ⟨gh, 0, none⟩) q q] 36))
  replace Kr := (Kr.alloc (.cells #[.int .i64 (W : Int), .int .i64 (H : Int), .slice (some ⟨gh, 0, none⟩) q q] 36))
  replace Kd := (Kd.alloc (.cells #[.int .i64 (W : Int), .int .i64 (H : Int), .slice (some ⟨gh, 0, none⟩) q q] 36))
  replace Kl := (Kl.alloc (.cells #[.int .i64 (W : Int), .int .i64 (H : Int), .slice (some ⟨gh, 0, none⟩) q q] 36))
  replace Km := (Km.alloc (.cells #[.int .i64 (W : Int), .int .i64 (H : Int), .slice (some ⟨gh, 0, none⟩) q q] 36))
  replace Ke := (Ke.alloc (.cells #[.int .i64 (W : Int), .int .i64 (H : Int), .slice (some ⟨gh, 0, none⟩) q q] 36))
  have Kh := (Blk.new w8 36 #[.int .i64 (W : Int), .int .i64 (H : Int), .slice (some ⟨gh, 0, none⟩) q q])
  replace Kp := Kp.below hb Kp.lt
  replace Kr := Kr.below hb Kr.lt
  replace Kd := Kd.below hb Kd.lt
  replace Kl := Kl.below hb Kl.lt
  replace Km := Km.below hb Km.lt
  replace Ke := Ke.below hb Ke.lt
  replace Kh := Kh.below hb Kh.lt
  replace hbw : Below w.heap.size w w9 := btrans hbw hst
  replace HI1 := Lib.hid (HI1.out.below hst)
  replace HI2 := Lib.hid (HI2.out.below hst)
  replace HhP := Lib.hid (HhP.out.below hst)
  replace HhR := Lib.hid (HhR.out.below hst)
  replace Hqd := Lib.hid (Hqd.out.below hst)
  replace Hql := Lib.hid (Hql.out.below hst)
  replace Hqm := Lib.hid (Hqm.out.below hst)
  replace Hqe := Lib.hid (Hqe.out.below hst)
  replace Hqh := Lib.hid (Hqh.out.below hst)
  clear hst hst0 hb lKp cKp0 cKp1 cKp2 lKr cKr0 cKr1 cKr2 lKd cKd0 cKd1 cKd2 lKl cKl0 cKl1 cKl2 lKm cKm0 cKm1 cKm2 lKe cKe0 cKe1 cKe2
  have Hqo := Lib.hid qo
  clear qo
  have lKp := Kp.lt
  have cKp0 := Kp.cell 0
  have cKp1 := Kp.cell 1
  have cKp2 := Kp.cell 2
  have lKr := Kr.lt
  have cKr0 := Kr.cell 0
  have cKr1 := Kr.cell 1
  have cKr2 := Kr.cell 2
  have lKd := Kd.lt
  have cKd0 := Kd.cell 0
  have cKd1 := Kd.cell 1
  have cKd2 := Kd.cell 2
  have lKl := Kl.lt
  have cKl0 := Kl.cell 0
  have cKl1 := Kl.cell 1
  have cKl2 := Kl.cell 2
  have lKm := Km.lt
  have cKm0 := Km.cell 0
  have cKm1 := Km.cell 1
  have cKm2 := Km.cell 2
  have lKe := Ke.lt
  have cKe0 := Ke.cell 0
  have cKe1 := Ke.cell 1
  have cKe2 := Ke.cell 2
  have lKh := Kh.lt
  have cKh0 := Kh.cell 0
  have cKh1 := Kh.cell 1
  have cKh2 := Kh.cell 2
  simp only [List.getElem?_toArray, List.getElem?_cons_succ, List.getElem?_cons_zero] at cKp0 cKp1 cKp2 cKr0 cKr1 cKr2 cKd0 cKd1 cKd2 cKl0 cKl1 cKl2 cKm0 cKm1 cKm2 cKe0 cKe1 cKe2 cKh0 cKh1 cKh2
  go_wp2_with fail
  have hst0 : Below w9.heap.size w9 (w9.alloc (.cells #[.int .i64 (W : Int), .int .i64 (H : Int), .slice (some ⟨go, 0, none⟩) q q] 36)) := by (repeat' (first | exact Below.refl _ _ | exact Below.refl _ _ | refine balloc ?_ _ | refine Below.drew ?_ | refine below_drewN ?_ _ | refine bset ?_ (by first | omega | (simp <;> omega)) _))
  refine (HLE.out _ _ _ _ _ _ _ (Hqh.out.below hst0) (HB2.out _) (Hqm.out.below hst0) (HB2.out _)).mono ?_
  rintro e_ w10 ⟨gs, hgs, rfl, qs, hb⟩
  clear hgs
  have hst : Below w9.heap.size w9 w10 := btrans hst0 hb
  replace Kp := (Kp.alloc (.cells #[.int .i64 (W : Int), .int .i64 (H : Int), .slice (some ⟨go, 0, none⟩) q q] 36))
  replace Kr := (Kr.alloc (.cells #[.int .i64 (W : Int), .int .i64 (H : Int), .slice (some ⟨go, 0, none⟩) q q] 36))
  replace Kd := (Kd.alloc (.cells #[.int .i64 (W : Int), .int .i64 (H : Int), .slice (some ⟨go, 0, none⟩) q q] 36))
  replace Kl := (Kl.alloc (.cells #[.int .i64 (W : Int), .int .i64 (H : Int), .slice (some ⟨go, 0, none⟩) q q] 36))
  replace Km := (Km.alloc (.cells #[.int .i64 (W : Int), .int .i64 (H : Int), .slice (some ⟨go, 0, none⟩) q q] 36))
  replace Ke := (Ke.alloc (.cells #[.int .i64 (W : Int), .int .i64 (H : Int), .slice (some ⟨go, 0, none⟩) q q] 36))
  replace Kh := (Kh.alloc (.cells #[.int .i64 (W : Int), .int .i64 (H : Int), .slice (some ⟨go, 0, none⟩) q q] 36))
  have Ko := (Blk.new w9 36 #[.int .i64 (W : Int), .int .i64 (H : Int), .slice (some ⟨go, 0, none⟩) q q])
  replace Kp := Kp.below hb Kp.lt
  replace Kr := Kr.below hb Kr.lt
  replace Kd := Kd.below hb Kd.lt
  replace Kl := Kl.below hb Kl.lt
  replace Km := Km.below hb Km.lt
  replace Ke := Ke.below hb Ke.lt
  replace Kh := Kh.below hb Kh.lt
  replace Ko := Ko.below hb Ko.lt
  replace hbw : Below w.heap.size w w10 := btrans hbw hst
  replace HI1 := Lib.hid (HI1.out.below hst)
  replace HI2 := Lib.hid (HI2.out.below hst)
  replace HhP := Lib.hid (HhP.out.below hst)
  replace HhR := Lib.hid (HhR.out.below hst)
  replace Hqd := Lib.hid (Hqd.out.below hst)
  replace Hql := Lib.hid (Hql.out.below hst)
  replace Hqm := Lib.hid (Hqm.out.below hst)
  replace Hqe := Lib.hid (Hqe.out.below hst)
  replace Hqh := Lib.hid (Hqh.out.below hst)
  replace Hqo := Lib.hid (Hqo.out.below hst)
  clear hst hst0 hb lKp cKp0 cKp1 cKp2 lKr cKr0 cKr1 cKr2 lKd cKd0 cKd1 cKd2 lKl cKl0 cKl1 cKl2 lKm cKm0 cKm1 cKm2 lKe cKe0 cKe1 cKe2 lKh cKh0 cKh1 cKh2
  have Hqs := Lib.hid qs
  clear qs
  have lKp := Kp.lt
  have cKp0 := Kp.cell 0
  have cKp1 := Kp.cell 1
  have cKp2 := Kp.cell 2
  have lKr := Kr.lt
  have cKr0 := Kr.cell 0
  have cKr1 := Kr.cell 1
  have cKr2 := Kr.cell 2
  have lKd := Kd.lt
  have cKd0 := Kd.cell 0
  have cKd1 := Kd.cell 1
  have cKd2 := Kd.cell 2
  have lKl := Kl.lt
  have cKl0 := Kl.cell 0
  have cKl1 := Kl.cell 1
  have cKl2 := Kl.cell 2
  have lKm := Km.lt
  have cKm0 := Km.cell 0
  have cKm1 := Km.cell 1
  have cKm2 := Km.cell 2
  have lKe := Ke.lt
  have cKe0 := Ke.cell 0
  have cKe1 := Ke.cell 1
  have cKe2 := Ke.cell 2
  have lKh := Kh.lt
  have cKh0 := Kh.cell 0
  have cKh1 := Kh.cell 1
  have cKh2 := Kh.cell 2
  have lKo := Ko.lt
  have cKo0 := Ko.cell 0
  have cKo1 := Ko.cell 1
  have cKo2 := Ko.cell 2
  simp only [List.getElem?_toArray, List.getElem?_cons_succ, List.getElem?_cons_zero] at cKp0 cKp1 cKp2 cKr0 cKr1 cKr2 cKd0 cKd1 cKd2 cKl0 cKl1 cKl2 cKm0 cKm1 cKm2 cKe0 cKe1 cKe2 cKh0 cKh1 cKh2 cKo0 cKo1 cKo2
  go_wp2_with fail
  have hst0 : Below w10.heap.size w10 (w10.alloc (.cells #[.int .i64 (W : Int), .int .i64 (H : Int), .slice (some ⟨gs, 0, none⟩) q q] 36)) := by (repeat' (first | exact Below.refl _ _ | exact Below.refl _ _ | refine balloc ?_ _ | refine Below.drew ?_ | refine below_drewN ?_ _ | refine bset ?_ (by first | omega | (simp <;> omega)) _))
  refine (HCO.out _ _ _ _ (Hqo.out.below hst0) (fun k hk => HD1.out R B (fun j hj => HhP.out.bd j hj) k hk)).mono ?_
  rintro e_ w11 ⟨rfl, hb⟩
  have hst : Below w10.heap.size w10 w11 := btrans hst0 hb
  replace Kp := (Kp.alloc (.cells #[.int .i64 (W : Int), .int .i64 (H : Int), .slice (some ⟨gs, 0, none⟩) q q] 36))
  replace Kr := (Kr.alloc (.cells #[.int .i64 (W : Int), .int .i64 (H : Int), .slice (some ⟨gs, 0, none⟩) q q] 36))
  replace Kd := (Kd.alloc (.cells #[.int .i64 (W : Int), .int .i64 (H : Int), .slice (some ⟨gs, 0, none⟩) q q] 36))
  replace Kl := (Kl.alloc (.cells #[.int .i64 (W : Int), .int .i64 (H : Int), .slice (some ⟨gs, 0, none⟩) q q] 36))
  replace Km := (Km.alloc (.cells #[.int .i64 (W : Int), .int .i64 (H : Int), .slice (some ⟨gs, 0, none⟩) q q] 36))
  replace Ke := (Ke.alloc (.cells #[.int .i64 (W : Int), .int .i64 (H : Int), .slice (some ⟨gs, 0, none⟩) q q] 36))
  replace Kh := (Kh.alloc (.cells #[.int .i64 (W : Int), .int .i64 (H : Int), .slice (some ⟨gs, 0, none⟩) q q] 36))
  replace Ko := (Ko.alloc (.cells #[.int .i64 (W : Int), .int .i64 (H : Int), .slice (some ⟨gs, 0, none⟩) q q] 36))
  have Ks := (Blk.new w10 36 #[.int .i64 (W : Int), .int .i64 (H : Int), .slice (some ⟨gs, 0, none⟩) q q])
  replace Kp := Kp.below hb Kp.lt
  replace Kr := Kr.below hb Kr.lt
  replace Kd := Kd.below hb Kd.lt
  replace Kl := Kl.below hb Kl.lt
  replace Km := Km.below hb Km.lt
  replace Ke := Ke.below hb Ke.lt
  replace Kh := Kh.below hb Kh.lt
  replace Ko := Ko.below hb Ko.lt
  replace Ks := Ks.below hb Ks.lt
  replace hbw : Below w.heap.size w w11 := btrans hbw hst
  replace HI1 := Lib.hid (HI1.out.below hst)
  replace HI2 := Lib.hid (HI2.out.below hst)
  replace HhP := Lib.hid (HhP.out.below hst)
  replace HhR := Lib.hid (HhR.out.below hst)
  replace Hqd := Lib.hid (Hqd.out.below hst)
  replace Hql := Lib.hid (Hql.out.below hst)
  replace Hqm := Lib.hid (Hqm.out.below hst)
  replace Hqe := Lib.hid (Hqe.out.below hst)
  replace Hqh := Lib.hid (Hqh.out.below hst)
  replace Hqo := Lib.hid (Hqo.out.below hst)
  replace Hqs := Lib.hid (Hqs.out.below hst)
  clear hst hst0 hb lKp cKp0 cKp1 cKp2 lKr cKr0 cKr1 cKr2 lKd cKd0 cKd1 cKd2 lKl cKl0 cKl1 cKl2 lKm cKm0 cKm1 cKm2 lKe cKe0 cKe1 cKe2 lKh cKh0 cKh1 cKh2 lKo cKo0 cKo1 cKo2
  have lKp := Kp.lt
  have cKp0 := Kp.cell 0
  have cKp1 := Kp.cell 1
  have cKp2 := Kp.cell 2
  have lKr := Kr.lt
  have cKr0 := Kr.cell 0
  have cKr1 := Kr.cell 1
  have cKr2 := Kr.cell 2
  have lKd := Kd.lt
  have cKd0 := Kd.cell 0
  have cKd1 := Kd.cell 1
  have cKd2 := Kd.cell 2
  have lKl := Kl.lt
  have cKl0 := Kl.cell 0
  have cKl1 := Kl.cell 1
  have cKl2 := Kl.cell 2
  have lKm := Km.lt
  have cKm0 := Km.cell 0
  have cKm1 := Km.cell 1
  have cKm2 := Km.cell 2
  have lKe := Ke.lt
  have cKe0 := Ke.cell 0
  have cKe1 := Ke.cell 1
  have cKe2 := Ke.cell 2
  have lKh := Kh.lt
  have cKh0 := Kh.cell 0
  have cKh1 := Kh.cell 1
  have cKh2 := Kh.cell 2
  have lKo := Ko.lt
  have cKo0 := Ko.cell 0
  have cKo1 := Ko.cell 1
  have cKo2 := Ko.cell 2
  have lKs := Ks.lt
  have cKs0 := Ks.cell 0
  have cKs1 := Ks.cell 1
  have cKs2 := Ks.cell 2
  simp only [List.getElem?_toArray, List.getElem?_cons_succ, List.getElem?_cons_zero] at cKp0 cKp1 cKp2 cKr0 cKr1 cKr2 cKd0 cKd1 cKd2 cKl0 cKl1 cKl2 cKm0 cKm1 cKm2 cKe0 cKe1 cKe2 cKh0 cKh1 cKh2 cKo0 cKo1 cKo2 cKs0 cKs1 cKs2
  go_wp2_with fail
  have hst0 : Below w11.heap.size w11 w11 := by (repeat' (first | exact Below.refl _ _ | exact Below.refl _ _ | refine balloc ?_ _ | refine Below.drew ?_ | refine below_drewN ?_ _ | refine bset ?_ (by first | omega | (simp <;> omega)) _))
  refine (HCO.out _ _ _ _ (Hqs.out.below hst0) (fun k hk => HD2.out R B (fun j hj => HhP.out.bd j hj) k hk)).mono ?_
  rintro e_ w12 ⟨rfl, hb⟩
  have hst : Below w11.heap.size w11 w12 := btrans hst0 hb
  replace Kp := Kp.below hb Kp.lt
  replace Kr := Kr.below hb Kr.lt
  replace Kd := Kd.below hb Kd.lt
  replace Kl := Kl.below hb Kl.lt
  replace Km := Km.below hb Km.lt
  replace Ke := Ke.below hb Ke.lt
  replace Kh := Kh.below hb Kh.lt
  replace Ko := Ko.below hb Ko.lt
  replace Ks := Ks.below hb Ks.lt
  replace hbw : Below w.heap.size w w12 := btrans hbw hst
  replace HI1 := Lib.hid (HI1.out.below hst)
  replace HI2 := Lib.hid (HI2.out.below hst)
  replace HhP := Lib.hid (HhP.out.below hst)
  replace HhR := Lib.hid (HhR.out.below hst)
  replace Hqd := Lib.hid (Hqd.out.below hst)
  replace Hql := Lib.hid (Hql.out.below hst)
  replace Hqm := Lib.hid (Hqm.out.below hst)
  replace Hqe := Lib.hid (Hqe.out.below hst)
  replace Hqh := Lib.hid (Hqh.out.below hst)
  replace Hqo := Lib.hid (Hqo.out.below hst)
  replace Hqs := Lib.hid (Hqs.out.below hst)
  clear hst hst0 hb lKp cKp0 cKp1 cKp2 lKr cKr0 cKr1 cKr2 lKd cKd0 cKd1 cKd2 lKl cKl0 cKl1 cKl2 lKm cKm0 cKm1 cKm2 lKe cKe0 cKe1 cKe2 lKh cKh0 cKh1 cKh2 lKo cKo0 cKo1 cKo2 lKs cKs0 cKs1 cKs2
  have lKp := Kp.lt
  have cKp0 := Kp.cell 0
  have cKp1 := Kp.cell 1
  have cKp2 := Kp.cell 2
  have lKr := Kr.lt
  have cKr0 := Kr.cell 0
  have cKr1 := Kr.cell 1
  have cKr2 := Kr.cell 2
  have lKd := Kd.lt
  have cKd0 := Kd.cell 0
  have cKd1 := Kd.cell 1
  have cKd2 := Kd.cell 2
  have lKl := Kl.lt
  have cKl0 := Kl.cell 0
  have cKl1 := Kl.cell 1
  have cKl2 := Kl.cell 2
  have lKm := Km.lt
  have cKm0 := Km.cell 0
  have cKm1 := Km.cell 1
  have cKm2 := Km.cell 2
  have lKe := Ke.lt
  have cKe0 := Ke.cell 0
  have cKe1 := Ke.cell 1
  have cKe2 := Ke.cell 2
  have lKh := Kh.lt
  have cKh0 := Kh.cell 0
  have cKh1 := Kh.cell 1
  have cKh2 := Kh.cell 2
  have lKo := Ko.lt
  have cKo0 := Ko.cell 0
  have cKo1 := Ko.cell 1
  have cKo2 := Ko.cell 2
  have lKs := Ks.lt
  have cKs0 := Ks.cell 0
  have cKs1 := Ks.cell 1
  have cKs2 := Ks.cell 2
  simp only [List.getElem?_toArray, List.getElem?_cons_succ, List.getElem?_cons_zero] at cKp0 cKp1 cKp2 cKr0 cKr1 cKr2 cKd0 cKd1 cKd2 cKl0 cKl1 cKl2 cKm0 cKm1 cKm2 cKe0 cKe1 cKe2 cKh0 cKh1 cKh2 cKo0 cKo1 cKo2 cKs0 cKs1 cKs2
  go_wp2_with fail
  go_ret
  exact ⟨rfl, hbw⟩
end Go.Proofs.Ytodeebaogpepkaa.rg
