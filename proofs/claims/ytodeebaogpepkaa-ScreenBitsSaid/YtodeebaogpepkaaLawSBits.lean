/-
  ScreenBits: Bits is the Tone of the Grey of every pixel, and the bits drawn in black on white have the same bits.
-/
import Derived.Test.YtodeebaogpepkaaLawFlat
import Derived.Test.YtodeebaogpepkaaSHas
import Derived.Test.YtodeebaogpepkaaUnlike
namespace Go.Proofs.Ytodeebaogpepkaa.rg
set_option linter.unusedVariables false
set_option linter.unusedSimpArgs false
open Go.RowKit bs sp ik op

theorem bitF_bit (W : Nat) (B : Nat → Int) (j i : Nat) (hi : i < W) : (bitF W B (j * W + i) == 1) = sc.tone (sc.grey (B (3 * (j * W + i))) (B (3 * (j * W + i) + 1)) (B (3 * (j * W + i) + 2))) (i : Int) (j : Int) := by
  obtain ⟨e1, e2⟩ := pix_of (j := j) hi
  have e4 : ((j * W + i : Nat) : Int) % (W : Int) = (i : Int) := by rw [← Int.natCast_emod, e2]
  have e5 : ((j * W + i : Nat) : Int) / (W : Int) = (j : Int) := by rw [← Int.natCast_ediv, e1]
  unfold bitF
  rw [e4, e5]
  cases sc.tone (sc.grey (B (3 * (j * W + i))) (B (3 * (j * W + i) + 1)) (B (3 * (j * W + i) + 2))) (i : Int) (j : Int) <;> simp
theorem bits_again (W : Nat) (hW : 1 ≤ W) (M : Nat → Int) (hM : ∀ k, M k = 0 ∨ M k = 1) (k : Nat) : bitF W (putB W (fun j i => decide (M (j * W + i) = 1)) 0 0 0 255 (fun _ => 255)) k = M k := by
  have hd : k / W * W + k % W = k := by rw [Nat.mul_comm]; exact Nat.div_add_mod k W
  have e : ∀ t, t < 3 → putB W (fun j i => decide (M (j * W + i) = 1)) 0 0 0 255 (fun _ => 255) (3 * k + t) = if M k = 1 then 0 else 255 := fun t ht => by
    unfold putB
    have e9 : chan 0 0 0 ((3 * k + t) % 3) = 0 := by unfold chan; (repeat' split) <;> rfl
    rw [show (3 * k + t) / 3 = k by omega, e9]
    show (if decide (M (k / W * W + k % W) = 1) = true then blend 255 0 255 else 255) = _
    rw [hd]
    by_cases h : M k = 1
    · rw [if_pos (by simp [h]), if_pos h]
      exact blend_all 255 0 (by decide) (by decide)
    · rw [if_neg (by simp [h]), if_neg h]
  have e0 := e 0 (by omega)
  rw [Nat.add_zero] at e0
  unfold bitF
  rw [e0, e 1 (by omega), e 2 (by omega)]
  rcases hM k with h | h
  · have e5 : (if M k = 1 then (0 : Int) else 255) = 255 := if_neg (by omega)
    rw [e5, show sc.grey 255 255 255 = 255 by decide, sc.tone_max, h]
    rfl
  · have e5 : (if M k = 1 then (0 : Int) else 255) = 0 := if_pos h
    rw [e5, show sc.grey 0 0 0 = 0 by decide, sc.tone_zero, h]
    rfl
set_option maxRecDepth 100000 in
set_option maxHeartbeats 12800000 in
theorem sbits_law (A1 : Option Addr) (n1 c1 : Nat) (ns1 : Nat → Int) (x y : Int) (w : World) (hr1 : Ints w A1 n1 c1 ns1) (hn1 : n1 ≤ 9223372036854775807) (_hx : -9223372036854775808 ≤ x ∧ x ≤ 9223372036854775807) (_hy : -9223372036854775808 ≤ y ∧ y ≤ 9223372036854775807) :
    Calls Try.prog 10 #[.slice A1 n1 c1, .int .i64 x, .int .i64 y] w fun ed w' => ed = .returned (.bool true) ∧ Below w.heap.size w w' := by
  obtain ⟨W, hW, hxW, hx0, hx1⟩ := twelve_fix x
  obtain ⟨H, hH, hyH, hy0, hy1⟩ := twelve_fix y
  have hPX := fun W => place_any x 12 W (by decide) (by decide)
  have hPY := fun W => place_any y 12 W (by decide) (by decide)
  obtain ⟨zx, hzx⟩ : ∃ z, x % 12 = z := ⟨_, rfl⟩
  obtain ⟨zy, hzy⟩ : ∃ z, y % 12 = z := ⟨_, rfl⟩
  rw [hzx] at hPX hxW hx0 hx1
  rw [hzy] at hPY hyH hy0 hy1
  have HXW := Lib.hid hxW
  have HYH := Lib.hid hyH
  have HPX := Lib.hid hPX
  have HPY := Lib.hid hPY
  obtain ⟨q, hq⟩ : ∃ q, W * H = q := ⟨_, rfl⟩
  obtain ⟨N, hN⟩ : ∃ N, N = 3 * (W * H) := ⟨_, rfl⟩
  have HPG := Lib.hid (fun W' h => lpage_any A1 n1 c1 ns1 W H N W' h hn1 hW hH hN)
  have HBI := Lib.hid (fun c A B W' hp => sbits_any W H N c q A B W' hW hH hN hq hp)
  have HMY := Lib.hid (fun c A (B : Nat → Int) W' hp (hB : ∀ j, j < q → B j ≤ 1) => cmay_yes W H q c A B W' hW hH hq.symm hp hB)
  have HAT := Lib.hid (fun c i j A B W' hp hi hj => at_pg W H N c i j A B W' hW hH hN hp hi hj)
  have HHA := Lib.hid (fun c i j A (B : Nat → Int) W' hp (hB : ∀ j, j < q → B j = 0 ∨ B j = 1) hi hj => chas_yes W H q c i j A B W' hW hH hq.symm hp hB hi hj)
  have HOF := Lib.hid (fun c A (B : Nat → Int) W' hp (hB : ∀ j, j < q → B j = 0 ∨ B j = 1) => rof_any W H q c A B W' hW hH hq.symm hp hB)
  have HNW := Lib.hid (fun W' => new_pg W H N W' hW hH hN)
  have HPU := Lib.hid (fun c d A D R B W' hp hr => put_any W H N c d A D R 0 0 0 255 B W' hW hH hN ⟨by omega, by omega⟩ ⟨by omega, by omega⟩ ⟨by omega, by omega⟩ ⟨by omega, by omega⟩ hp hr)
  have HB2 := Lib.hid (fun (B : Nat → Int) (j : Nat) (_ : j < q) => bitF_two W B j)
  have HB3 := Lib.hid (fun (B : Nat → Int) (j : Nat) (_ : j < q) => (by have := bitF_two W B j; omega : bitF W B j ≤ 1))
  have HFI := Lib.hid (fun (B : Nat → Int) (k : Nat) (_ : k < q) => bits_again W hW.1 (bitF W B) (bitF_two W B) k)
  have HPX3 := Lib.hid (fun j i (hj : j < H) (hi : i < W) => (by have := pix_in hj hi; omega : 3 * (j * W + i) + 3 ≤ N))
  have HI1 := Lib.hid hr1
  obtain ⟨w0, wh⟩ := hW
  obtain ⟨h0, hh⟩ := hH
  clear hxW hyH hPX hPY hzx hzy hN hq hr1 hn1 _hx _hy
  go_enter Try.func10, Try.ntmps10
  go_wp2_with fail
  have hst0 : Below w.heap.size w w := by (repeat' (first | exact Below.refl _ _ | exact Below.refl _ _ | refine balloc ?_ _ | refine Below.drew ?_ | refine below_drewN ?_ _ | refine bset ?_ (by first | omega | (simp <;> omega)) _))
  refine (sc.known_any _).mono ?_
  rintro e_ w1 ⟨rfl, hb⟩
  have hst : Below w.heap.size w w1 := btrans hst0 hb
  have hbw : Below w.heap.size w w1 := hst
  replace HI1 := Lib.hid (HI1.out.below hst)
  clear hst hst0 hb 
  go_wp2_with fail
  refine (HPX.out _).mono ?_
  rintro e_ w_ ⟨rfl, rfl⟩
  go_wp2_with fail
  refine (HPY.out _).mono ?_
  rintro e_ w_ ⟨rfl, rfl⟩
  go_wp2_with fail
  rw [HXW.out, HYH.out]
  clear hx0 hx1 hy0 hy1
  have hst0 : Below w1.heap.size w1 w1 := by (repeat' (first | exact Below.refl _ _ | exact Below.refl _ _ | refine balloc ?_ _ | refine Below.drew ?_ | refine below_drewN ?_ _ | refine bset ?_ (by first | omega | (simp <;> omega)) _))
  refine (HPG.out _ (HI1.out.below hst0)).mono ?_
  rintro e_ w2 ⟨gp, B, rfl, hP, hb⟩
  have hst : Below w1.heap.size w1 w2 := btrans hst0 hb
  replace hbw : Below w.heap.size w w2 := btrans hbw hst
  replace HI1 := Lib.hid (HI1.out.below hst)
  clear hst hst0 hb 
  have HhP := Lib.hid hP
  clear hP
  go_wp2_with fail
  have hst0 : Below w2.heap.size w2 (w2.alloc (.cells #[.int .i64 (W : Int), .int .i64 (H : Int), .slice (some ⟨gp, 0, none⟩) N N] 34)) := by (repeat' (first | exact Below.refl _ _ | exact Below.refl _ _ | refine balloc ?_ _ | refine Below.drew ?_ | refine below_drewN ?_ _ | refine bset ?_ (by first | omega | (simp <;> omega)) _))
  refine (HBI.out _ _ _ _ (HhP.out.below hst0)).mono ?_
  rintro e_ w3 ⟨ga, rfl, qa, hb⟩
  have hst : Below w2.heap.size w2 w3 := btrans hst0 hb
  have Kp := (Blk.new w2 34 #[.int .i64 (W : Int), .int .i64 (H : Int), .slice (some ⟨gp, 0, none⟩) N N])
  replace Kp := Kp.below hb Kp.lt
  replace hbw : Below w.heap.size w w3 := btrans hbw hst
  replace HI1 := Lib.hid (HI1.out.below hst)
  replace HhP := Lib.hid (HhP.out.below hst)
  clear hst hst0 hb 
  have Hqa := Lib.hid qa
  clear qa
  have lKp := Kp.lt
  have cKp0 := Kp.cell 0
  have cKp1 := Kp.cell 1
  have cKp2 := Kp.cell 2
  simp only [List.getElem?_toArray, List.getElem?_cons_succ, List.getElem?_cons_zero] at cKp0 cKp1 cKp2
  go_wp2_with fail
  have hst0 : Below w3.heap.size w3 (w3.alloc (.cells #[.int .i64 (W : Int), .int .i64 (H : Int), .slice (some ⟨ga, 0, none⟩) q q] 36)) := by (repeat' (first | exact Below.refl _ _ | exact Below.refl _ _ | refine balloc ?_ _ | refine Below.drew ?_ | refine below_drewN ?_ _ | refine bset ?_ (by first | omega | (simp <;> omega)) _))
  refine (HMY.out _ _ _ _ (Hqa.out.below hst0) (HB3.out B)).mono ?_
  rintro e_ w4 ⟨rfl, hb⟩
  have hst : Below w3.heap.size w3 w4 := btrans hst0 hb
  replace Kp := (Kp.alloc (.cells #[.int .i64 (W : Int), .int .i64 (H : Int), .slice (some ⟨ga, 0, none⟩) q q] 36))
  have Ka := (Blk.new w3 36 #[.int .i64 (W : Int), .int .i64 (H : Int), .slice (some ⟨ga, 0, none⟩) q q])
  replace Kp := Kp.below hb Kp.lt
  replace Ka := Ka.below hb Ka.lt
  replace hbw : Below w.heap.size w w4 := btrans hbw hst
  replace HI1 := Lib.hid (HI1.out.below hst)
  replace HhP := Lib.hid (HhP.out.below hst)
  replace Hqa := Lib.hid (Hqa.out.below hst)
  clear hst hst0 hb lKp cKp0 cKp1 cKp2
  have lKp := Kp.lt
  have cKp0 := Kp.cell 0
  have cKp1 := Kp.cell 1
  have cKp2 := Kp.cell 2
  have lKa := Ka.lt
  have cKa0 := Ka.cell 0
  have cKa1 := Ka.cell 1
  have cKa2 := Ka.cell 2
  simp only [List.getElem?_toArray, List.getElem?_cons_succ, List.getElem?_cons_zero] at cKp0 cKp1 cKp2 cKa0 cKa1 cKa2
  have HKp := Lib.hid Kp
  have HKa := Lib.hid Ka
  have HBW := Lib.hid hbw
  go_wp2_with fail
  clear Kp Ka hbw lKp cKp0 cKp1 cKp2 lKa cKa0 cKa1 cKa2
  go_loopw [12] (fun jv wr => ∃ j : Nat, j ≤ H ∧ jv = .int .i64 (j : Int) ∧ Below w4.heap.size w4 wr) (fun jv _ => H - (intOf jv).toNat)
  case atStart => exact ⟨0, by omega, rfl, by (repeat' (first | exact Below.refl _ _ | exact Below.refl _ _ | refine balloc ?_ _ | refine Below.drew ?_ | refine below_drewN ?_ _ | refine bset ?_ (by first | omega | (simp <;> omega)) _))⟩
  case round =>
    obtain ⟨j, hj, rfl, hbo⟩ := hrel
    by_cases hjl : j < H
    · have d1 : decide ((j : Int) < (H : Int)) = true := by simp; omega
      have HBO := Lib.hid hbo
      clear hbo
      go_wp2_with fail
      go_loopw [13] (fun iv wi => ∃ i : Nat, i ≤ W ∧ iv = .int .i64 (i : Int) ∧ Below w4.heap.size w4 wi) (fun iv _ => W - (intOf iv).toNat)
      case atStart => exact ⟨0, by omega, rfl, HBO.out⟩
      case round =>
        obtain ⟨i, hi, rfl, hbi⟩ := hrel
        by_cases hil : i < W
        · have d2 : decide ((i : Int) < (W : Int)) = true := by simp; omega
          have Jp := HKp.out.below hbi HKp.out.lt
          have Ja := HKa.out.below hbi HKa.out.lt
          have p0 := Jp.cell 0
          have p1 := Jp.cell 1
          have p2 := Jp.cell 2
          simp only [List.getElem?_toArray, List.getElem?_cons_succ, List.getElem?_cons_zero] at p0 p1 p2
          have HA1 := Lib.hid (HAT.out _ i j _ B wr (HhP.out.below hbi) hil hjl)
          have lja := Ja.lt
          have HJA := Lib.hid Ja
          have HBI2 := Lib.hid hbi
          clear Jp Ja hbi
          go_wp2_with fail
          refine HA1.out.mono ?_
          rintro e_ w2 ⟨rfl, hb2⟩
          have hbi := btrans HBI2.out hb2
          have Ja := HJA.out.below hb2 lja
          clear HA1 HBI2 HJA lja p0 p1 p2 hb2
          have hk3 := HPX3.out j i hjl hil
          have y0b := HhP.out.bd (3 * (j * W + i)) (by omega)
          have y1b := HhP.out.bd (3 * (j * W + i) + 1) (by omega)
          have y2b := HhP.out.bd (3 * (j * W + i) + 2) (by omega)
          have hbit := bitF_bit W B j i hil
          obtain ⟨y0, hy0⟩ : ∃ y, B (3 * (j * W + i)) = y := ⟨_, rfl⟩
          obtain ⟨y1, hy1⟩ : ∃ y, B (3 * (j * W + i) + 1) = y := ⟨_, rfl⟩
          obtain ⟨y2, hy2⟩ : ∃ y, B (3 * (j * W + i) + 2) = y := ⟨_, rfl⟩
          rw [hy0] at y0b hbit
          rw [hy1] at y1b hbit
          rw [hy2] at y2b hbit
          rw [hy0, hy1, hy2]
          have hgb := sc.grey_bd y0 y1 y2 y0b y1b y2b
          have HGR := Lib.hid (fun W' => sc.grey_any y0 y1 y2 255 W' y0b y1b y2b)
          obtain ⟨g, hg⟩ : ∃ g, sc.grey y0 y1 y2 = g := ⟨_, rfl⟩
          rw [hg] at hgb HGR hbit
          have HTO := Lib.hid (fun W' => sc.tone_any g (i : Int) (j : Int) W' hgb.1 hgb.2)
          obtain ⟨t, ht⟩ : ∃ t, sc.tone g (i : Int) (j : Int) = t := ⟨_, rfl⟩
          rw [ht] at HTO hbit
          have HCH := Lib.hid (fun W' (hW' : Below w4.heap.size w4 W') => hbit ▸ HHA.out _ i j _ _ W' (Hqa.out.below hW') (HB2.out B) hil hjl)
          clear hy0 hy1 hy2 hg ht hbit hk3 y0b y1b y2b hgb
          have Jx := Blk.new w2 29 #[.int .u8 y0, .int .u8 y1, .int .u8 y2, .int .u8 255]
          replace Ja := Ja.alloc (.cells #[.int .u8 y0, .int .u8 y1, .int .u8 y2, .int .u8 255] 29)
          have hbz : Below w4.heap.size w4 (w2.alloc (.cells #[.int .u8 y0, .int .u8 y1, .int .u8 y2, .int .u8 255] 29)) := balloc hbi _
          obtain ⟨xb, hxb⟩ : ∃ xb, w2.heap.size = xb := ⟨_, rfl⟩
          rw [hxb] at Jx
          have HJX := Lib.hid Jx
          have HJA := Lib.hid Ja
          have HBZ := Lib.hid hbz
          clear Jx Ja hbz hbi
          go_wp2_with fail
          generalize hwx : w2.alloc (.cells #[.int .u8 y0, .int .u8 y1, .int .u8 y2, .int .u8 255] 29) = wz at *
          clear hwx hxb
          have hbz := HBZ.out
          have x0 := HJX.out.cell 0
          have x1 := HJX.out.cell 1
          have x2 := HJX.out.cell 2
          have x3 := HJX.out.cell 3
          have m0 := HJA.out.cell 0
          have m1 := HJA.out.cell 1
          have m2 := HJA.out.cell 2
          simp only [List.getElem?_toArray, List.getElem?_cons_succ, List.getElem?_cons_zero] at x0 x1 x2 x3 m0 m1 m2
          have lx := HJX.out.lt
          have lm := HJA.out.lt
          have v0 := fun u : Up wz => (u.cell (p := ⟨xb, 0, none⟩) lx).trans x0
          have v1 := fun u : Up wz => (u.cell (p := ⟨xb, 1, none⟩) lx).trans x1
          have v2 := fun u : Up wz => (u.cell (p := ⟨xb, 2, none⟩) lx).trans x2
          have v3 := fun u : Up wz => (u.cell (p := ⟨xb, 3, none⟩) lx).trans x3
          have v4 := fun u : Up wz => (u.cell (p := ⟨w3.heap.size, 0, none⟩) lm).trans m0
          have v5 := fun u : Up wz => (u.cell (p := ⟨w3.heap.size, 1, none⟩) lm).trans m1
          have v6 := fun u : Up wz => (u.cell (p := ⟨w3.heap.size, 2, none⟩) lm).trans m2
          have HU1 := Lib.hid (fun u : Up wz => up_of (HCH.out u.val (btrans hbz u.ok)))
          have HU2 := Lib.hid (fun u : Up wz => up_of (HGR.out u.val))
          have HU3 := Lib.hid (fun u : Up wz => up_drew (HTO.out u.val))
          clear hbz x0 x1 x2 x3 m0 m1 m2 HCH HGR HTO
          refine wp_region_up (by kernel_rfl) (by kernel_rfl) ?_
          repeat (go_big_quiet_step (fail))
          go_big_quiet_step (exact HU1.out _)
          repeat (go_big_quiet_step (fail))
          go_big_quiet_step (exact HU2.out _)
          repeat (go_big_quiet_step (fail))
          go_big_quiet_step (exact HU3.out _)
          repeat (go_big_quiet_step (fail))
          refine wpQuiet_nil ?_
          rintro _ ⟨uq, rfl⟩
          have hbn := btrans HBZ.out uq.ok
          have HBN := Lib.hid hbn
          clear hbn v0 v1 v2 v3 v4 v5 v6 HU1 HU2 HU3 HBZ HJX HJA lx lm
          generalize hwx : uq.val = wq at *
          clear hwx uq
          have tt : (t == t) = true := by simp
          go_wp2_with fail
          go_roundw
          case rel => exact ⟨i + 1, by omega, by go_num, HBN.out⟩
          case measure => simp [intOf]; omega
        · obtain rfl : i = W := by omega
          have d2 : decide ((i : Int) < (i : Int)) = false := by simp
          have HBI2 := Lib.hid hbi
          clear hbi HBO
          go_wp2_with fail
          go_roundw
          case rel => exact ⟨j + 1, by omega, by go_num, HBI2.out⟩
          case measure => simp [intOf]; omega
    · obtain rfl : j = H := by omega
      have d1 : decide ((j : Int) < (j : Int)) = false := by simp
      have hbw := btrans HBW.out hbo
      have Kp := HKp.out.below hbo HKp.out.lt
      have Ka := HKa.out.below hbo HKa.out.lt
      replace HhP := Lib.hid (HhP.out.below hbo)
      replace Hqa := Lib.hid (Hqa.out.below hbo)
      replace HI1 := Lib.hid (HI1.out.below hbo)
      clear hbo HBW HKp HKa
      have lKp := Kp.lt
      have cKp0 := Kp.cell 0
      have cKp1 := Kp.cell 1
      have cKp2 := Kp.cell 2
      have lKa := Ka.lt
      have cKa0 := Ka.cell 0
      have cKa1 := Ka.cell 1
      have cKa2 := Ka.cell 2
      simp only [List.getElem?_toArray, List.getElem?_cons_succ, List.getElem?_cons_zero] at cKp0 cKp1 cKp2 cKa0 cKa1 cKa2
      go_wp2_with fail
      have hst0 : Below wr.heap.size wr wr := by (repeat' (first | exact Below.refl _ _ | exact Below.refl _ _ | refine balloc ?_ _ | refine Below.drew ?_ | refine below_drewN ?_ _ | refine bset ?_ (by first | omega | (simp <;> omega)) _))
      refine (HOF.out _ _ _ _ (Hqa.out.below hst0) (HB2.out B)).mono ?_
      rintro e_ w5 ⟨gr, hgr, rfl, qr, hb⟩
      clear hgr
      have hst : Below wr.heap.size wr w5 := btrans hst0 hb
      replace Kp := Kp.below hb Kp.lt
      replace Ka := Ka.below hb Ka.lt
      replace hbw : Below w.heap.size w w5 := btrans hbw hst
      replace HI1 := Lib.hid (HI1.out.below hst)
      replace HhP := Lib.hid (HhP.out.below hst)
      replace Hqa := Lib.hid (Hqa.out.below hst)
      clear hst hst0 hb lKp cKp0 cKp1 cKp2 lKa cKa0 cKa1 cKa2
      have Hqr := Lib.hid qr
      clear qr
      have lKp := Kp.lt
      have cKp0 := Kp.cell 0
      have cKp1 := Kp.cell 1
      have cKp2 := Kp.cell 2
      have lKa := Ka.lt
      have cKa0 := Ka.cell 0
      have cKa1 := Ka.cell 1
      have cKa2 := Ka.cell 2
      simp only [List.getElem?_toArray, List.getElem?_cons_succ, List.getElem?_cons_zero] at cKp0 cKp1 cKp2 cKa0 cKa1 cKa2
      go_wp2_with fail
      have hst0 : Below w5.heap.size w5 (w5.alloc (.cells #[.int .i64 (W : Int), .int .i64 (j : Int), .slice (some ⟨gr, 0, none⟩) j j] 50)) := by (repeat' (first | exact Below.refl _ _ | exact Below.refl _ _ | refine balloc ?_ _ | refine Below.drew ?_ | refine below_drewN ?_ _ | refine bset ?_ (by first | omega | (simp <;> omega)) _))
      refine (HNW.out _).mono ?_
      rintro e_ w6 ⟨b1, o1, c1, rfl, hW2, hb⟩
      have hst : Below w5.heap.size w5 w6 := btrans hst0 hb
      replace Kp := (Kp.alloc (.cells #[.int .i64 (W : Int), .int .i64 (j : Int), .slice (some ⟨gr, 0, none⟩) j j] 50))
      replace Ka := (Ka.alloc (.cells #[.int .i64 (W : Int), .int .i64 (j : Int), .slice (some ⟨gr, 0, none⟩) j j] 50))
      have Kr := (Blk.new w5 50 #[.int .i64 (W : Int), .int .i64 (j : Int), .slice (some ⟨gr, 0, none⟩) j j])
      replace Kp := Kp.below hb Kp.lt
      replace Ka := Ka.below hb Ka.lt
      replace Kr := Kr.below hb Kr.lt
      replace hbw : Below w.heap.size w w6 := btrans hbw hst
      replace HI1 := Lib.hid (HI1.out.below hst)
      replace HhP := Lib.hid (HhP.out.below hst)
      replace Hqa := Lib.hid (Hqa.out.below hst)
      replace Hqr := Lib.hid (Hqr.out.below hst)
      clear hst hst0 hb lKp cKp0 cKp1 cKp2 lKa cKa0 cKa1 cKa2
      have HhW2 := Lib.hid hW2
      clear hW2
      have lKp := Kp.lt
      have cKp0 := Kp.cell 0
      have cKp1 := Kp.cell 1
      have cKp2 := Kp.cell 2
      have lKa := Ka.lt
      have cKa0 := Ka.cell 0
      have cKa1 := Ka.cell 1
      have cKa2 := Ka.cell 2
      have lKr := Kr.lt
      have cKr0 := Kr.cell 0
      have cKr1 := Kr.cell 1
      have cKr2 := Kr.cell 2
      simp only [List.getElem?_toArray, List.getElem?_cons_succ, List.getElem?_cons_zero] at cKp0 cKp1 cKp2 cKa0 cKa1 cKa2 cKr0 cKr1 cKr2
      go_wp2_with fail
      have hst0 : Below w6.heap.size w6 (w6.alloc (.cells #[.int .i64 (W : Int), .int .i64 (j : Int), .slice (some ⟨b1, o1, none⟩) N c1] 34)) := by (repeat' (first | exact Below.refl _ _ | exact Below.refl _ _ | refine balloc ?_ _ | refine Below.drew ?_ | refine below_drewN ?_ _ | refine bset ?_ (by first | omega | (simp <;> omega)) _))
      refine (HPU.out _ _ _ _ _ _ _ (HhW2.out.below hst0) (Hqr.out.below hst0)).mono ?_
      rintro e_ w7 ⟨gd, fd, hgd, rfl, qd, hb⟩
      clear hgd
      have hst : Below w6.heap.size w6 w7 := btrans hst0 hb
      replace Kp := (Kp.alloc (.cells #[.int .i64 (W : Int), .int .i64 (j : Int), .slice (some ⟨b1, o1, none⟩) N c1] 34))
      replace Ka := (Ka.alloc (.cells #[.int .i64 (W : Int), .int .i64 (j : Int), .slice (some ⟨b1, o1, none⟩) N c1] 34))
      replace Kr := (Kr.alloc (.cells #[.int .i64 (W : Int), .int .i64 (j : Int), .slice (some ⟨b1, o1, none⟩) N c1] 34))
      have Kw := (Blk.new w6 34 #[.int .i64 (W : Int), .int .i64 (j : Int), .slice (some ⟨b1, o1, none⟩) N c1])
      replace Kp := Kp.below hb Kp.lt
      replace Ka := Ka.below hb Ka.lt
      replace Kr := Kr.below hb Kr.lt
      replace Kw := Kw.below hb Kw.lt
      replace hbw : Below w.heap.size w w7 := btrans hbw hst
      replace HI1 := Lib.hid (HI1.out.below hst)
      replace HhP := Lib.hid (HhP.out.below hst)
      replace Hqa := Lib.hid (Hqa.out.below hst)
      replace Hqr := Lib.hid (Hqr.out.below hst)
      replace HhW2 := Lib.hid (HhW2.out.below hst)
      clear hst hst0 hb lKp cKp0 cKp1 cKp2 lKa cKa0 cKa1 cKa2 lKr cKr0 cKr1 cKr2
      have Hqd := Lib.hid qd
      clear qd
      have lKp := Kp.lt
      have cKp0 := Kp.cell 0
      have cKp1 := Kp.cell 1
      have cKp2 := Kp.cell 2
      have lKa := Ka.lt
      have cKa0 := Ka.cell 0
      have cKa1 := Ka.cell 1
      have cKa2 := Ka.cell 2
      have lKr := Kr.lt
      have cKr0 := Kr.cell 0
      have cKr1 := Kr.cell 1
      have cKr2 := Kr.cell 2
      have lKw := Kw.lt
      have cKw0 := Kw.cell 0
      have cKw1 := Kw.cell 1
      have cKw2 := Kw.cell 2
      simp only [List.getElem?_toArray, List.getElem?_cons_succ, List.getElem?_cons_zero] at cKp0 cKp1 cKp2 cKa0 cKa1 cKa2 cKr0 cKr1 cKr2 cKw0 cKw1 cKw2
      go_wp2_with fail
      have hst0 : Below w7.heap.size w7 (w7.alloc (.cells #[.int .i64 (W : Int), .int .i64 (j : Int), .slice (some ⟨gd, 0, none⟩) N fd] 34)) := by (repeat' (first | exact Below.refl _ _ | exact Below.refl _ _ | refine balloc ?_ _ | refine Below.drew ?_ | refine below_drewN ?_ _ | refine bset ?_ (by first | omega | (simp <;> omega)) _))
      refine (HBI.out _ _ _ _ (Hqd.out.below hst0)).mono ?_
      rintro e_ w8 ⟨ge, rfl, qe, hb⟩
      have hst : Below w7.heap.size w7 w8 := btrans hst0 hb
      replace Kp := (Kp.alloc (.cells #[.int .i64 (W : Int), .int .i64 (j : Int), .slice (some ⟨gd, 0, none⟩) N fd] 34))
      replace Ka := (Ka.alloc (.cells #[.int .i64 (W : Int), .int .i64 (j : Int), .slice (some ⟨gd, 0, none⟩) N fd] 34))
      replace Kr := (Kr.alloc (.cells #[.int .i64 (W : Int), .int .i64 (j : Int), .slice (some ⟨gd, 0, none⟩) N fd] 34))
      replace Kw := (Kw.alloc (.cells #[.int .i64 (W : Int), .int .i64 (j : Int), .slice (some ⟨gd, 0, none⟩) N fd] 34))
      have Kd := (Blk.new w7 34 #[.int .i64 (W : Int), .int .i64 (j : Int), .slice (some ⟨gd, 0, none⟩) N fd])
      replace Kp := Kp.below hb Kp.lt
      replace Ka := Ka.below hb Ka.lt
      replace Kr := Kr.below hb Kr.lt
      replace Kw := Kw.below hb Kw.lt
      replace Kd := Kd.below hb Kd.lt
      replace hbw : Below w.heap.size w w8 := btrans hbw hst
      replace HI1 := Lib.hid (HI1.out.below hst)
      replace HhP := Lib.hid (HhP.out.below hst)
      replace Hqa := Lib.hid (Hqa.out.below hst)
      replace Hqr := Lib.hid (Hqr.out.below hst)
      replace HhW2 := Lib.hid (HhW2.out.below hst)
      replace Hqd := Lib.hid (Hqd.out.below hst)
      clear hst hst0 hb lKp cKp0 cKp1 cKp2 lKa cKa0 cKa1 cKa2 lKr cKr0 cKr1 cKr2 lKw cKw0 cKw1 cKw2
      have Hqe := Lib.hid qe
      clear qe
      have lKp := Kp.lt
      have cKp0 := Kp.cell 0
      have cKp1 := Kp.cell 1
      have cKp2 := Kp.cell 2
      have lKa := Ka.lt
      have cKa0 := Ka.cell 0
      have cKa1 := Ka.cell 1
      have cKa2 := Ka.cell 2
      have lKr := Kr.lt
      have cKr0 := Kr.cell 0
      have cKr1 := Kr.cell 1
      have cKr2 := Kr.cell 2
      have lKw := Kw.lt
      have cKw0 := Kw.cell 0
      have cKw1 := Kw.cell 1
      have cKw2 := Kw.cell 2
      have lKd := Kd.lt
      have cKd0 := Kd.cell 0
      have cKd1 := Kd.cell 1
      have cKd2 := Kd.cell 2
      simp only [List.getElem?_toArray, List.getElem?_cons_succ, List.getElem?_cons_zero] at cKp0 cKp1 cKp2 cKa0 cKa1 cKa2 cKr0 cKr1 cKr2 cKw0 cKw1 cKw2 cKd0 cKd1 cKd2
      go_wp2_with fail
      have hst0 : Below w8.heap.size w8 (w8.alloc (.cells #[.int .i64 (W : Int), .int .i64 (j : Int), .slice (some ⟨ge, 0, none⟩) q q] 36)) := by (repeat' (first | exact Below.refl _ _ | exact Below.refl _ _ | refine balloc ?_ _ | refine Below.drew ?_ | refine below_drewN ?_ _ | refine bset ?_ (by first | omega | (simp <;> omega)) _))
      refine (csame_yes _ _ _ _ _ _ _ _ _ _ (Hqe.out.below hst0) (Hqa.out.below hst0) (fun k hk => HFI.out B k hk)).mono ?_
      rintro e_ w9 ⟨rfl, hb⟩
      have hst : Below w8.heap.size w8 w9 := btrans hst0 hb
      replace Kp := (Kp.alloc (.cells #[.int .i64 (W : Int), .int .i64 (j : Int), .slice (some ⟨ge, 0, none⟩) q q] 36))
      replace Ka := (Ka.alloc (.cells #[.int .i64 (W : Int), .int .i64 (j : Int), .slice (some ⟨ge, 0, none⟩) q q] 36))
      replace Kr := (Kr.alloc (.cells #[.int .i64 (W : Int), .int .i64 (j : Int), .slice (some ⟨ge, 0, none⟩) q q] 36))
      replace Kw := (Kw.alloc (.cells #[.int .i64 (W : Int), .int .i64 (j : Int), .slice (some ⟨ge, 0, none⟩) q q] 36))
      replace Kd := (Kd.alloc (.cells #[.int .i64 (W : Int), .int .i64 (j : Int), .slice (some ⟨ge, 0, none⟩) q q] 36))
      have Ke := (Blk.new w8 36 #[.int .i64 (W : Int), .int .i64 (j : Int), .slice (some ⟨ge, 0, none⟩) q q])
      replace Kp := Kp.below hb Kp.lt
      replace Ka := Ka.below hb Ka.lt
      replace Kr := Kr.below hb Kr.lt
      replace Kw := Kw.below hb Kw.lt
      replace Kd := Kd.below hb Kd.lt
      replace Ke := Ke.below hb Ke.lt
      replace hbw : Below w.heap.size w w9 := btrans hbw hst
      replace HI1 := Lib.hid (HI1.out.below hst)
      replace HhP := Lib.hid (HhP.out.below hst)
      replace Hqa := Lib.hid (Hqa.out.below hst)
      replace Hqr := Lib.hid (Hqr.out.below hst)
      replace HhW2 := Lib.hid (HhW2.out.below hst)
      replace Hqd := Lib.hid (Hqd.out.below hst)
      replace Hqe := Lib.hid (Hqe.out.below hst)
      clear hst hst0 hb lKp cKp0 cKp1 cKp2 lKa cKa0 cKa1 cKa2 lKr cKr0 cKr1 cKr2 lKw cKw0 cKw1 cKw2 lKd cKd0 cKd1 cKd2
      have lKp := Kp.lt
      have cKp0 := Kp.cell 0
      have cKp1 := Kp.cell 1
      have cKp2 := Kp.cell 2
      have lKa := Ka.lt
      have cKa0 := Ka.cell 0
      have cKa1 := Ka.cell 1
      have cKa2 := Ka.cell 2
      have lKr := Kr.lt
      have cKr0 := Kr.cell 0
      have cKr1 := Kr.cell 1
      have cKr2 := Kr.cell 2
      have lKw := Kw.lt
      have cKw0 := Kw.cell 0
      have cKw1 := Kw.cell 1
      have cKw2 := Kw.cell 2
      have lKd := Kd.lt
      have cKd0 := Kd.cell 0
      have cKd1 := Kd.cell 1
      have cKd2 := Kd.cell 2
      have lKe := Ke.lt
      have cKe0 := Ke.cell 0
      have cKe1 := Ke.cell 1
      have cKe2 := Ke.cell 2
      simp only [List.getElem?_toArray, List.getElem?_cons_succ, List.getElem?_cons_zero] at cKp0 cKp1 cKp2 cKa0 cKa1 cKa2 cKr0 cKr1 cKr2 cKw0 cKw1 cKw2 cKd0 cKd1 cKd2 cKe0 cKe1 cKe2
      go_wp2_with fail
      go_ret
      exact ⟨rfl, hbw⟩
end Go.Proofs.Ytodeebaogpepkaa.rg
