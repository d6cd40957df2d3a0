/-
  InkCovers: opaque ink hides what is below it; put twice it has no further effect; ink with A 0 changes nothing.
-/
import Derived.Test.YtmjpmeigfdgioaaLawSides
import Derived.Test.YtmjpmeigfdgioaaUnlike
import Derived.Test.YtmjpmeigfdgioaaRSame
namespace Go.Proofs.Ytmjpmeigfdgioaa.rg
set_option linter.unusedVariables false
set_option linter.unusedSimpArgs false
open Go.RowKit bs sp ik op

theorem putB_full (W : Nat) (R : Nat → Nat → Bool) (x y z : Int) (B : Nat → Int) (hx : 0 ≤ x ∧ x ≤ 255) (hy : 0 ≤ y ∧ y ≤ 255) (hz : 0 ≤ z ∧ z ≤ 255) (j : Nat) (hB : 0 ≤ B j ∧ B j ≤ 255) :
    putB W R x y z 255 B j = if R (j / 3 / W) (j / 3 % W) = true then chan x y z (j % 3) else B j := by
  unfold putB
  split
  · exact blend_all _ _ hB (chan_bd hx hy hz _)
  · rfl
theorem putB_bd (W : Nat) (R : Nat → Nat → Bool) (x y z a : Int) (B : Nat → Int) (hx : 0 ≤ x ∧ x ≤ 255) (hy : 0 ≤ y ∧ y ≤ 255) (hz : 0 ≤ z ∧ z ≤ 255) (ha : 0 ≤ a ∧ a ≤ 255) (j : Nat) (hB : 0 ≤ B j ∧ B j ≤ 255) : 0 ≤ putB W R x y z a B j ∧ putB W R x y z a B j ≤ 255 := by
  unfold putB
  split
  · exact blend_bd _ _ _ hB (chan_bd hx hy hz _) ha
  · exact hB
theorem full_over (W : Nat) (R : Nat → Nat → Bool) (x y z a : Int) (B : Nat → Int) (hx : 0 ≤ x ∧ x ≤ 255) (hy : 0 ≤ y ∧ y ≤ 255) (hz : 0 ≤ z ∧ z ≤ 255) (ha : 0 ≤ a ∧ a ≤ 255) (j : Nat) (hB : 0 ≤ B j ∧ B j ≤ 255) :
    putB W R x y z 255 (putB W R x y z a B) j = putB W R x y z 255 B j := by
  rw [putB_full W R x y z _ hx hy hz j (putB_bd W R x y z a B hx hy hz ha j hB), putB_full W R x y z B hx hy hz j hB]
  unfold putB
  split <;> simp [*]
theorem none_put (W : Nat) (R : Nat → Nat → Bool) (x y z : Int) (B : Nat → Int) (hx : 0 ≤ x ∧ x ≤ 255) (hy : 0 ≤ y ∧ y ≤ 255) (hz : 0 ≤ z ∧ z ≤ 255) (j : Nat) (hB : 0 ≤ B j ∧ B j ≤ 255) : putB W R x y z 0 B j = B j := by
  unfold putB
  split
  · exact blend_none _ _ hB (chan_bd hx hy hz _)
  · rfl
theorem byte_pix {W j i t : Nat} (hi : i < W) (ht : t < 3) : (3 * (j * W + i) + t) / 3 / W = j ∧ (3 * (j * W + i) + t) / 3 % W = i := by
  rw [show (3 * (j * W + i) + t) / 3 = j * W + i by omega]
  exact pix_of hi
theorem dif_full (W H : Nat) (R : Nat → Nat → Bool) (x y z : Int) (B C : Nat → Int) (hx : 0 ≤ x ∧ x ≤ 255) (hy : 0 ≤ y ∧ y ≤ 255) (hz : 0 ≤ z ∧ z ≤ 255) (hB : ∀ t, t < 3 * (W * H) → 0 ≤ B t ∧ B t ≤ 255) (hC : ∀ t, t < 3 * (W * H) → 0 ≤ C t ∧ C t ≤ 255)
    (j i : Nat) (hj : j < H) (hi : i < W) : dif (putB W R x y z 255 B) (putB W R x y z 255 C) (j * W + i) = (dif B C (j * W + i) && !R j i) := by
  have h3 := pix_in hj hi
  have e : ∀ (D : Nat → Int), (∀ t, t < 3 * (W * H) → 0 ≤ D t ∧ D t ≤ 255) → ∀ t, t < 3 → putB W R x y z 255 D (3 * (j * W + i) + t) = if R j i = true then chan x y z ((3 * (j * W + i) + t) % 3) else D (3 * (j * W + i) + t) := fun D hD t ht => by
    rw [putB_full W R x y z D hx hy hz _ (hD _ (by omega)), (byte_pix hi ht).1, (byte_pix hi ht).2]
  unfold dif
  have e0 : ∀ D, (∀ t, t < 3 * (W * H) → 0 ≤ D t ∧ D t ≤ 255) → putB W R x y z 255 D (3 * (j * W + i)) = if R j i = true then chan x y z ((3 * (j * W + i)) % 3) else D (3 * (j * W + i)) := fun D hD => e D hD 0 (by omega)
  rw [e0 B hB, e0 C hC, e B hB 1 (by omega), e C hC 1 (by omega), e B hB 2 (by omega), e C hC 2 (by omega)]
  cases R j i <;> simp
set_option maxRecDepth 100000 in
set_option maxHeartbeats 12800000 in
theorem covers_law (A1 : Option Addr) (n1 c1 : Nat) (ns1 : Nat → Int) (A2 : Option Addr) (n2 c2 : Nat) (ns2 : Nat → Int) (A3 : Option Addr) (n3 c3 : Nat) (ns3 : Nat → Int) (x y k0 k1 k2 k3 : Int) (w : World) (hr1 : Ints w A1 n1 c1 ns1) (hn1 : n1 ≤ 9223372036854775807) (hr2 : Ints w A2 n2 c2 ns2) (hn2 : n2 ≤ 9223372036854775807) (hr3 : Ints w A3 n3 c3 ns3) (hn3 : n3 ≤ 9223372036854775807) (_hx : -9223372036854775808 ≤ x ∧ x ≤ 9223372036854775807) (_hy : -9223372036854775808 ≤ y ∧ y ≤ 9223372036854775807) (hk0 : 0 ≤ k0 ∧ k0 ≤ 255) (hk1 : 0 ≤ k1 ∧ k1 ≤ 255) (hk2 : 0 ≤ k2 ∧ k2 ≤ 255) (hk3 : 0 ≤ k3 ∧ k3 ≤ 255) :
    Calls Try.prog 5 #[.slice A1 n1 c1, .slice A2 n2 c2, .slice A3 n3 c3, .int .i64 x, .int .i64 y, .agg #[.int .u8 k0, .int .u8 k1, .int .u8 k2, .int .u8 k3]] w fun ed w' => ed = .returned (.bool true) ∧ Below w.heap.size w w' := by
  obtain ⟨W, hW, hSW⟩ := lside_fix x
  obtain ⟨H, hH, hSH⟩ := lside_fix y
  have HSW := Lib.hid hSW
  have HSH := Lib.hid hSH
  obtain ⟨N, hN⟩ : ∃ N, N = 3 * (W * H) := ⟨_, rfl⟩
  have HPG := Lib.hid (fun W' h => lpage_any A1 n1 c1 ns1 W H N W' h hn1 hW hH hN)
  have HPS := Lib.hid (fun W' h => lpage_any A2 n2 c2 ns2 W H N W' h hn2 hW hH hN)
  have HM3 := Lib.hid (fun W' h => lmade_any A3 n3 c3 ns3 W H W' h hn3 hW hH)
  have HPU := Lib.hid (fun x y z a hx hy hz ha c d A D R B W' hp hr => put_any W H N c d A D R x y z a B W' hW hH hN hx hy hz ha hp hr)
  have HUN := Lib.hid (fun c d A D B C W' hp hq => unlike_any W H N c d A D B C W' hW hH hN hp hq)
  have HLE := Lib.hid (fun c d A B R S W' ha hb => rless_any W H c d A B R S W' hW hH ha hb)
  have HRS := Lib.hid (fun c d A D R S W' ha hb h => rsame_yes W H c d A D R S W' hW hH ha hb h)
  have HKB := Lib.hid (And.intro hk0 (And.intro hk1 (And.intro hk2 hk3)))
  have HF1 := Lib.hid (fun R B j hB => full_over W R k0 k1 k2 255 B hk0 hk1 hk2 ⟨by omega, by omega⟩ j hB)
  have HF2 := Lib.hid (fun R B j hB => full_over W R k0 k1 k2 k3 B hk0 hk1 hk2 hk3 j hB)
  have HF3 := Lib.hid (fun R B j hB => none_put W R k0 k1 k2 B hk0 hk1 hk2 j hB)
  have HF4 := Lib.hid (fun R B C hB hC j hj i hi => dif_full W H R k0 k1 k2 B C hk0 hk1 hk2 hB hC j i hj hi)
  have H255 : Hid ((0 : Int) ≤ 255 ∧ (255 : Int) ≤ 255) := Lib.hid ⟨by omega, by omega⟩
  have H000 : Hid ((0 : Int) ≤ 0 ∧ (0 : Int) ≤ 255) := Lib.hid ⟨by omega, by omega⟩
  have HNN := Lib.hid hN
  have HI1 := Lib.hid hr1
  have HI2 := Lib.hid hr2
  have HI3 := Lib.hid hr3
  clear hSW hSH hW hH hN hr1 hr2 hr3 hn1 hn2 hn3 _hx _hy hk0 hk1 hk2 hk3
  go_enter Try.func5, Try.ntmps5
  go_wp2_with fail
  have hst0 : Below w.heap.size w (w.alloc (.cells #[.int .u8 k0, .int .u8 k1, .int .u8 k2, .int .u8 k3] 27)) := by (repeat' (first | exact Below.refl _ _ | exact Below.refl _ _ | refine balloc ?_ _ | refine Below.drew ?_ | refine below_drewN ?_ _ | refine bset ?_ (by first | omega | (simp <;> omega)) _))
  refine (known_any _).mono ?_
  rintro e_ w1 ⟨rfl, hb⟩
  have hst : Below w.heap.size w w1 := btrans hst0 hb
  have Kk := (Blk.new w 27 #[.int .u8 k0, .int .u8 k1, .int .u8 k2, .int .u8 k3])
  replace Kk := Kk.below hb Kk.lt
  have hbw : Below w.heap.size w w1 := hst
  replace HI1 := Lib.hid (HI1.out.below hst)
  replace HI2 := Lib.hid (HI2.out.below hst)
  replace HI3 := Lib.hid (HI3.out.below hst)
  clear hst hst0 hb 
  have lKk := Kk.lt
  have cKk0 := Kk.cell 0
  have cKk1 := Kk.cell 1
  have cKk2 := Kk.cell 2
  have cKk3 := Kk.cell 3
  simp only [List.getElem?_toArray, List.getElem?_cons_succ, List.getElem?_cons_zero] at cKk0 cKk1 cKk2 cKk3
  go_wp2_with (go_at_call 11; first | (refine (HSW.out _).mono ?_; rintro e_ w_ ⟨rfl, rfl⟩) | (refine (HSH.out _).mono ?_; rintro e_ w_ ⟨rfl, rfl⟩))
  have hst0 : Below w1.heap.size w1 w1 := by (repeat' (first | exact Below.refl _ _ | exact Below.refl _ _ | refine balloc ?_ _ | refine Below.drew ?_ | refine below_drewN ?_ _ | refine bset ?_ (by first | omega | (simp <;> omega)) _))
  refine (HPG.out _ (HI1.out.below hst0)).mono ?_
  rintro e_ w2 ⟨gp, B, rfl, hP, hb⟩
  have hst : Below w1.heap.size w1 w2 := btrans hst0 hb
  replace Kk := Kk.below hb Kk.lt
  replace hbw : Below w.heap.size w w2 := btrans hbw hst
  replace HI1 := Lib.hid (HI1.out.below hst)
  replace HI2 := Lib.hid (HI2.out.below hst)
  replace HI3 := Lib.hid (HI3.out.below hst)
  clear hst hst0 hb lKk cKk0 cKk1 cKk2 cKk3
  have HhP := Lib.hid hP
  clear hP
  have lKk := Kk.lt
  have cKk0 := Kk.cell 0
  have cKk1 := Kk.cell 1
  have cKk2 := Kk.cell 2
  have cKk3 := Kk.cell 3
  simp only [List.getElem?_toArray, List.getElem?_cons_succ, List.getElem?_cons_zero] at cKk0 cKk1 cKk2 cKk3
  go_wp2_with (go_at_call 11; first | (refine (HSW.out _).mono ?_; rintro e_ w_ ⟨rfl, rfl⟩) | (refine (HSH.out _).mono ?_; rintro e_ w_ ⟨rfl, rfl⟩))
  have hst0 : Below w2.heap.size w2 w2 := by (repeat' (first | exact Below.refl _ _ | exact Below.refl _ _ | refine balloc ?_ _ | refine Below.drew ?_ | refine below_drewN ?_ _ | refine bset ?_ (by first | omega | (simp <;> omega)) _))
  refine (HPS.out _ (HI2.out.below hst0)).mono ?_
  rintro e_ w3 ⟨gs, C, rfl, hS, hb⟩
  have hst : Below w2.heap.size w2 w3 := btrans hst0 hb
  replace Kk := Kk.below hb Kk.lt
  replace hbw : Below w.heap.size w w3 := btrans hbw hst
  replace HI1 := Lib.hid (HI1.out.below hst)
  replace HI2 := Lib.hid (HI2.out.below hst)
  replace HI3 := Lib.hid (HI3.out.below hst)
  replace HhP := Lib.hid (HhP.out.below hst)
  clear hst hst0 hb lKk cKk0 cKk1 cKk2 cKk3
  have HhS := Lib.hid hS
  clear hS
  have lKk := Kk.lt
  have cKk0 := Kk.cell 0
  have cKk1 := Kk.cell 1
  have cKk2 := Kk.cell 2
  have cKk3 := Kk.cell 3
  simp only [List.getElem?_toArray, List.getElem?_cons_succ, List.getElem?_cons_zero] at cKk0 cKk1 cKk2 cKk3
  go_wp2_with (go_at_call 11; first | (refine (HSW.out _).mono ?_; rintro e_ w_ ⟨rfl, rfl⟩) | (refine (HSH.out _).mono ?_; rintro e_ w_ ⟨rfl, rfl⟩))
  have hst0 : Below w3.heap.size w3 w3 := by (repeat' (first | exact Below.refl _ _ | exact Below.refl _ _ | refine balloc ?_ _ | refine Below.drew ?_ | refine below_drewN ?_ _ | refine bset ?_ (by first | omega | (simp <;> omega)) _))
  refine (HM3.out _ (HI3.out.below hst0)).mono ?_
  rintro e_ w4 ⟨D1, d1, R, rfl, hR, hb⟩
  have hst : Below w3.heap.size w3 w4 := btrans hst0 hb
  replace Kk := Kk.below hb Kk.lt
  replace hbw : Below w.heap.size w w4 := btrans hbw hst
  replace HI1 := Lib.hid (HI1.out.below hst)
  replace HI2 := Lib.hid (HI2.out.below hst)
  replace HI3 := Lib.hid (HI3.out.below hst)
  replace HhP := Lib.hid (HhP.out.below hst)
  replace HhS := Lib.hid (HhS.out.below hst)
  clear hst hst0 hb lKk cKk0 cKk1 cKk2 cKk3
  have HhR := Lib.hid hR
  clear hR
  have lKk := Kk.lt
  have cKk0 := Kk.cell 0
  have cKk1 := Kk.cell 1
  have cKk2 := Kk.cell 2
  have cKk3 := Kk.cell 3
  simp only [List.getElem?_toArray, List.getElem?_cons_succ, List.getElem?_cons_zero] at cKk0 cKk1 cKk2 cKk3
  go_wp2_with fail
  have hst : Below w4.heap.size w4 (((w4.alloc (.cells #[.int .i64 (W : Int), .int .i64 (H : Int), .slice (some ⟨gp, 0, none⟩) N N] 30)).alloc (.cells #[.int .i64 (W : Int), .int .i64 (H : Int), .slice (some ⟨gs, 0, none⟩) N N] 30)).alloc (.cells #[.int .i64 (W : Int), .int .i64 (H : Int), .slice D1 H d1] 35)) := by (repeat' (first | exact Below.refl _ _ | exact Below.refl _ _ | refine balloc ?_ _ | refine Below.drew ?_ | refine below_drewN ?_ _ | refine bset ?_ (by first | omega | (simp <;> omega)) _))
  replace HI1 := Lib.hid (HI1.out.below hst)
  replace HI2 := Lib.hid (HI2.out.below hst)
  replace HI3 := Lib.hid (HI3.out.below hst)
  replace HhP := Lib.hid (HhP.out.below hst)
  replace HhS := Lib.hid (HhS.out.below hst)
  replace HhR := Lib.hid (HhR.out.below hst)
  clear hst
  replace Kk := (((Kk.alloc (.cells #[.int .i64 (W : Int), .int .i64 (H : Int), .slice (some ⟨gp, 0, none⟩) N N] 30)).alloc (.cells #[.int .i64 (W : Int), .int .i64 (H : Int), .slice (some ⟨gs, 0, none⟩) N N] 30)).alloc (.cells #[.int .i64 (W : Int), .int .i64 (H : Int), .slice D1 H d1] 35))
  have Kp := (((Blk.new w4 30 #[.int .i64 (W : Int), .int .i64 (H : Int), .slice (some ⟨gp, 0, none⟩) N N]).alloc (.cells #[.int .i64 (W : Int), .int .i64 (H : Int), .slice (some ⟨gs, 0, none⟩) N N] 30)).alloc (.cells #[.int .i64 (W : Int), .int .i64 (H : Int), .slice D1 H d1] 35))
  have Ks := ((Blk.new (w4.alloc (.cells #[.int .i64 (W : Int), .int .i64 (H : Int), .slice (some ⟨gp, 0, none⟩) N N] 30)) 30 #[.int .i64 (W : Int), .int .i64 (H : Int), .slice (some ⟨gs, 0, none⟩) N N]).alloc (.cells #[.int .i64 (W : Int), .int .i64 (H : Int), .slice D1 H d1] 35))
  have hz_Ks : (w4.alloc (.cells #[.int .i64 (W : Int), .int .i64 (H : Int), .slice (some ⟨gp, 0, none⟩) N N] 30)).heap.size = w4.heap.size + 1 := by simp
  rw [hz_Ks] at Ks
  clear hz_Ks
  have Kr := (Blk.new ((w4.alloc (.cells #[.int .i64 (W : Int), .int .i64 (H : Int), .slice (some ⟨gp, 0, none⟩) N N] 30)).alloc (.cells #[.int .i64 (W : Int), .int .i64 (H : Int), .slice (some ⟨gs, 0, none⟩) N N] 30)) 35 #[.int .i64 (W : Int), .int .i64 (H : Int), .slice D1 H d1])
  have hz_Kr : ((w4.alloc (.cells #[.int .i64 (W : Int), .int .i64 (H : Int), .slice (some ⟨gp, 0, none⟩) N N] 30)).alloc (.cells #[.int .i64 (W : Int), .int .i64 (H : Int), .slice (some ⟨gs, 0, none⟩) N N] 30)).heap.size = w4.heap.size + 1 + 1 := by simp
  rw [hz_Kr] at Kr
  clear hz_Kr
  replace hbw : Below w.heap.size w (((w4.alloc (.cells #[.int .i64 (W : Int), .int .i64 (H : Int), .slice (some ⟨gp, 0, none⟩) N N] 30)).alloc (.cells #[.int .i64 (W : Int), .int .i64 (H : Int), .slice (some ⟨gs, 0, none⟩) N N] 30)).alloc (.cells #[.int .i64 (W : Int), .int .i64 (H : Int), .slice D1 H d1] 35)) := by (repeat' (first | refine bset ?_ (by first | omega | (simp <;> omega)) _ | refine balloc ?_ _ | refine Below.drew ?_ | refine below_drewN ?_ _ | exact hbw | exact Below.refl _ _))
  clear lKk cKk0 cKk1 cKk2 cKk3
  generalize hwx : (((w4.alloc (.cells #[.int .i64 (W : Int), .int .i64 (H : Int), .slice (some ⟨gp, 0, none⟩) N N] 30)).alloc (.cells #[.int .i64 (W : Int), .int .i64 (H : Int), .slice (some ⟨gs, 0, none⟩) N N] 30)).alloc (.cells #[.int .i64 (W : Int), .int .i64 (H : Int), .slice D1 H d1] 35)) = w5 at *
  clear hwx
  have lKk := Kk.lt
  have cKk0 := Kk.cell 0
  have cKk1 := Kk.cell 1
  have cKk2 := Kk.cell 2
  have cKk3 := Kk.cell 3
  have lKp := Kp.lt
  have cKp0 := Kp.cell 0
  have cKp1 := Kp.cell 1
  have cKp2 := Kp.cell 2
  have lKs := Ks.lt
  have cKs0 := Ks.cell 0
  have cKs1 := Ks.cell 1
  have cKs2 := Ks.cell 2
  have lKr := Kr.lt
  have cKr0 := Kr.cell 0
  have cKr1 := Kr.cell 1
  have cKr2 := Kr.cell 2
  simp only [List.getElem?_toArray, List.getElem?_cons_succ, List.getElem?_cons_zero] at cKk0 cKk1 cKk2 cKk3 cKp0 cKp1 cKp2 cKs0 cKs1 cKs2 cKr0 cKr1 cKr2
  go_cut [16, 17] from 56 to 57 (fun s16 s17 wx => ∃ f0 n0 : Nat, s16 = .pointer (some ⟨f0, 0, none⟩) ∧ s17 = .pointer (some ⟨n0, 0, none⟩) ∧ w5.heap.size ≤ f0 ∧ w5.heap.size ≤ n0 ∧ f0 ≠ n0 ∧ Blk wx f0 27 #[.int .u8 k0, .int .u8 k1, .int .u8 k2, .int .u8 k3] ∧ Blk wx n0 27 #[.int .u8 k0, .int .u8 k1, .int .u8 k2, .int .u8 k3] ∧ Below w5.heap.size w5 wx)
  case first =>
    have X1 := (Blk.new w5 27 #[.int .u8 k0, .int .u8 k1, .int .u8 k2, .int .u8 k3]).alloc (.cells #[.int .u8 k0, .int .u8 k1, .int .u8 k2, .int .u8 k3] 27)
    have X2 := Blk.new (w5.alloc (.cells #[.int .u8 k0, .int .u8 k1, .int .u8 k2, .int .u8 k3] 27)) 27 #[.int .u8 k0, .int .u8 k1, .int .u8 k2, .int .u8 k3]
    have s1 : (w5.alloc (.cells #[.int .u8 k0, .int .u8 k1, .int .u8 k2, .int .u8 k3] 27)).heap.size = w5.heap.size + 1 := by simp
    rw [s1] at X2
    have HX1 := Lib.hid X1
    have HX2 := Lib.hid X2
    have nk : ¬ w.heap.size = w5.heap.size := by omega
    clear X1 X2 s1
    go_region
    all_goals (go_wp2_with fail; go_meet)
    all_goals first
      | exact ⟨w5.heap.size, w5.heap.size + 1, rfl, rfl, by omega, by omega, by omega, HX1.out.drew, HX2.out.drew, by (repeat' (first | exact Below.refl _ _ | exact Below.refl _ _ | refine balloc ?_ _ | refine Below.drew ?_ | refine below_drewN ?_ _ | refine bset ?_ (by first | omega | (simp <;> omega)) _))⟩
      | exact ⟨w5.heap.size + 1, w5.heap.size, rfl, rfl, by omega, by omega, by omega, HX2.out.drew, HX1.out.drew, by (repeat' (first | exact Below.refl _ _ | exact Below.refl _ _ | refine balloc ?_ _ | refine Below.drew ?_ | refine below_drewN ?_ _ | refine bset ?_ (by first | omega | (simp <;> omega)) _))⟩
  case rest =>
    obtain ⟨f0, n0, rfl, rfl, hf0, hn0, hne, Kf, Kn, hst0⟩ := hcut
    replace Kk := (Kk.below hst0 lKk)
    replace Kp := (Kp.below hst0 lKp)
    replace Ks := (Ks.below hst0 lKs)
    replace Kr := (Kr.below hst0 lKr)
    have cf3 := Kf.cell 3
    have ff3 := Kf.frozen 3
    have cn3 := Kn.cell 3
    have fn3 := Kn.frozen 3
    simp only [List.getElem?_toArray, List.getElem?_cons_succ, List.getElem?_cons_zero] at cf3 cn3
    have hst : Below w5.heap.size w5 ((wc.setCell ⟨f0, 3, none⟩ (.int .u8 255)).setCell ⟨n0, 3, none⟩ (.int .u8 0)) := bset (bset hst0 hf0 _) hn0 _
    have JKk : Blk ((wc.setCell ⟨f0, 3, none⟩ (.int .u8 255)).setCell ⟨n0, 3, none⟩ (.int .u8 0)) w.heap.size 27 #[.int .u8 k0, .int .u8 k1, .int .u8 k2, .int .u8 k3] := (Kk.far (by show w.heap.size ≠ f0; omega) _).far (by show w.heap.size ≠ n0; omega) _
    have JKp : Blk ((wc.setCell ⟨f0, 3, none⟩ (.int .u8 255)).setCell ⟨n0, 3, none⟩ (.int .u8 0)) w4.heap.size 30 #[.int .i64 (W : Int), .int .i64 (H : Int), .slice (some ⟨gp, 0, none⟩) N N] := (Kp.far (by show w4.heap.size ≠ f0; omega) _).far (by show w4.heap.size ≠ n0; omega) _
    have JKs : Blk ((wc.setCell ⟨f0, 3, none⟩ (.int .u8 255)).setCell ⟨n0, 3, none⟩ (.int .u8 0)) (w4.heap.size + 1) 30 #[.int .i64 (W : Int), .int .i64 (H : Int), .slice (some ⟨gs, 0, none⟩) N N] := (Ks.far (by show (w4.heap.size + 1) ≠ f0; omega) _).far (by show (w4.heap.size + 1) ≠ n0; omega) _
    have JKr : Blk ((wc.setCell ⟨f0, 3, none⟩ (.int .u8 255)).setCell ⟨n0, 3, none⟩ (.int .u8 0)) (w4.heap.size + 1 + 1) 35 #[.int .i64 (W : Int), .int .i64 (H : Int), .slice D1 H d1] := (Kr.far (by show (w4.heap.size + 1 + 1) ≠ f0; omega) _).far (by show (w4.heap.size + 1 + 1) ≠ n0; omega) _
    have JKf : Blk ((wc.setCell ⟨f0, 3, none⟩ (.int .u8 255)).setCell ⟨n0, 3, none⟩ (.int .u8 0)) f0 27 #[.int .u8 k0, .int .u8 k1, .int .u8 k2, .int .u8 255] := (Kf.set_ 3 _).far hne _
    have JKn : Blk ((wc.setCell ⟨f0, 3, none⟩ (.int .u8 255)).setCell ⟨n0, 3, none⟩ (.int .u8 0)) n0 27 #[.int .u8 k0, .int .u8 k1, .int .u8 k2, .int .u8 0] := (Kn.far (p := ⟨f0, 3, none⟩) hne.symm (.int .u8 255)).set_ 3 _
    replace hbw : Below w.heap.size w ((wc.setCell ⟨f0, 3, none⟩ (.int .u8 255)).setCell ⟨n0, 3, none⟩ (.int .u8 0)) := btrans hbw hst
    replace HI1 := Lib.hid (HI1.out.below hst)
    replace HI2 := Lib.hid (HI2.out.below hst)
    replace HI3 := Lib.hid (HI3.out.below hst)
    replace HhP := Lib.hid (HhP.out.below hst)
    replace HhS := Lib.hid (HhS.out.below hst)
    replace HhR := Lib.hid (HhR.out.below hst)
    clear hst hst0 Kf Kn lKk cKk0 cKk1 cKk2 cKk3 lKp cKp0 cKp1 cKp2 lKs cKs0 cKs1 cKs2 lKr cKr0 cKr1 cKr2 Kk Kp Ks Kr
    go_upto_region 6 with fail
    clear cf3 ff3 cn3 fn3 hf0 hn0 hne
    generalize hwx : ((wc.setCell ⟨f0, 3, none⟩ (.int .u8 255)).setCell ⟨n0, 3, none⟩ (.int .u8 0)) = w6 at *
    clear hwx
    have lJKk := JKk.lt
    have cJKk0 := JKk.cell 0
    have cJKk1 := JKk.cell 1
    have cJKk2 := JKk.cell 2
    have cJKk3 := JKk.cell 3
    have lJKp := JKp.lt
    have cJKp0 := JKp.cell 0
    have cJKp1 := JKp.cell 1
    have cJKp2 := JKp.cell 2
    have lJKs := JKs.lt
    have cJKs0 := JKs.cell 0
    have cJKs1 := JKs.cell 1
    have cJKs2 := JKs.cell 2
    have lJKr := JKr.lt
    have cJKr0 := JKr.cell 0
    have cJKr1 := JKr.cell 1
    have cJKr2 := JKr.cell 2
    have lJKf := JKf.lt
    have cJKf0 := JKf.cell 0
    have cJKf1 := JKf.cell 1
    have cJKf2 := JKf.cell 2
    have cJKf3 := JKf.cell 3
    have lJKn := JKn.lt
    have cJKn0 := JKn.cell 0
    have cJKn1 := JKn.cell 1
    have cJKn2 := JKn.cell 2
    have cJKn3 := JKn.cell 3
    simp only [List.getElem?_toArray, List.getElem?_cons_succ, List.getElem?_cons_zero] at cJKk0 cJKk1 cJKk2 cJKk3 cJKp0 cJKp1 cJKp2 cJKs0 cJKs1 cJKs2 cJKr0 cJKr1 cJKr2 cJKf0 cJKf1 cJKf2 cJKf3 cJKn0 cJKn1 cJKn2 cJKn3
    go_wp2_with fail
    have hst0 : Below w6.heap.size w6 w6 := by (repeat' (first | exact Below.refl _ _ | exact Below.refl _ _ | refine balloc ?_ _ | refine Below.drew ?_ | refine below_drewN ?_ _ | refine bset ?_ (by first | omega | (simp <;> omega)) _))
    refine (HPU.out _ _ _ _ HKB.out.1 HKB.out.2.1 HKB.out.2.2.1 H255.out _ _ _ _ _ _ _ (HhP.out.below hst0) (HhR.out.below hst0)).mono ?_
    rintro e_ w7 ⟨ga, fa, hga, rfl, qa, hb⟩
    clear hga
    have hst : Below w6.heap.size w6 w7 := btrans hst0 hb
    replace JKk := JKk.below hb JKk.lt
    replace JKp := JKp.below hb JKp.lt
    replace JKs := JKs.below hb JKs.lt
    replace JKr := JKr.below hb JKr.lt
    replace JKf := JKf.below hb JKf.lt
    replace JKn := JKn.below hb JKn.lt
    replace hbw : Below w.heap.size w w7 := btrans hbw hst
    replace HI1 := Lib.hid (HI1.out.below hst)
    replace HI2 := Lib.hid (HI2.out.below hst)
    replace HI3 := Lib.hid (HI3.out.below hst)
    replace HhP := Lib.hid (HhP.out.below hst)
    replace HhS := Lib.hid (HhS.out.below hst)
    replace HhR := Lib.hid (HhR.out.below hst)
    clear hst hst0 hb lJKk cJKk0 cJKk1 cJKk2 cJKk3 lJKp cJKp0 cJKp1 cJKp2 lJKs cJKs0 cJKs1 cJKs2 lJKr cJKr0 cJKr1 cJKr2 lJKf cJKf0 cJKf1 cJKf2 cJKf3 lJKn cJKn0 cJKn1 cJKn2 cJKn3
    have Hqa := Lib.hid qa
    clear qa
    have lJKk := JKk.lt
    have cJKk0 := JKk.cell 0
    have cJKk1 := JKk.cell 1
    have cJKk2 := JKk.cell 2
    have cJKk3 := JKk.cell 3
    have lJKp := JKp.lt
    have cJKp0 := JKp.cell 0
    have cJKp1 := JKp.cell 1
    have cJKp2 := JKp.cell 2
    have lJKs := JKs.lt
    have cJKs0 := JKs.cell 0
    have cJKs1 := JKs.cell 1
    have cJKs2 := JKs.cell 2
    have lJKr := JKr.lt
    have cJKr0 := JKr.cell 0
    have cJKr1 := JKr.cell 1
    have cJKr2 := JKr.cell 2
    have lJKf := JKf.lt
    have cJKf0 := JKf.cell 0
    have cJKf1 := JKf.cell 1
    have cJKf2 := JKf.cell 2
    have cJKf3 := JKf.cell 3
    have lJKn := JKn.lt
    have cJKn0 := JKn.cell 0
    have cJKn1 := JKn.cell 1
    have cJKn2 := JKn.cell 2
    have cJKn3 := JKn.cell 3
    simp only [List.getElem?_toArray, List.getElem?_cons_succ, List.getElem?_cons_zero] at cJKk0 cJKk1 cJKk2 cJKk3 cJKp0 cJKp1 cJKp2 cJKs0 cJKs1 cJKs2 cJKr0 cJKr1 cJKr2 cJKf0 cJKf1 cJKf2 cJKf3 cJKn0 cJKn1 cJKn2 cJKn3
    go_wp2_with fail
    have hst0 : Below w7.heap.size w7 (w7.alloc (.cells #[.int .i64 (W : Int), .int .i64 (H : Int), .slice (some ⟨ga, 0, none⟩) N fa] 30)) := by (repeat' (first | exact Below.refl _ _ | exact Below.refl _ _ | refine balloc ?_ _ | refine Below.drew ?_ | refine below_drewN ?_ _ | refine bset ?_ (by first | omega | (simp <;> omega)) _))
    refine (HPU.out _ _ _ _ HKB.out.1 HKB.out.2.1 HKB.out.2.2.1 H255.out _ _ _ _ _ _ _ (HhS.out.below hst0) (HhR.out.below hst0)).mono ?_
    rintro e_ w8 ⟨gb, fb, hgb, rfl, qb, hb⟩
    clear hgb
    have hst : Below w7.heap.size w7 w8 := btrans hst0 hb
    replace JKk := (JKk.alloc (.cells #[.int .i64 (W : Int), .int .i64 (H : Int), .slice (some ⟨ga, 0, none⟩) N fa] 30))
    replace JKp := (JKp.alloc (.cells #[.int .i64 (W : Int), .int .i64 (H : Int), .slice (some ⟨ga, 0, none⟩) N fa] 30))
    replace JKs := (JKs.alloc (.cells #[.int .i64 (W : Int), .int .i64 (H : Int), .slice (some ⟨ga, 0, none⟩) N fa] 30))
    replace JKr := (JKr.alloc (.cells #[.int .i64 (W : Int), .int .i64 (H : Int), .slice (some ⟨ga, 0, none⟩) N fa] 30))
    replace JKf := (JKf.alloc (.cells #[.int .i64 (W : Int), .int .i64 (H : Int), .slice (some ⟨ga, 0, none⟩) N fa] 30))
    replace JKn := (JKn.alloc (.cells #[.int .i64 (W : Int), .int .i64 (H : Int), .slice (some ⟨ga, 0, none⟩) N fa] 30))
    have Ka := (Blk.new w7 30 #[.int .i64 (W : Int), .int .i64 (H : Int), .slice (some ⟨ga, 0, none⟩) N fa])
    replace JKk := JKk.below hb JKk.lt
    replace JKp := JKp.below hb JKp.lt
    replace JKs := JKs.below hb JKs.lt
    replace JKr := JKr.below hb JKr.lt
    replace JKf := JKf.below hb JKf.lt
    replace JKn := JKn.below hb JKn.lt
    replace Ka := Ka.below hb Ka.lt
    replace hbw : Below w.heap.size w w8 := btrans hbw hst
    replace HI1 := Lib.hid (HI1.out.below hst)
    replace HI2 := Lib.hid (HI2.out.below hst)
    replace HI3 := Lib.hid (HI3.out.below hst)
    replace HhP := Lib.hid (HhP.out.below hst)
    replace HhS := Lib.hid (HhS.out.below hst)
    replace HhR := Lib.hid (HhR.out.below hst)
    replace Hqa := Lib.hid (Hqa.out.below hst)
    clear hst hst0 hb lJKk cJKk0 cJKk1 cJKk2 cJKk3 lJKp cJKp0 cJKp1 cJKp2 lJKs cJKs0 cJKs1 cJKs2 lJKr cJKr0 cJKr1 cJKr2 lJKf cJKf0 cJKf1 cJKf2 cJKf3 lJKn cJKn0 cJKn1 cJKn2 cJKn3
    have Hqb := Lib.hid qb
    clear qb
    have lJKk := JKk.lt
    have cJKk0 := JKk.cell 0
    have cJKk1 := JKk.cell 1
    have cJKk2 := JKk.cell 2
    have cJKk3 := JKk.cell 3
    have lJKp := JKp.lt
    have cJKp0 := JKp.cell 0
    have cJKp1 := JKp.cell 1
    have cJKp2 := JKp.cell 2
    have lJKs := JKs.lt
    have cJKs0 := JKs.cell 0
    have cJKs1 := JKs.cell 1
    have cJKs2 := JKs.cell 2
    have lJKr := JKr.lt
    have cJKr0 := JKr.cell 0
    have cJKr1 := JKr.cell 1
    have cJKr2 := JKr.cell 2
    have lJKf := JKf.lt
    have cJKf0 := JKf.cell 0
    have cJKf1 := JKf.cell 1
    have cJKf2 := JKf.cell 2
    have cJKf3 := JKf.cell 3
    have lJKn := JKn.lt
    have cJKn0 := JKn.cell 0
    have cJKn1 := JKn.cell 1
    have cJKn2 := JKn.cell 2
    have cJKn3 := JKn.cell 3
    have lKa := Ka.lt
    have cKa0 := Ka.cell 0
    have cKa1 := Ka.cell 1
    have cKa2 := Ka.cell 2
    simp only [List.getElem?_toArray, List.getElem?_cons_succ, List.getElem?_cons_zero] at cJKk0 cJKk1 cJKk2 cJKk3 cJKp0 cJKp1 cJKp2 cJKs0 cJKs1 cJKs2 cJKr0 cJKr1 cJKr2 cJKf0 cJKf1 cJKf2 cJKf3 cJKn0 cJKn1 cJKn2 cJKn3 cKa0 cKa1 cKa2
    go_wp2_with fail
    have hst0 : Below w8.heap.size w8 (w8.alloc (.cells #[.int .i64 (W : Int), .int .i64 (H : Int), .slice (some ⟨gb, 0, none⟩) N fb] 30)) := by (repeat' (first | exact Below.refl _ _ | exact Below.refl _ _ | refine balloc ?_ _ | refine Below.drew ?_ | refine below_drewN ?_ _ | refine bset ?_ (by first | omega | (simp <;> omega)) _))
    refine (HPU.out _ _ _ _ HKB.out.1 HKB.out.2.1 HKB.out.2.2.1 H255.out _ _ _ _ _ _ _ (Hqa.out.below hst0) (HhR.out.below hst0)).mono ?_
    rintro e_ w9 ⟨gc, fc, hgc, rfl, qc, hb⟩
    clear hgc
    have hst : Below w8.heap.size w8 w9 := btrans hst0 hb
    replace JKk := (JKk.alloc (.cells #[.int .i64 (W : Int), .int .i64 (H : Int), .slice (some ⟨gb, 0, none⟩) N fb] 30))
    replace JKp := (JKp.alloc (.cells #[.int .i64 (W : Int), .int .i64 (H : Int), .slice (some ⟨gb, 0, none⟩) N fb] 30))
    replace JKs := (JKs.alloc (.cells #[.int .i64 (W : Int), .int .i64 (H : Int), .slice (some ⟨gb, 0, none⟩) N fb] 30))
    replace JKr := (JKr.alloc (.cells #[.int .i64 (W : Int), .int .i64 (H : Int), .slice (some ⟨gb, 0, none⟩) N fb] 30))
    replace JKf := (JKf.alloc (.cells #[.int .i64 (W : Int), .int .i64 (H : Int), .slice (some ⟨gb, 0, none⟩) N fb] 30))
    replace JKn := (JKn.alloc (.cells #[.int .i64 (W : Int), .int .i64 (H : Int), .slice (some ⟨gb, 0, none⟩) N fb] 30))
    replace Ka := (Ka.alloc (.cells #[.int .i64 (W : Int), .int .i64 (H : Int), .slice (some ⟨gb, 0, none⟩) N fb] 30))
    have Kb := (Blk.new w8 30 #[.int .i64 (W : Int), .int .i64 (H : Int), .slice (some ⟨gb, 0, none⟩) N fb])
    replace JKk := JKk.below hb JKk.lt
    replace JKp := JKp.below hb JKp.lt
    replace JKs := JKs.below hb JKs.lt
    replace JKr := JKr.below hb JKr.lt
    replace JKf := JKf.below hb JKf.lt
    replace JKn := JKn.below hb JKn.lt
    replace Ka := Ka.below hb Ka.lt
    replace Kb := Kb.below hb Kb.lt
    replace hbw : Below w.heap.size w w9 := btrans hbw hst
    replace HI1 := Lib.hid (HI1.out.below hst)
    replace HI2 := Lib.hid (HI2.out.below hst)
    replace HI3 := Lib.hid (HI3.out.below hst)
    replace HhP := Lib.hid (HhP.out.below hst)
    replace HhS := Lib.hid (HhS.out.below hst)
    replace HhR := Lib.hid (HhR.out.below hst)
    replace Hqa := Lib.hid (Hqa.out.below hst)
    replace Hqb := Lib.hid (Hqb.out.below hst)
    clear hst hst0 hb lJKk cJKk0 cJKk1 cJKk2 cJKk3 lJKp cJKp0 cJKp1 cJKp2 lJKs cJKs0 cJKs1 cJKs2 lJKr cJKr0 cJKr1 cJKr2 lJKf cJKf0 cJKf1 cJKf2 cJKf3 lJKn cJKn0 cJKn1 cJKn2 cJKn3 lKa cKa0 cKa1 cKa2
    have Hqc := Lib.hid qc
    clear qc
    have lJKk := JKk.lt
    have cJKk0 := JKk.cell 0
    have cJKk1 := JKk.cell 1
    have cJKk2 := JKk.cell 2
    have cJKk3 := JKk.cell 3
    have lJKp := JKp.lt
    have cJKp0 := JKp.cell 0
    have cJKp1 := JKp.cell 1
    have cJKp2 := JKp.cell 2
    have lJKs := JKs.lt
    have cJKs0 := JKs.cell 0
    have cJKs1 := JKs.cell 1
    have cJKs2 := JKs.cell 2
    have lJKr := JKr.lt
    have cJKr0 := JKr.cell 0
    have cJKr1 := JKr.cell 1
    have cJKr2 := JKr.cell 2
    have lJKf := JKf.lt
    have cJKf0 := JKf.cell 0
    have cJKf1 := JKf.cell 1
    have cJKf2 := JKf.cell 2
    have cJKf3 := JKf.cell 3
    have lJKn := JKn.lt
    have cJKn0 := JKn.cell 0
    have cJKn1 := JKn.cell 1
    have cJKn2 := JKn.cell 2
    have cJKn3 := JKn.cell 3
    have lKa := Ka.lt
    have cKa0 := Ka.cell 0
    have cKa1 := Ka.cell 1
    have cKa2 := Ka.cell 2
    have lKb := Kb.lt
    have cKb0 := Kb.cell 0
    have cKb1 := Kb.cell 1
    have cKb2 := Kb.cell 2
    simp only [List.getElem?_toArray, List.getElem?_cons_succ, List.getElem?_cons_zero] at cJKk0 cJKk1 cJKk2 cJKk3 cJKp0 cJKp1 cJKp2 cJKs0 cJKs1 cJKs2 cJKr0 cJKr1 cJKr2 cJKf0 cJKf1 cJKf2 cJKf3 cJKn0 cJKn1 cJKn2 cJKn3 cKa0 cKa1 cKa2 cKb0 cKb1 cKb2
    go_wp2_with fail
    have hst0 : Below w9.heap.size w9 (w9.alloc (.cells #[.int .i64 (W : Int), .int .i64 (H : Int), .slice (some ⟨gc, 0, none⟩) N fc] 30)) := by (repeat' (first | exact Below.refl _ _ | exact Below.refl _ _ | refine balloc ?_ _ | refine Below.drew ?_ | refine below_drewN ?_ _ | refine bset ?_ (by first | omega | (simp <;> omega)) _))
    refine (HPU.out _ _ _ _ HKB.out.1 HKB.out.2.1 HKB.out.2.2.1 H000.out _ _ _ _ _ _ _ (HhP.out.below hst0) (HhR.out.below hst0)).mono ?_
    rintro e_ w10 ⟨gd, fd, hgd, rfl, qd, hb⟩
    clear hgd
    have hst : Below w9.heap.size w9 w10 := btrans hst0 hb
    replace JKk := (JKk.alloc (.cells #[.int .i64 (W : Int), .int .i64 (H : Int), .slice (some ⟨gc, 0, none⟩) N fc] 30))
    replace JKp := (JKp.alloc (.cells #[.int .i64 (W : Int), .int .i64 (H : Int), .slice (some ⟨gc, 0, none⟩) N fc] 30))
    replace JKs := (JKs.alloc (.cells #[.int .i64 (W : Int), .int .i64 (H : Int), .slice (some ⟨gc, 0, none⟩) N fc] 30))
    replace JKr := (JKr.alloc (.cells #[.int .i64 (W : Int), .int .i64 (H : Int), .slice (some ⟨gc, 0, none⟩) N fc] 30))
    replace JKf := (JKf.alloc (.cells #[.int .i64 (W : Int), .int .i64 (H : Int), .slice (some ⟨gc, 0, none⟩) N fc] 30))
    replace JKn := (JKn.alloc (.cells #[.int .i64 (W : Int), .int .i64 (H : Int), .slice (some ⟨gc, 0, none⟩) N fc] 30))
    replace Ka := (Ka.alloc (.cells #[.int .i64 (W : Int), .int .i64 (H : Int), .slice (some ⟨gc, 0, none⟩) N fc] 30))
    replace Kb := (Kb.alloc (.cells #[.int .i64 (W : Int), .int .i64 (H : Int), .slice (some ⟨gc, 0, none⟩) N fc] 30))
    have Kc := (Blk.new w9 30 #[.int .i64 (W : Int), .int .i64 (H : Int), .slice (some ⟨gc, 0, none⟩) N fc])
    replace JKk := JKk.below hb JKk.lt
    replace JKp := JKp.below hb JKp.lt
    replace JKs := JKs.below hb JKs.lt
    replace JKr := JKr.below hb JKr.lt
    replace JKf := JKf.below hb JKf.lt
    replace JKn := JKn.below hb JKn.lt
    replace Ka := Ka.below hb Ka.lt
    replace Kb := Kb.below hb Kb.lt
    replace Kc := Kc.below hb Kc.lt
    replace hbw : Below w.heap.size w w10 := btrans hbw hst
    replace HI1 := Lib.hid (HI1.out.below hst)
    replace HI2 := Lib.hid (HI2.out.below hst)
    replace HI3 := Lib.hid (HI3.out.below hst)
    replace HhP := Lib.hid (HhP.out.below hst)
    replace HhS := Lib.hid (HhS.out.below hst)
    replace HhR := Lib.hid (HhR.out.below hst)
    replace Hqa := Lib.hid (Hqa.out.below hst)
    replace Hqb := Lib.hid (Hqb.out.below hst)
    replace Hqc := Lib.hid (Hqc.out.below hst)
    clear hst hst0 hb lJKk cJKk0 cJKk1 cJKk2 cJKk3 lJKp cJKp0 cJKp1 cJKp2 lJKs cJKs0 cJKs1 cJKs2 lJKr cJKr0 cJKr1 cJKr2 lJKf cJKf0 cJKf1 cJKf2 cJKf3 lJKn cJKn0 cJKn1 cJKn2 cJKn3 lKa cKa0 cKa1 cKa2 lKb cKb0 cKb1 cKb2
    have Hqd := Lib.hid qd
    clear qd
    have lJKk := JKk.lt
    have cJKk0 := JKk.cell 0
    have cJKk1 := JKk.cell 1
    have cJKk2 := JKk.cell 2
    have cJKk3 := JKk.cell 3
    have lJKp := JKp.lt
    have cJKp0 := JKp.cell 0
    have cJKp1 := JKp.cell 1
    have cJKp2 := JKp.cell 2
    have lJKs := JKs.lt
    have cJKs0 := JKs.cell 0
    have cJKs1 := JKs.cell 1
    have cJKs2 := JKs.cell 2
    have lJKr := JKr.lt
    have cJKr0 := JKr.cell 0
    have cJKr1 := JKr.cell 1
    have cJKr2 := JKr.cell 2
    have lJKf := JKf.lt
    have cJKf0 := JKf.cell 0
    have cJKf1 := JKf.cell 1
    have cJKf2 := JKf.cell 2
    have cJKf3 := JKf.cell 3
    have lJKn := JKn.lt
    have cJKn0 := JKn.cell 0
    have cJKn1 := JKn.cell 1
    have cJKn2 := JKn.cell 2
    have cJKn3 := JKn.cell 3
    have lKa := Ka.lt
    have cKa0 := Ka.cell 0
    have cKa1 := Ka.cell 1
    have cKa2 := Ka.cell 2
    have lKb := Kb.lt
    have cKb0 := Kb.cell 0
    have cKb1 := Kb.cell 1
    have cKb2 := Kb.cell 2
    have lKc := Kc.lt
    have cKc0 := Kc.cell 0
    have cKc1 := Kc.cell 1
    have cKc2 := Kc.cell 2
    simp only [List.getElem?_toArray, List.getElem?_cons_succ, List.getElem?_cons_zero] at cJKk0 cJKk1 cJKk2 cJKk3 cJKp0 cJKp1 cJKp2 cJKs0 cJKs1 cJKs2 cJKr0 cJKr1 cJKr2 cJKf0 cJKf1 cJKf2 cJKf3 cJKn0 cJKn1 cJKn2 cJKn3 cKa0 cKa1 cKa2 cKb0 cKb1 cKb2 cKc0 cKc1 cKc2
    go_wp2_with fail
    have hst0 : Below w10.heap.size w10 (w10.alloc (.cells #[.int .i64 (W : Int), .int .i64 (H : Int), .slice (some ⟨gd, 0, none⟩) N fd] 30)) := by (repeat' (first | exact Below.refl _ _ | exact Below.refl _ _ | refine balloc ?_ _ | refine Below.drew ?_ | refine below_drewN ?_ _ | refine bset ?_ (by first | omega | (simp <;> omega)) _))
    refine (HUN.out _ _ _ _ _ _ _ (Hqa.out.below hst0) (Hqb.out.below hst0)).mono ?_
    rintro e_ w11 ⟨gu, hgu, rfl, qu, hb⟩
    clear hgu
    have hst : Below w10.heap.size w10 w11 := btrans hst0 hb
    replace JKk := (JKk.alloc (.cells #[.int .i64 (W : Int), .int .i64 (H : Int), .slice (some ⟨gd, 0, none⟩) N fd] 30))
    replace JKp := (JKp.alloc (.cells #[.int .i64 (W : Int), .int .i64 (H : Int), .slice (some ⟨gd, 0, none⟩) N fd] 30))
    replace JKs := (JKs.alloc (.cells #[.int .i64 (W : Int), .int .i64 (H : Int), .slice (some ⟨gd, 0, none⟩) N fd] 30))
    replace JKr := (JKr.alloc (.cells #[.int .i64 (W : Int), .int .i64 (H : Int), .slice (some ⟨gd, 0, none⟩) N fd] 30))
    replace JKf := (JKf.alloc (.cells #[.int .i64 (W : Int), .int .i64 (H : Int), .slice (some ⟨gd, 0, none⟩) N fd] 30))
    replace JKn := (JKn.alloc (.cells #[.int .i64 (W : Int), .int .i64 (H : Int), .slice (some ⟨gd, 0, none⟩) N fd] 30))
    replace Ka := (Ka.alloc (.cells #[.int .i64 (W : Int), .int .i64 (H : Int), .slice (some ⟨gd, 0, none⟩) N fd] 30))
    replace Kb := (Kb.alloc (.cells #[.int .i64 (W : Int), .int .i64 (H : Int), .slice (some ⟨gd, 0, none⟩) N fd] 30))
    replace Kc := (Kc.alloc (.cells #[.int .i64 (W : Int), .int .i64 (H : Int), .slice (some ⟨gd, 0, none⟩) N fd] 30))
    have Kd := (Blk.new w10 30 #[.int .i64 (W : Int), .int .i64 (H : Int), .slice (some ⟨gd, 0, none⟩) N fd])
    replace JKk := JKk.below hb JKk.lt
    replace JKp := JKp.below hb JKp.lt
    replace JKs := JKs.below hb JKs.lt
    replace JKr := JKr.below hb JKr.lt
    replace JKf := JKf.below hb JKf.lt
    replace JKn := JKn.below hb JKn.lt
    replace Ka := Ka.below hb Ka.lt
    replace Kb := Kb.below hb Kb.lt
    replace Kc := Kc.below hb Kc.lt
    replace Kd := Kd.below hb Kd.lt
    replace hbw : Below w.heap.size w w11 := btrans hbw hst
    replace HI1 := Lib.hid (HI1.out.below hst)
    replace HI2 := Lib.hid (HI2.out.below hst)
    replace HI3 := Lib.hid (HI3.out.below hst)
    replace HhP := Lib.hid (HhP.out.below hst)
    replace HhS := Lib.hid (HhS.out.below hst)
    replace HhR := Lib.hid (HhR.out.below hst)
    replace Hqa := Lib.hid (Hqa.out.below hst)
    replace Hqb := Lib.hid (Hqb.out.below hst)
    replace Hqc := Lib.hid (Hqc.out.below hst)
    replace Hqd := Lib.hid (Hqd.out.below hst)
    clear hst hst0 hb lJKk cJKk0 cJKk1 cJKk2 cJKk3 lJKp cJKp0 cJKp1 cJKp2 lJKs cJKs0 cJKs1 cJKs2 lJKr cJKr0 cJKr1 cJKr2 lJKf cJKf0 cJKf1 cJKf2 cJKf3 lJKn cJKn0 cJKn1 cJKn2 cJKn3 lKa cKa0 cKa1 cKa2 lKb cKb0 cKb1 cKb2 lKc cKc0 cKc1 cKc2
    have Hqu := Lib.hid qu
    clear qu
    have lJKk := JKk.lt
    have cJKk0 := JKk.cell 0
    have cJKk1 := JKk.cell 1
    have cJKk2 := JKk.cell 2
    have cJKk3 := JKk.cell 3
    have lJKp := JKp.lt
    have cJKp0 := JKp.cell 0
    have cJKp1 := JKp.cell 1
    have cJKp2 := JKp.cell 2
    have lJKs := JKs.lt
    have cJKs0 := JKs.cell 0
    have cJKs1 := JKs.cell 1
    have cJKs2 := JKs.cell 2
    have lJKr := JKr.lt
    have cJKr0 := JKr.cell 0
    have cJKr1 := JKr.cell 1
    have cJKr2 := JKr.cell 2
    have lJKf := JKf.lt
    have cJKf0 := JKf.cell 0
    have cJKf1 := JKf.cell 1
    have cJKf2 := JKf.cell 2
    have cJKf3 := JKf.cell 3
    have lJKn := JKn.lt
    have cJKn0 := JKn.cell 0
    have cJKn1 := JKn.cell 1
    have cJKn2 := JKn.cell 2
    have cJKn3 := JKn.cell 3
    have lKa := Ka.lt
    have cKa0 := Ka.cell 0
    have cKa1 := Ka.cell 1
    have cKa2 := Ka.cell 2
    have lKb := Kb.lt
    have cKb0 := Kb.cell 0
    have cKb1 := Kb.cell 1
    have cKb2 := Kb.cell 2
    have lKc := Kc.lt
    have cKc0 := Kc.cell 0
    have cKc1 := Kc.cell 1
    have cKc2 := Kc.cell 2
    have lKd := Kd.lt
    have cKd0 := Kd.cell 0
    have cKd1 := Kd.cell 1
    have cKd2 := Kd.cell 2
    simp only [List.getElem?_toArray, List.getElem?_cons_succ, List.getElem?_cons_zero] at cJKk0 cJKk1 cJKk2 cJKk3 cJKp0 cJKp1 cJKp2 cJKs0 cJKs1 cJKs2 cJKr0 cJKr1 cJKr2 cJKf0 cJKf1 cJKf2 cJKf3 cJKn0 cJKn1 cJKn2 cJKn3 cKa0 cKa1 cKa2 cKb0 cKb1 cKb2 cKc0 cKc1 cKc2 cKd0 cKd1 cKd2
    go_wp2_with fail
    have hst0 : Below w11.heap.size w11 (w11.alloc (.cells #[.int .i64 (W : Int), .int .i64 (H : Int), .slice (some ⟨gu, 0, none⟩) H H] 35)) := by (repeat' (first | exact Below.refl _ _ | exact Below.refl _ _ | refine balloc ?_ _ | refine Below.drew ?_ | refine below_drewN ?_ _ | refine bset ?_ (by first | omega | (simp <;> omega)) _))
    refine (HUN.out _ _ _ _ _ _ _ (HhP.out.below hst0) (HhS.out.below hst0)).mono ?_
    rintro e_ w12 ⟨gt, hgt, rfl, qt, hb⟩
    clear hgt
    have hst : Below w11.heap.size w11 w12 := btrans hst0 hb
    replace JKk := (JKk.alloc (.cells #[.int .i64 (W : Int), .int .i64 (H : Int), .slice (some ⟨gu, 0, none⟩) H H] 35))
    replace JKp := (JKp.alloc (.cells #[.int .i64 (W : Int), .int .i64 (H : Int), .slice (some ⟨gu, 0, none⟩) H H] 35))
    replace JKs := (JKs.alloc (.cells #[.int .i64 (W : Int), .int .i64 (H : Int), .slice (some ⟨gu, 0, none⟩) H H] 35))
    replace JKr := (JKr.alloc (.cells #[.int .i64 (W : Int), .int .i64 (H : Int), .slice (some ⟨gu, 0, none⟩) H H] 35))
    replace JKf := (JKf.alloc (.cells #[.int .i64 (W : Int), .int .i64 (H : Int), .slice (some ⟨gu, 0, none⟩) H H] 35))
    replace JKn := (JKn.alloc (.cells #[.int .i64 (W : Int), .int .i64 (H : Int), .slice (some ⟨gu, 0, none⟩) H H] 35))
    replace Ka := (Ka.alloc (.cells #[.int .i64 (W : Int), .int .i64 (H : Int), .slice (some ⟨gu, 0, none⟩) H H] 35))
    replace Kb := (Kb.alloc (.cells #[.int .i64 (W : Int), .int .i64 (H : Int), .slice (some ⟨gu, 0, none⟩) H H] 35))
    replace Kc := (Kc.alloc (.cells #[.int .i64 (W : Int), .int .i64 (H : Int), .slice (some ⟨gu, 0, none⟩) H H] 35))
    replace Kd := (Kd.alloc (.cells #[.int .i64 (W : Int), .int .i64 (H : Int), .slice (some ⟨gu, 0, none⟩) H H] 35))
    have Ku := (Blk.new w11 35 #[.int .i64 (W : Int), .int .i64 (H : Int), .slice (some ⟨gu, 0, none⟩) H H])
    replace JKk := JKk.below hb JKk.lt
    replace JKp := JKp.below hb JKp.lt
    replace JKs := JKs.below hb JKs.lt
    replace JKr := JKr.below hb JKr.lt
    replace JKf := JKf.below hb JKf.lt
    replace JKn := JKn.below hb JKn.lt
    replace Ka := Ka.below hb Ka.lt
    replace Kb := Kb.below hb Kb.lt
    replace Kc := Kc.below hb Kc.lt
    replace Kd := Kd.below hb Kd.lt
    replace Ku := Ku.below hb Ku.lt
    replace hbw : Below w.heap.size w w12 := btrans hbw hst
    replace HI1 := Lib.hid (HI1.out.below hst)
    replace HI2 := Lib.hid (HI2.out.below hst)
    replace HI3 := Lib.hid (HI3.out.below hst)
    replace HhP := Lib.hid (HhP.out.below hst)
    replace HhS := Lib.hid (HhS.out.below hst)
    replace HhR := Lib.hid (HhR.out.below hst)
    replace Hqa := Lib.hid (Hqa.out.below hst)
    replace Hqb := Lib.hid (Hqb.out.below hst)
    replace Hqc := Lib.hid (Hqc.out.below hst)
    replace Hqd := Lib.hid (Hqd.out.below hst)
    replace Hqu := Lib.hid (Hqu.out.below hst)
    clear hst hst0 hb lJKk cJKk0 cJKk1 cJKk2 cJKk3 lJKp cJKp0 cJKp1 cJKp2 lJKs cJKs0 cJKs1 cJKs2 lJKr cJKr0 cJKr1 cJKr2 lJKf cJKf0 cJKf1 cJKf2 cJKf3 lJKn cJKn0 cJKn1 cJKn2 cJKn3 lKa cKa0 cKa1 cKa2 lKb cKb0 cKb1 cKb2 lKc cKc0 cKc1 cKc2 lKd cKd0 cKd1 cKd2
    have Hqt := Lib.hid qt
    clear qt
    have lJKk := JKk.lt
    have cJKk0 := JKk.cell 0
    have cJKk1 := JKk.cell 1
    have cJKk2 := JKk.cell 2
    have cJKk3 := JKk.cell 3
    have lJKp := JKp.lt
    have cJKp0 := JKp.cell 0
    have cJKp1 := JKp.cell 1
    have cJKp2 := JKp.cell 2
    have lJKs := JKs.lt
    have cJKs0 := JKs.cell 0
    have cJKs1 := JKs.cell 1
    have cJKs2 := JKs.cell 2
    have lJKr := JKr.lt
    have cJKr0 := JKr.cell 0
    have cJKr1 := JKr.cell 1
    have cJKr2 := JKr.cell 2
    have lJKf := JKf.lt
    have cJKf0 := JKf.cell 0
    have cJKf1 := JKf.cell 1
    have cJKf2 := JKf.cell 2
    have cJKf3 := JKf.cell 3
    have lJKn := JKn.lt
    have cJKn0 := JKn.cell 0
    have cJKn1 := JKn.cell 1
    have cJKn2 := JKn.cell 2
    have cJKn3 := JKn.cell 3
    have lKa := Ka.lt
    have cKa0 := Ka.cell 0
    have cKa1 := Ka.cell 1
    have cKa2 := Ka.cell 2
    have lKb := Kb.lt
    have cKb0 := Kb.cell 0
    have cKb1 := Kb.cell 1
    have cKb2 := Kb.cell 2
    have lKc := Kc.lt
    have cKc0 := Kc.cell 0
    have cKc1 := Kc.cell 1
    have cKc2 := Kc.cell 2
    have lKd := Kd.lt
    have cKd0 := Kd.cell 0
    have cKd1 := Kd.cell 1
    have cKd2 := Kd.cell 2
    have lKu := Ku.lt
    have cKu0 := Ku.cell 0
    have cKu1 := Ku.cell 1
    have cKu2 := Ku.cell 2
    simp only [List.getElem?_toArray, List.getElem?_cons_succ, List.getElem?_cons_zero] at cJKk0 cJKk1 cJKk2 cJKk3 cJKp0 cJKp1 cJKp2 cJKs0 cJKs1 cJKs2 cJKr0 cJKr1 cJKr2 cJKf0 cJKf1 cJKf2 cJKf3 cJKn0 cJKn1 cJKn2 cJKn3 cKa0 cKa1 cKa2 cKb0 cKb1 cKb2 cKc0 cKc1 cKc2 cKd0 cKd1 cKd2 cKu0 cKu1 cKu2
    go_wp2_with fail
    have hst0 : Below w12.heap.size w12 (w12.alloc (.cells #[.int .i64 (W : Int), .int .i64 (H : Int), .slice (some ⟨gt, 0, none⟩) H H] 35)) := by (repeat' (first | exact Below.refl _ _ | exact Below.refl _ _ | refine balloc ?_ _ | refine Below.drew ?_ | refine below_drewN ?_ _ | refine bset ?_ (by first | omega | (simp <;> omega)) _))
    refine (HLE.out _ _ _ _ _ _ _ (Hqt.out.below hst0) (HhR.out.below hst0)).mono ?_
    rintro e_ w13 ⟨ge, hge, rfl, qe, hb⟩
    clear hge
    have hst : Below w12.heap.size w12 w13 := btrans hst0 hb
    replace JKk := (JKk.alloc (.cells #[.int .i64 (W : Int), .int .i64 (H : Int), .slice (some ⟨gt, 0, none⟩) H H] 35))
    replace JKp := (JKp.alloc (.cells #[.int .i64 (W : Int), .int .i64 (H : Int), .slice (some ⟨gt, 0, none⟩) H H] 35))
    replace JKs := (JKs.alloc (.cells #[.int .i64 (W : Int), .int .i64 (H : Int), .slice (some ⟨gt, 0, none⟩) H H] 35))
    replace JKr := (JKr.alloc (.cells #[.int .i64 (W : Int), .int .i64 (H : Int), .slice (some ⟨gt, 0, none⟩) H H] 35))
    replace JKf := (JKf.alloc (.cells #[.int .i64 (W : Int), .int .i64 (H : Int), .slice (some ⟨gt, 0, none⟩) H H] 35))
    replace JKn := (JKn.alloc (.cells #[.int .i64 (W : Int), .int .i64 (H : Int), .slice (some ⟨gt, 0, none⟩) H H] 35))
    replace Ka := (Ka.alloc (.cells #[.int .i64 (W : Int), .int .i64 (H : Int), .slice (some ⟨gt, 0, none⟩) H H] 35))
    replace Kb := (Kb.alloc (.cells #[.int .i64 (W : Int), .int .i64 (H : Int), .slice (some ⟨gt, 0, none⟩) H H] 35))
    replace Kc := (Kc.alloc (.cells #[.int .i64 (W : Int), .int .i64 (H : Int), .slice (some ⟨gt, 0, none⟩) H H] 35))
    replace Kd := (Kd.alloc (.cells #[.int .i64 (W : Int), .int .i64 (H : Int), .slice (some ⟨gt, 0, none⟩) H H] 35))
    replace Ku := (Ku.alloc (.cells #[.int .i64 (W : Int), .int .i64 (H : Int), .slice (some ⟨gt, 0, none⟩) H H] 35))
    have Kt := (Blk.new w12 35 #[.int .i64 (W : Int), .int .i64 (H : Int), .slice (some ⟨gt, 0, none⟩) H H])
    replace JKk := JKk.below hb JKk.lt
    replace JKp := JKp.below hb JKp.lt
    replace JKs := JKs.below hb JKs.lt
    replace JKr := JKr.below hb JKr.lt
    replace JKf := JKf.below hb JKf.lt
    replace JKn := JKn.below hb JKn.lt
    replace Ka := Ka.below hb Ka.lt
    replace Kb := Kb.below hb Kb.lt
    replace Kc := Kc.below hb Kc.lt
    replace Kd := Kd.below hb Kd.lt
    replace Ku := Ku.below hb Ku.lt
    replace Kt := Kt.below hb Kt.lt
    replace hbw : Below w.heap.size w w13 := btrans hbw hst
    replace HI1 := Lib.hid (HI1.out.below hst)
    replace HI2 := Lib.hid (HI2.out.below hst)
    replace HI3 := Lib.hid (HI3.out.below hst)
    replace HhP := Lib.hid (HhP.out.below hst)
    replace HhS := Lib.hid (HhS.out.below hst)
    replace HhR := Lib.hid (HhR.out.below hst)
    replace Hqa := Lib.hid (Hqa.out.below hst)
    replace Hqb := Lib.hid (Hqb.out.below hst)
    replace Hqc := Lib.hid (Hqc.out.below hst)
    replace Hqd := Lib.hid (Hqd.out.below hst)
    replace Hqu := Lib.hid (Hqu.out.below hst)
    replace Hqt := Lib.hid (Hqt.out.below hst)
    clear hst hst0 hb lJKk cJKk0 cJKk1 cJKk2 cJKk3 lJKp cJKp0 cJKp1 cJKp2 lJKs cJKs0 cJKs1 cJKs2 lJKr cJKr0 cJKr1 cJKr2 lJKf cJKf0 cJKf1 cJKf2 cJKf3 lJKn cJKn0 cJKn1 cJKn2 cJKn3 lKa cKa0 cKa1 cKa2 lKb cKb0 cKb1 cKb2 lKc cKc0 cKc1 cKc2 lKd cKd0 cKd1 cKd2 lKu cKu0 cKu1 cKu2
    have Hqe := Lib.hid qe
    clear qe
    have lJKk := JKk.lt
    have cJKk0 := JKk.cell 0
    have cJKk1 := JKk.cell 1
    have cJKk2 := JKk.cell 2
    have cJKk3 := JKk.cell 3
    have lJKp := JKp.lt
    have cJKp0 := JKp.cell 0
    have cJKp1 := JKp.cell 1
    have cJKp2 := JKp.cell 2
    have lJKs := JKs.lt
    have cJKs0 := JKs.cell 0
    have cJKs1 := JKs.cell 1
    have cJKs2 := JKs.cell 2
    have lJKr := JKr.lt
    have cJKr0 := JKr.cell 0
    have cJKr1 := JKr.cell 1
    have cJKr2 := JKr.cell 2
    have lJKf := JKf.lt
    have cJKf0 := JKf.cell 0
    have cJKf1 := JKf.cell 1
    have cJKf2 := JKf.cell 2
    have cJKf3 := JKf.cell 3
    have lJKn := JKn.lt
    have cJKn0 := JKn.cell 0
    have cJKn1 := JKn.cell 1
    have cJKn2 := JKn.cell 2
    have cJKn3 := JKn.cell 3
    have lKa := Ka.lt
    have cKa0 := Ka.cell 0
    have cKa1 := Ka.cell 1
    have cKa2 := Ka.cell 2
    have lKb := Kb.lt
    have cKb0 := Kb.cell 0
    have cKb1 := Kb.cell 1
    have cKb2 := Kb.cell 2
    have lKc := Kc.lt
    have cKc0 := Kc.cell 0
    have cKc1 := Kc.cell 1
    have cKc2 := Kc.cell 2
    have lKd := Kd.lt
    have cKd0 := Kd.cell 0
    have cKd1 := Kd.cell 1
    have cKd2 := Kd.cell 2
    have lKu := Ku.lt
    have cKu0 := Ku.cell 0
    have cKu1 := Ku.cell 1
    have cKu2 := Ku.cell 2
    have lKt := Kt.lt
    have cKt0 := Kt.cell 0
    have cKt1 := Kt.cell 1
    have cKt2 := Kt.cell 2
    simp only [List.getElem?_toArray, List.getElem?_cons_succ, List.getElem?_cons_zero] at cJKk0 cJKk1 cJKk2 cJKk3 cJKp0 cJKp1 cJKp2 cJKs0 cJKs1 cJKs2 cJKr0 cJKr1 cJKr2 cJKf0 cJKf1 cJKf2 cJKf3 cJKn0 cJKn1 cJKn2 cJKn3 cKa0 cKa1 cKa2 cKb0 cKb1 cKb2 cKc0 cKc1 cKc2 cKd0 cKd1 cKd2 cKu0 cKu1 cKu2 cKt0 cKt1 cKt2
    go_wp2_with fail
    have hst0 : Below w13.heap.size w13 (w13.alloc (.cells #[.int .i64 (W : Int), .int .i64 (H : Int), .slice (some ⟨ge, 0, none⟩) H H] 35)) := by (repeat' (first | exact Below.refl _ _ | exact Below.refl _ _ | refine balloc ?_ _ | refine Below.drew ?_ | refine below_drewN ?_ _ | refine bset ?_ (by first | omega | (simp <;> omega)) _))
    refine (HPU.out _ _ _ _ HKB.out.1 HKB.out.2.1 HKB.out.2.2.1 HKB.out.2.2.2 _ _ _ _ _ _ _ (HhP.out.below hst0) (HhR.out.below hst0)).mono ?_
    rintro e_ w14 ⟨gh, fh, hgh, rfl, qh, hb⟩
    clear hgh
    have hst : Below w13.heap.size w13 w14 := btrans hst0 hb
    replace JKk := (JKk.alloc (.cells #[.int .i64 (W : Int), .int .i64 (H : Int), .slice (some ⟨ge, 0, none⟩) H H] 35))
    replace JKp := (JKp.alloc (.cells #[.int .i64 (W : Int), .int .i64 (H : Int), .slice (some ⟨ge, 0, none⟩) H H] 35))
    replace JKs := (JKs.alloc (.cells #[.int .i64 (W : Int), .int .i64 (H : Int), .slice (some ⟨ge, 0, none⟩) H H] 35))
    replace JKr := (JKr.alloc (.cells #[.int .i64 (W : Int), .int .i64 (H : Int), .slice (some ⟨ge, 0, none⟩) H H] 35))
    replace JKf := (JKf.alloc (.cells #[.int .i64 (W : Int), .int .i64 (H : Int), .slice (some ⟨ge, 0, none⟩) H H] 35))
    replace JKn := (JKn.alloc (.cells #[.int .i64 (W : Int), .int .i64 (H : Int), .slice (some ⟨ge, 0, none⟩) H H] 35))
    replace Ka := (Ka.alloc (.cells #[.int .i64 (W : Int), .int .i64 (H : Int), .slice (some ⟨ge, 0, none⟩) H H] 35))
    replace Kb := (Kb.alloc (.cells #[.int .i64 (W : Int), .int .i64 (H : Int), .slice (some ⟨ge, 0, none⟩) H H] 35))
    replace Kc := (Kc.alloc (.cells #[.int .i64 (W : Int), .int .i64 (H : Int), .slice (some ⟨ge, 0, none⟩) H H] 35))
    replace Kd := (Kd.alloc (.cells #[.int .i64 (W : Int), .int .i64 (H : Int), .slice (some ⟨ge, 0, none⟩) H H] 35))
    replace Ku := (Ku.alloc (.cells #[.int .i64 (W : Int), .int .i64 (H : Int), .slice (some ⟨ge, 0, none⟩) H H] 35))
    replace Kt := (Kt.alloc (.cells #[.int .i64 (W : Int), .int .i64 (H : Int), .slice (some ⟨ge, 0, none⟩) H H] 35))
    have Ke := (Blk.new w13 35 #[.int .i64 (W : Int), .int .i64 (H : Int), .slice (some ⟨ge, 0, none⟩) H H])
    replace JKk := JKk.below hb JKk.lt
    replace JKp := JKp.below hb JKp.lt
    replace JKs := JKs.below hb JKs.lt
    replace JKr := JKr.below hb JKr.lt
    replace JKf := JKf.below hb JKf.lt
    replace JKn := JKn.below hb JKn.lt
    replace Ka := Ka.below hb Ka.lt
    replace Kb := Kb.below hb Kb.lt
    replace Kc := Kc.below hb Kc.lt
    replace Kd := Kd.below hb Kd.lt
    replace Ku := Ku.below hb Ku.lt
    replace Kt := Kt.below hb Kt.lt
    replace Ke := Ke.below hb Ke.lt
    replace hbw : Below w.heap.size w w14 := btrans hbw hst
    replace HI1 := Lib.hid (HI1.out.below hst)
    replace HI2 := Lib.hid (HI2.out.below hst)
    replace HI3 := Lib.hid (HI3.out.below hst)
    replace HhP := Lib.hid (HhP.out.below hst)
    replace HhS := Lib.hid (HhS.out.below hst)
    replace HhR := Lib.hid (HhR.out.below hst)
    replace Hqa := Lib.hid (Hqa.out.below hst)
    replace Hqb := Lib.hid (Hqb.out.below hst)
    replace Hqc := Lib.hid (Hqc.out.below hst)
    replace Hqd := Lib.hid (Hqd.out.below hst)
    replace Hqu := Lib.hid (Hqu.out.below hst)
    replace Hqt := Lib.hid (Hqt.out.below hst)
    replace Hqe := Lib.hid (Hqe.out.below hst)
    clear hst hst0 hb lJKk cJKk0 cJKk1 cJKk2 cJKk3 lJKp cJKp0 cJKp1 cJKp2 lJKs cJKs0 cJKs1 cJKs2 lJKr cJKr0 cJKr1 cJKr2 lJKf cJKf0 cJKf1 cJKf2 cJKf3 lJKn cJKn0 cJKn1 cJKn2 cJKn3 lKa cKa0 cKa1 cKa2 lKb cKb0 cKb1 cKb2 lKc cKc0 cKc1 cKc2 lKd cKd0 cKd1 cKd2 lKu cKu0 cKu1 cKu2 lKt cKt0 cKt1 cKt2
    have Hqh := Lib.hid qh
    clear qh
    have lJKk := JKk.lt
    have cJKk0 := JKk.cell 0
    have cJKk1 := JKk.cell 1
    have cJKk2 := JKk.cell 2
    have cJKk3 := JKk.cell 3
    have lJKp := JKp.lt
    have cJKp0 := JKp.cell 0
    have cJKp1 := JKp.cell 1
    have cJKp2 := JKp.cell 2
    have lJKs := JKs.lt
    have cJKs0 := JKs.cell 0
    have cJKs1 := JKs.cell 1
    have cJKs2 := JKs.cell 2
    have lJKr := JKr.lt
    have cJKr0 := JKr.cell 0
    have cJKr1 := JKr.cell 1
    have cJKr2 := JKr.cell 2
    have lJKf := JKf.lt
    have cJKf0 := JKf.cell 0
    have cJKf1 := JKf.cell 1
    have cJKf2 := JKf.cell 2
    have cJKf3 := JKf.cell 3
    have lJKn := JKn.lt
    have cJKn0 := JKn.cell 0
    have cJKn1 := JKn.cell 1
    have cJKn2 := JKn.cell 2
    have cJKn3 := JKn.cell 3
    have lKa := Ka.lt
    have cKa0 := Ka.cell 0
    have cKa1 := Ka.cell 1
    have cKa2 := Ka.cell 2
    have lKb := Kb.lt
    have cKb0 := Kb.cell 0
    have cKb1 := Kb.cell 1
    have cKb2 := Kb.cell 2
    have lKc := Kc.lt
    have cKc0 := Kc.cell 0
    have cKc1 := Kc.cell 1
    have cKc2 := Kc.cell 2
    have lKd := Kd.lt
    have cKd0 := Kd.cell 0
    have cKd1 := Kd.cell 1
    have cKd2 := Kd.cell 2
    have lKu := Ku.lt
    have cKu0 := Ku.cell 0
    have cKu1 := Ku.cell 1
    have cKu2 := Ku.cell 2
    have lKt := Kt.lt
    have cKt0 := Kt.cell 0
    have cKt1 := Kt.cell 1
    have cKt2 := Kt.cell 2
    have lKe := Ke.lt
    have cKe0 := Ke.cell 0
    have cKe1 := Ke.cell 1
    have cKe2 := Ke.cell 2
    simp only [List.getElem?_toArray, List.getElem?_cons_succ, List.getElem?_cons_zero] at cJKk0 cJKk1 cJKk2 cJKk3 cJKp0 cJKp1 cJKp2 cJKs0 cJKs1 cJKs2 cJKr0 cJKr1 cJKr2 cJKf0 cJKf1 cJKf2 cJKf3 cJKn0 cJKn1 cJKn2 cJKn3 cKa0 cKa1 cKa2 cKb0 cKb1 cKb2 cKc0 cKc1 cKc2 cKd0 cKd1 cKd2 cKu0 cKu1 cKu2 cKt0 cKt1 cKt2 cKe0 cKe1 cKe2
    go_wp2_with fail
    have hst0 : Below w14.heap.size w14 (w14.alloc (.cells #[.int .i64 (W : Int), .int .i64 (H : Int), .slice (some ⟨gh, 0, none⟩) N fh] 30)) := by (repeat' (first | exact Below.refl _ _ | exact Below.refl _ _ | refine balloc ?_ _ | refine Below.drew ?_ | refine below_drewN ?_ _ | refine bset ?_ (by first | omega | (simp <;> omega)) _))
    refine (HPU.out _ _ _ _ HKB.out.1 HKB.out.2.1 HKB.out.2.2.1 H255.out _ _ _ _ _ _ _ (Hqh.out.below hst0) (HhR.out.below hst0)).mono ?_
    rintro e_ w15 ⟨go, fo, hgo, rfl, qo, hb⟩
    clear hgo
    have hst : Below w14.heap.size w14 w15 := btrans hst0 hb
    replace JKk := (JKk.alloc (.cells #[.int .i64 (W : Int), .int .i64 (H : Int), .slice (some ⟨gh, 0, none⟩) N fh] 30))
    replace JKp := (JKp.alloc (.cells #[.int .i64 (W : Int), .int .i64 (H : Int), .slice (some ⟨gh, 0, none⟩) N fh] 30))
    replace JKs := (JKs.alloc (.cells #[.int .i64 (W : Int), .int .i64 (H : Int), .slice (some ⟨gh, 0, none⟩) N fh] 30))
    replace JKr := (JKr.alloc (.cells #[.int .i64 (W : Int), .int .i64 (H : Int), .slice (some ⟨gh, 0, none⟩) N fh] 30))
    replace JKf := (JKf.alloc (.cells #[.int .i64 (W : Int), .int .i64 (H : Int), .slice (some ⟨gh, 0, none⟩) N fh] 30))
    replace JKn := (JKn.alloc (.cells #[.int .i64 (W : Int), .int .i64 (H : Int), .slice (some ⟨gh, 0, none⟩) N fh] 30))
    replace Ka := (Ka.alloc (.cells #[.int .i64 (W : Int), .int .i64 (H : Int), .slice (some ⟨gh, 0, none⟩) N fh] 30))
    replace Kb := (Kb.alloc (.cells #[.int .i64 (W : Int), .int .i64 (H : Int), .slice (some ⟨gh, 0, none⟩) N fh] 30))
    replace Kc := (Kc.alloc (.cells #[.int .i64 (W : Int), .int .i64 (H : Int), .slice (some ⟨gh, 0, none⟩) N fh] 30))
    replace Kd := (Kd.alloc (.cells #[.int .i64 (W : Int), .int .i64 (H : Int), .slice (some ⟨gh, 0, none⟩) N fh] 30))
    replace Ku := (Ku.alloc (.cells #[.int .i64 (W : Int), .int .i64 (H : Int), .slice (some ⟨gh, 0, none⟩) N fh] 30))
    replace Kt := (Kt.alloc (.cells #[.int .i64 (W : Int), .int .i64 (H : Int), .slice (some ⟨gh, 0, none⟩) N fh] 30))
    replace Ke := (Ke.alloc (.cells #[.int .i64 (W : Int), .int .i64 (H : Int), .slice (some ⟨gh, 0, none⟩) N fh] 30))
    have Kh := (Blk.new w14 30 #[.int .i64 (W : Int), .int .i64 (H : Int), .slice (some ⟨gh, 0, none⟩) N fh])
    replace JKk := JKk.below hb JKk.lt
    replace JKp := JKp.below hb JKp.lt
    replace JKs := JKs.below hb JKs.lt
    replace JKr := JKr.below hb JKr.lt
    replace JKf := JKf.below hb JKf.lt
    replace JKn := JKn.below hb JKn.lt
    replace Ka := Ka.below hb Ka.lt
    replace Kb := Kb.below hb Kb.lt
    replace Kc := Kc.below hb Kc.lt
    replace Kd := Kd.below hb Kd.lt
    replace Ku := Ku.below hb Ku.lt
    replace Kt := Kt.below hb Kt.lt
    replace Ke := Ke.below hb Ke.lt
    replace Kh := Kh.below hb Kh.lt
    replace hbw : Below w.heap.size w w15 := btrans hbw hst
    replace HI1 := Lib.hid (HI1.out.below hst)
    replace HI2 := Lib.hid (HI2.out.below hst)
    replace HI3 := Lib.hid (HI3.out.below hst)
    replace HhP := Lib.hid (HhP.out.below hst)
    replace HhS := Lib.hid (HhS.out.below hst)
    replace HhR := Lib.hid (HhR.out.below hst)
    replace Hqa := Lib.hid (Hqa.out.below hst)
    replace Hqb := Lib.hid (Hqb.out.below hst)
    replace Hqc := Lib.hid (Hqc.out.below hst)
    replace Hqd := Lib.hid (Hqd.out.below hst)
    replace Hqu := Lib.hid (Hqu.out.below hst)
    replace Hqt := Lib.hid (Hqt.out.below hst)
    replace Hqe := Lib.hid (Hqe.out.below hst)
    replace Hqh := Lib.hid (Hqh.out.below hst)
    clear hst hst0 hb lJKk cJKk0 cJKk1 cJKk2 cJKk3 lJKp cJKp0 cJKp1 cJKp2 lJKs cJKs0 cJKs1 cJKs2 lJKr cJKr0 cJKr1 cJKr2 lJKf cJKf0 cJKf1 cJKf2 cJKf3 lJKn cJKn0 cJKn1 cJKn2 cJKn3 lKa cKa0 cKa1 cKa2 lKb cKb0 cKb1 cKb2 lKc cKc0 cKc1 cKc2 lKd cKd0 cKd1 cKd2 lKu cKu0 cKu1 cKu2 lKt cKt0 cKt1 cKt2 lKe cKe0 cKe1 cKe2
    have Hqo := Lib.hid qo
    clear qo
    have lJKk := JKk.lt
    have cJKk0 := JKk.cell 0
    have cJKk1 := JKk.cell 1
    have cJKk2 := JKk.cell 2
    have cJKk3 := JKk.cell 3
    have lJKp := JKp.lt
    have cJKp0 := JKp.cell 0
    have cJKp1 := JKp.cell 1
    have cJKp2 := JKp.cell 2
    have lJKs := JKs.lt
    have cJKs0 := JKs.cell 0
    have cJKs1 := JKs.cell 1
    have cJKs2 := JKs.cell 2
    have lJKr := JKr.lt
    have cJKr0 := JKr.cell 0
    have cJKr1 := JKr.cell 1
    have cJKr2 := JKr.cell 2
    have lJKf := JKf.lt
    have cJKf0 := JKf.cell 0
    have cJKf1 := JKf.cell 1
    have cJKf2 := JKf.cell 2
    have cJKf3 := JKf.cell 3
    have lJKn := JKn.lt
    have cJKn0 := JKn.cell 0
    have cJKn1 := JKn.cell 1
    have cJKn2 := JKn.cell 2
    have cJKn3 := JKn.cell 3
    have lKa := Ka.lt
    have cKa0 := Ka.cell 0
    have cKa1 := Ka.cell 1
    have cKa2 := Ka.cell 2
    have lKb := Kb.lt
    have cKb0 := Kb.cell 0
    have cKb1 := Kb.cell 1
    have cKb2 := Kb.cell 2
    have lKc := Kc.lt
    have cKc0 := Kc.cell 0
    have cKc1 := Kc.cell 1
    have cKc2 := Kc.cell 2
    have lKd := Kd.lt
    have cKd0 := Kd.cell 0
    have cKd1 := Kd.cell 1
    have cKd2 := Kd.cell 2
    have lKu := Ku.lt
    have cKu0 := Ku.cell 0
    have cKu1 := Ku.cell 1
    have cKu2 := Ku.cell 2
    have lKt := Kt.lt
    have cKt0 := Kt.cell 0
    have cKt1 := Kt.cell 1
    have cKt2 := Kt.cell 2
    have lKe := Ke.lt
    have cKe0 := Ke.cell 0
    have cKe1 := Ke.cell 1
    have cKe2 := Ke.cell 2
    have lKh := Kh.lt
    have cKh0 := Kh.cell 0
    have cKh1 := Kh.cell 1
    have cKh2 := Kh.cell 2
    simp only [List.getElem?_toArray, List.getElem?_cons_succ, List.getElem?_cons_zero] at cJKk0 cJKk1 cJKk2 cJKk3 cJKp0 cJKp1 cJKp2 cJKs0 cJKs1 cJKs2 cJKr0 cJKr1 cJKr2 cJKf0 cJKf1 cJKf2 cJKf3 cJKn0 cJKn1 cJKn2 cJKn3 cKa0 cKa1 cKa2 cKb0 cKb1 cKb2 cKc0 cKc1 cKc2 cKd0 cKd1 cKd2 cKu0 cKu1 cKu2 cKt0 cKt1 cKt2 cKe0 cKe1 cKe2 cKh0 cKh1 cKh2
    go_wp2_with fail
    have hst0 : Below w15.heap.size w15 (w15.alloc (.cells #[.int .i64 (W : Int), .int .i64 (H : Int), .slice (some ⟨go, 0, none⟩) N fo] 30)) := by (repeat' (first | exact Below.refl _ _ | exact Below.refl _ _ | refine balloc ?_ _ | refine Below.drew ?_ | refine below_drewN ?_ _ | refine bset ?_ (by first | omega | (simp <;> omega)) _))
    refine (psame_yes _ _ _ _ _ _ _ _ _ _ (Hqc.out.below hst0) (Hqa.out.below hst0) (fun j hj => HF1.out R B j (HhP.out.bd j hj))).mono ?_
    rintro e_ w16 ⟨rfl, hb⟩
    have hst : Below w15.heap.size w15 w16 := btrans hst0 hb
    replace JKk := (JKk.alloc (.cells #[.int .i64 (W : Int), .int .i64 (H : Int), .slice (some ⟨go, 0, none⟩) N fo] 30))
    replace JKp := (JKp.alloc (.cells #[.int .i64 (W : Int), .int .i64 (H : Int), .slice (some ⟨go, 0, none⟩) N fo] 30))
    replace JKs := (JKs.alloc (.cells #[.int .i64 (W : Int), .int .i64 (H : Int), .slice (some ⟨go, 0, none⟩) N fo] 30))
    replace JKr := (JKr.alloc (.cells #[.int .i64 (W : Int), .int .i64 (H : Int), .slice (some ⟨go, 0, none⟩) N fo] 30))
    replace JKf := (JKf.alloc (.cells #[.int .i64 (W : Int), .int .i64 (H : Int), .slice (some ⟨go, 0, none⟩) N fo] 30))
    replace JKn := (JKn.alloc (.cells #[.int .i64 (W : Int), .int .i64 (H : Int), .slice (some ⟨go, 0, none⟩) N fo] 30))
    replace Ka := (Ka.alloc (.cells #[.int .i64 (W : Int), .int .i64 (H : Int), .slice (some ⟨go, 0, none⟩) N fo] 30))
    replace Kb := (Kb.alloc (.cells #[.int .i64 (W : Int), .int .i64 (H : Int), .slice (some ⟨go, 0, none⟩) N fo] 30))
    replace Kc := (Kc.alloc (.cells #[.int .i64 (W : Int), .int .i64 (H : Int), .slice (some ⟨go, 0, none⟩) N fo] 30))
    replace Kd := (Kd.alloc (.cells #[.int .i64 (W : Int), .int .i64 (H : Int), .slice (some ⟨go, 0, none⟩) N fo] 30))
    replace Ku := (Ku.alloc (.cells #[.int .i64 (W : Int), .int .i64 (H : Int), .slice (some ⟨go, 0, none⟩) N fo] 30))
    replace Kt := (Kt.alloc (.cells #[.int .i64 (W : Int), .int .i64 (H : Int), .slice (some ⟨go, 0, none⟩) N fo] 30))
    replace Ke := (Ke.alloc (.cells #[.int .i64 (W : Int), .int .i64 (H : Int), .slice (some ⟨go, 0, none⟩) N fo] 30))
    replace Kh := (Kh.alloc (.cells #[.int .i64 (W : Int), .int .i64 (H : Int), .slice (some ⟨go, 0, none⟩) N fo] 30))
    have Ko := (Blk.new w15 30 #[.int .i64 (W : Int), .int .i64 (H : Int), .slice (some ⟨go, 0, none⟩) N fo])
    replace JKk := JKk.below hb JKk.lt
    replace JKp := JKp.below hb JKp.lt
    replace JKs := JKs.below hb JKs.lt
    replace JKr := JKr.below hb JKr.lt
    replace JKf := JKf.below hb JKf.lt
    replace JKn := JKn.below hb JKn.lt
    replace Ka := Ka.below hb Ka.lt
    replace Kb := Kb.below hb Kb.lt
    replace Kc := Kc.below hb Kc.lt
    replace Kd := Kd.below hb Kd.lt
    replace Ku := Ku.below hb Ku.lt
    replace Kt := Kt.below hb Kt.lt
    replace Ke := Ke.below hb Ke.lt
    replace Kh := Kh.below hb Kh.lt
    replace Ko := Ko.below hb Ko.lt
    replace hbw : Below w.heap.size w w16 := btrans hbw hst
    replace HI1 := Lib.hid (HI1.out.below hst)
    replace HI2 := Lib.hid (HI2.out.below hst)
    replace HI3 := Lib.hid (HI3.out.below hst)
    replace HhP := Lib.hid (HhP.out.below hst)
    replace HhS := Lib.hid (HhS.out.below hst)
    replace HhR := Lib.hid (HhR.out.below hst)
    replace Hqa := Lib.hid (Hqa.out.below hst)
    replace Hqb := Lib.hid (Hqb.out.below hst)
    replace Hqc := Lib.hid (Hqc.out.below hst)
    replace Hqd := Lib.hid (Hqd.out.below hst)
    replace Hqu := Lib.hid (Hqu.out.below hst)
    replace Hqt := Lib.hid (Hqt.out.below hst)
    replace Hqe := Lib.hid (Hqe.out.below hst)
    replace Hqh := Lib.hid (Hqh.out.below hst)
    replace Hqo := Lib.hid (Hqo.out.below hst)
    clear hst hst0 hb lJKk cJKk0 cJKk1 cJKk2 cJKk3 lJKp cJKp0 cJKp1 cJKp2 lJKs cJKs0 cJKs1 cJKs2 lJKr cJKr0 cJKr1 cJKr2 lJKf cJKf0 cJKf1 cJKf2 cJKf3 lJKn cJKn0 cJKn1 cJKn2 cJKn3 lKa cKa0 cKa1 cKa2 lKb cKb0 cKb1 cKb2 lKc cKc0 cKc1 cKc2 lKd cKd0 cKd1 cKd2 lKu cKu0 cKu1 cKu2 lKt cKt0 cKt1 cKt2 lKe cKe0 cKe1 cKe2 lKh cKh0 cKh1 cKh2
    have lJKk := JKk.lt
    have cJKk0 := JKk.cell 0
    have cJKk1 := JKk.cell 1
    have cJKk2 := JKk.cell 2
    have cJKk3 := JKk.cell 3
    have lJKp := JKp.lt
    have cJKp0 := JKp.cell 0
    have cJKp1 := JKp.cell 1
    have cJKp2 := JKp.cell 2
    have lJKs := JKs.lt
    have cJKs0 := JKs.cell 0
    have cJKs1 := JKs.cell 1
    have cJKs2 := JKs.cell 2
    have lJKr := JKr.lt
    have cJKr0 := JKr.cell 0
    have cJKr1 := JKr.cell 1
    have cJKr2 := JKr.cell 2
    have lJKf := JKf.lt
    have cJKf0 := JKf.cell 0
    have cJKf1 := JKf.cell 1
    have cJKf2 := JKf.cell 2
    have cJKf3 := JKf.cell 3
    have lJKn := JKn.lt
    have cJKn0 := JKn.cell 0
    have cJKn1 := JKn.cell 1
    have cJKn2 := JKn.cell 2
    have cJKn3 := JKn.cell 3
    have lKa := Ka.lt
    have cKa0 := Ka.cell 0
    have cKa1 := Ka.cell 1
    have cKa2 := Ka.cell 2
    have lKb := Kb.lt
    have cKb0 := Kb.cell 0
    have cKb1 := Kb.cell 1
    have cKb2 := Kb.cell 2
    have lKc := Kc.lt
    have cKc0 := Kc.cell 0
    have cKc1 := Kc.cell 1
    have cKc2 := Kc.cell 2
    have lKd := Kd.lt
    have cKd0 := Kd.cell 0
    have cKd1 := Kd.cell 1
    have cKd2 := Kd.cell 2
    have lKu := Ku.lt
    have cKu0 := Ku.cell 0
    have cKu1 := Ku.cell 1
    have cKu2 := Ku.cell 2
    have lKt := Kt.lt
    have cKt0 := Kt.cell 0
    have cKt1 := Kt.cell 1
    have cKt2 := Kt.cell 2
    have lKe := Ke.lt
    have cKe0 := Ke.cell 0
    have cKe1 := Ke.cell 1
    have cKe2 := Ke.cell 2
    have lKh := Kh.lt
    have cKh0 := Kh.cell 0
    have cKh1 := Kh.cell 1
    have cKh2 := Kh.cell 2
    have lKo := Ko.lt
    have cKo0 := Ko.cell 0
    have cKo1 := Ko.cell 1
    have cKo2 := Ko.cell 2
    simp only [List.getElem?_toArray, List.getElem?_cons_succ, List.getElem?_cons_zero] at cJKk0 cJKk1 cJKk2 cJKk3 cJKp0 cJKp1 cJKp2 cJKs0 cJKs1 cJKs2 cJKr0 cJKr1 cJKr2 cJKf0 cJKf1 cJKf2 cJKf3 cJKn0 cJKn1 cJKn2 cJKn3 cKa0 cKa1 cKa2 cKb0 cKb1 cKb2 cKc0 cKc1 cKc2 cKd0 cKd1 cKd2 cKu0 cKu1 cKu2 cKt0 cKt1 cKt2 cKe0 cKe1 cKe2 cKh0 cKh1 cKh2 cKo0 cKo1 cKo2
    go_wp2_with fail
    have hst0 : Below w16.heap.size w16 w16 := by (repeat' (first | exact Below.refl _ _ | exact Below.refl _ _ | refine balloc ?_ _ | refine Below.drew ?_ | refine below_drewN ?_ _ | refine bset ?_ (by first | omega | (simp <;> omega)) _))
    refine (psame_yes _ _ _ _ _ _ _ _ _ _ (Hqd.out.below hst0) (HhP.out.below hst0) (fun j hj => HF3.out R B j (HhP.out.bd j hj))).mono ?_
    rintro e_ w17 ⟨rfl, hb⟩
    have hst : Below w16.heap.size w16 w17 := btrans hst0 hb
    replace JKk := JKk.below hb JKk.lt
    replace JKp := JKp.below hb JKp.lt
    replace JKs := JKs.below hb JKs.lt
    replace JKr := JKr.below hb JKr.lt
    replace JKf := JKf.below hb JKf.lt
    replace JKn := JKn.below hb JKn.lt
    replace Ka := Ka.below hb Ka.lt
    replace Kb := Kb.below hb Kb.lt
    replace Kc := Kc.below hb Kc.lt
    replace Kd := Kd.below hb Kd.lt
    replace Ku := Ku.below hb Ku.lt
    replace Kt := Kt.below hb Kt.lt
    replace Ke := Ke.below hb Ke.lt
    replace Kh := Kh.below hb Kh.lt
    replace Ko := Ko.below hb Ko.lt
    replace hbw : Below w.heap.size w w17 := btrans hbw hst
    replace HI1 := Lib.hid (HI1.out.below hst)
    replace HI2 := Lib.hid (HI2.out.below hst)
    replace HI3 := Lib.hid (HI3.out.below hst)
    replace HhP := Lib.hid (HhP.out.below hst)
    replace HhS := Lib.hid (HhS.out.below hst)
    replace HhR := Lib.hid (HhR.out.below hst)
    replace Hqa := Lib.hid (Hqa.out.below hst)
    replace Hqb := Lib.hid (Hqb.out.below hst)
    replace Hqc := Lib.hid (Hqc.out.below hst)
    replace Hqd := Lib.hid (Hqd.out.below hst)
    replace Hqu := Lib.hid (Hqu.out.below hst)
    replace Hqt := Lib.hid (Hqt.out.below hst)
    replace Hqe := Lib.hid (Hqe.out.below hst)
    replace Hqh := Lib.hid (Hqh.out.below hst)
    replace Hqo := Lib.hid (Hqo.out.below hst)
    clear hst hst0 hb lJKk cJKk0 cJKk1 cJKk2 cJKk3 lJKp cJKp0 cJKp1 cJKp2 lJKs cJKs0 cJKs1 cJKs2 lJKr cJKr0 cJKr1 cJKr2 lJKf cJKf0 cJKf1 cJKf2 cJKf3 lJKn cJKn0 cJKn1 cJKn2 cJKn3 lKa cKa0 cKa1 cKa2 lKb cKb0 cKb1 cKb2 lKc cKc0 cKc1 cKc2 lKd cKd0 cKd1 cKd2 lKu cKu0 cKu1 cKu2 lKt cKt0 cKt1 cKt2 lKe cKe0 cKe1 cKe2 lKh cKh0 cKh1 cKh2 lKo cKo0 cKo1 cKo2
    have lJKk := JKk.lt
    have cJKk0 := JKk.cell 0
    have cJKk1 := JKk.cell 1
    have cJKk2 := JKk.cell 2
    have cJKk3 := JKk.cell 3
    have lJKp := JKp.lt
    have cJKp0 := JKp.cell 0
    have cJKp1 := JKp.cell 1
    have cJKp2 := JKp.cell 2
    have lJKs := JKs.lt
    have cJKs0 := JKs.cell 0
    have cJKs1 := JKs.cell 1
    have cJKs2 := JKs.cell 2
    have lJKr := JKr.lt
    have cJKr0 := JKr.cell 0
    have cJKr1 := JKr.cell 1
    have cJKr2 := JKr.cell 2
    have lJKf := JKf.lt
    have cJKf0 := JKf.cell 0
    have cJKf1 := JKf.cell 1
    have cJKf2 := JKf.cell 2
    have cJKf3 := JKf.cell 3
    have lJKn := JKn.lt
    have cJKn0 := JKn.cell 0
    have cJKn1 := JKn.cell 1
    have cJKn2 := JKn.cell 2
    have cJKn3 := JKn.cell 3
    have lKa := Ka.lt
    have cKa0 := Ka.cell 0
    have cKa1 := Ka.cell 1
    have cKa2 := Ka.cell 2
    have lKb := Kb.lt
    have cKb0 := Kb.cell 0
    have cKb1 := Kb.cell 1
    have cKb2 := Kb.cell 2
    have lKc := Kc.lt
    have cKc0 := Kc.cell 0
    have cKc1 := Kc.cell 1
    have cKc2 := Kc.cell 2
    have lKd := Kd.lt
    have cKd0 := Kd.cell 0
    have cKd1 := Kd.cell 1
    have cKd2 := Kd.cell 2
    have lKu := Ku.lt
    have cKu0 := Ku.cell 0
    have cKu1 := Ku.cell 1
    have cKu2 := Ku.cell 2
    have lKt := Kt.lt
    have cKt0 := Kt.cell 0
    have cKt1 := Kt.cell 1
    have cKt2 := Kt.cell 2
    have lKe := Ke.lt
    have cKe0 := Ke.cell 0
    have cKe1 := Ke.cell 1
    have cKe2 := Ke.cell 2
    have lKh := Kh.lt
    have cKh0 := Kh.cell 0
    have cKh1 := Kh.cell 1
    have cKh2 := Kh.cell 2
    have lKo := Ko.lt
    have cKo0 := Ko.cell 0
    have cKo1 := Ko.cell 1
    have cKo2 := Ko.cell 2
    simp only [List.getElem?_toArray, List.getElem?_cons_succ, List.getElem?_cons_zero] at cJKk0 cJKk1 cJKk2 cJKk3 cJKp0 cJKp1 cJKp2 cJKs0 cJKs1 cJKs2 cJKr0 cJKr1 cJKr2 cJKf0 cJKf1 cJKf2 cJKf3 cJKn0 cJKn1 cJKn2 cJKn3 cKa0 cKa1 cKa2 cKb0 cKb1 cKb2 cKc0 cKc1 cKc2 cKd0 cKd1 cKd2 cKu0 cKu1 cKu2 cKt0 cKt1 cKt2 cKe0 cKe1 cKe2 cKh0 cKh1 cKh2 cKo0 cKo1 cKo2
    go_wp2_with fail
    have hst0 : Below w17.heap.size w17 w17 := by (repeat' (first | exact Below.refl _ _ | exact Below.refl _ _ | refine balloc ?_ _ | refine Below.drew ?_ | refine below_drewN ?_ _ | refine bset ?_ (by first | omega | (simp <;> omega)) _))
    refine (HRS.out _ _ _ _ _ _ _ (Hqu.out.below hst0) (Hqe.out.below hst0) (fun j hj i hi => HF4.out R B C (fun t ht => HhP.out.bd t (by have := HNN.out; omega)) (fun t ht => HhS.out.bd t (by have := HNN.out; omega)) j hj i hi)).mono ?_
    rintro e_ w18 ⟨rfl, hb⟩
    have hst : Below w17.heap.size w17 w18 := btrans hst0 hb
    replace JKk := JKk.below hb JKk.lt
    replace JKp := JKp.below hb JKp.lt
    replace JKs := JKs.below hb JKs.lt
    replace JKr := JKr.below hb JKr.lt
    replace JKf := JKf.below hb JKf.lt
    replace JKn := JKn.below hb JKn.lt
    replace Ka := Ka.below hb Ka.lt
    replace Kb := Kb.below hb Kb.lt
    replace Kc := Kc.below hb Kc.lt
    replace Kd := Kd.below hb Kd.lt
    replace Ku := Ku.below hb Ku.lt
    replace Kt := Kt.below hb Kt.lt
    replace Ke := Ke.below hb Ke.lt
    replace Kh := Kh.below hb Kh.lt
    replace Ko := Ko.below hb Ko.lt
    replace hbw : Below w.heap.size w w18 := btrans hbw hst
    replace HI1 := Lib.hid (HI1.out.below hst)
    replace HI2 := Lib.hid (HI2.out.below hst)
    replace HI3 := Lib.hid (HI3.out.below hst)
    replace HhP := Lib.hid (HhP.out.below hst)
    replace HhS := Lib.hid (HhS.out.below hst)
    replace HhR := Lib.hid (HhR.out.below hst)
    replace Hqa := Lib.hid (Hqa.out.below hst)
    replace Hqb := Lib.hid (Hqb.out.below hst)
    replace Hqc := Lib.hid (Hqc.out.below hst)
    replace Hqd := Lib.hid (Hqd.out.below hst)
    replace Hqu := Lib.hid (Hqu.out.below hst)
    replace Hqt := Lib.hid (Hqt.out.below hst)
    replace Hqe := Lib.hid (Hqe.out.below hst)
    replace Hqh := Lib.hid (Hqh.out.below hst)
    replace Hqo := Lib.hid (Hqo.out.below hst)
    clear hst hst0 hb lJKk cJKk0 cJKk1 cJKk2 cJKk3 lJKp cJKp0 cJKp1 cJKp2 lJKs cJKs0 cJKs1 cJKs2 lJKr cJKr0 cJKr1 cJKr2 lJKf cJKf0 cJKf1 cJKf2 cJKf3 lJKn cJKn0 cJKn1 cJKn2 cJKn3 lKa cKa0 cKa1 cKa2 lKb cKb0 cKb1 cKb2 lKc cKc0 cKc1 cKc2 lKd cKd0 cKd1 cKd2 lKu cKu0 cKu1 cKu2 lKt cKt0 cKt1 cKt2 lKe cKe0 cKe1 cKe2 lKh cKh0 cKh1 cKh2 lKo cKo0 cKo1 cKo2
    have lJKk := JKk.lt
    have cJKk0 := JKk.cell 0
    have cJKk1 := JKk.cell 1
    have cJKk2 := JKk.cell 2
    have cJKk3 := JKk.cell 3
    have lJKp := JKp.lt
    have cJKp0 := JKp.cell 0
    have cJKp1 := JKp.cell 1
    have cJKp2 := JKp.cell 2
    have lJKs := JKs.lt
    have cJKs0 := JKs.cell 0
    have cJKs1 := JKs.cell 1
    have cJKs2 := JKs.cell 2
    have lJKr := JKr.lt
    have cJKr0 := JKr.cell 0
    have cJKr1 := JKr.cell 1
    have cJKr2 := JKr.cell 2
    have lJKf := JKf.lt
    have cJKf0 := JKf.cell 0
    have cJKf1 := JKf.cell 1
    have cJKf2 := JKf.cell 2
    have cJKf3 := JKf.cell 3
    have lJKn := JKn.lt
    have cJKn0 := JKn.cell 0
    have cJKn1 := JKn.cell 1
    have cJKn2 := JKn.cell 2
    have cJKn3 := JKn.cell 3
    have lKa := Ka.lt
    have cKa0 := Ka.cell 0
    have cKa1 := Ka.cell 1
    have cKa2 := Ka.cell 2
    have lKb := Kb.lt
    have cKb0 := Kb.cell 0
    have cKb1 := Kb.cell 1
    have cKb2 := Kb.cell 2
    have lKc := Kc.lt
    have cKc0 := Kc.cell 0
    have cKc1 := Kc.cell 1
    have cKc2 := Kc.cell 2
    have lKd := Kd.lt
    have cKd0 := Kd.cell 0
    have cKd1 := Kd.cell 1
    have cKd2 := Kd.cell 2
    have lKu := Ku.lt
    have cKu0 := Ku.cell 0
    have cKu1 := Ku.cell 1
    have cKu2 := Ku.cell 2
    have lKt := Kt.lt
    have cKt0 := Kt.cell 0
    have cKt1 := Kt.cell 1
    have cKt2 := Kt.cell 2
    have lKe := Ke.lt
    have cKe0 := Ke.cell 0
    have cKe1 := Ke.cell 1
    have cKe2 := Ke.cell 2
    have lKh := Kh.lt
    have cKh0 := Kh.cell 0
    have cKh1 := Kh.cell 1
    have cKh2 := Kh.cell 2
    have lKo := Ko.lt
    have cKo0 := Ko.cell 0
    have cKo1 := Ko.cell 1
    have cKo2 := Ko.cell 2
    simp only [List.getElem?_toArray, List.getElem?_cons_succ, List.getElem?_cons_zero] at cJKk0 cJKk1 cJKk2 cJKk3 cJKp0 cJKp1 cJKp2 cJKs0 cJKs1 cJKs2 cJKr0 cJKr1 cJKr2 cJKf0 cJKf1 cJKf2 cJKf3 cJKn0 cJKn1 cJKn2 cJKn3 cKa0 cKa1 cKa2 cKb0 cKb1 cKb2 cKc0 cKc1 cKc2 cKd0 cKd1 cKd2 cKu0 cKu1 cKu2 cKt0 cKt1 cKt2 cKe0 cKe1 cKe2 cKh0 cKh1 cKh2 cKo0 cKo1 cKo2
    go_wp2_with fail
    have hst0 : Below w18.heap.size w18 w18 := by (repeat' (first | exact Below.refl _ _ | exact Below.refl _ _ | refine balloc ?_ _ | refine Below.drew ?_ | refine below_drewN ?_ _ | refine bset ?_ (by first | omega | (simp <;> omega)) _))
    refine (psame_yes _ _ _ _ _ _ _ _ _ _ (Hqo.out.below hst0) (Hqa.out.below hst0) (fun j hj => HF2.out R B j (HhP.out.bd j hj))).mono ?_
    rintro e_ w19 ⟨rfl, hb⟩
    have hst : Below w18.heap.size w18 w19 := btrans hst0 hb
    replace JKk := JKk.below hb JKk.lt
    replace JKp := JKp.below hb JKp.lt
    replace JKs := JKs.below hb JKs.lt
    replace JKr := JKr.below hb JKr.lt
    replace JKf := JKf.below hb JKf.lt
    replace JKn := JKn.below hb JKn.lt
    replace Ka := Ka.below hb Ka.lt
    replace Kb := Kb.below hb Kb.lt
    replace Kc := Kc.below hb Kc.lt
    replace Kd := Kd.below hb Kd.lt
    replace Ku := Ku.below hb Ku.lt
    replace Kt := Kt.below hb Kt.lt
    replace Ke := Ke.below hb Ke.lt
    replace Kh := Kh.below hb Kh.lt
    replace Ko := Ko.below hb Ko.lt
    replace hbw : Below w.heap.size w w19 := btrans hbw hst
    replace HI1 := Lib.hid (HI1.out.below hst)
    replace HI2 := Lib.hid (HI2.out.below hst)
    replace HI3 := Lib.hid (HI3.out.below hst)
    replace HhP := Lib.hid (HhP.out.below hst)
    replace HhS := Lib.hid (HhS.out.below hst)
    replace HhR := Lib.hid (HhR.out.below hst)
    replace Hqa := Lib.hid (Hqa.out.below hst)
    replace Hqb := Lib.hid (Hqb.out.below hst)
    replace Hqc := Lib.hid (Hqc.out.below hst)
    replace Hqd := Lib.hid (Hqd.out.below hst)
    replace Hqu := Lib.hid (Hqu.out.below hst)
    replace Hqt := Lib.hid (Hqt.out.below hst)
    replace Hqe := Lib.hid (Hqe.out.below hst)
    replace Hqh := Lib.hid (Hqh.out.below hst)
    replace Hqo := Lib.hid (Hqo.out.below hst)
    clear hst hst0 hb lJKk cJKk0 cJKk1 cJKk2 cJKk3 lJKp cJKp0 cJKp1 cJKp2 lJKs cJKs0 cJKs1 cJKs2 lJKr cJKr0 cJKr1 cJKr2 lJKf cJKf0 cJKf1 cJKf2 cJKf3 lJKn cJKn0 cJKn1 cJKn2 cJKn3 lKa cKa0 cKa1 cKa2 lKb cKb0 cKb1 cKb2 lKc cKc0 cKc1 cKc2 lKd cKd0 cKd1 cKd2 lKu cKu0 cKu1 cKu2 lKt cKt0 cKt1 cKt2 lKe cKe0 cKe1 cKe2 lKh cKh0 cKh1 cKh2 lKo cKo0 cKo1 cKo2
    have lJKk := JKk.lt
    have cJKk0 := JKk.cell 0
    have cJKk1 := JKk.cell 1
    have cJKk2 := JKk.cell 2
    have cJKk3 := JKk.cell 3
    have lJKp := JKp.lt
    have cJKp0 := JKp.cell 0
    have cJKp1 := JKp.cell 1
    have cJKp2 := JKp.cell 2
    have lJKs := JKs.lt
    have cJKs0 := JKs.cell 0
    have cJKs1 := JKs.cell 1
    have cJKs2 := JKs.cell 2
    have lJKr := JKr.lt
    have cJKr0 := JKr.cell 0
    have cJKr1 := JKr.cell 1
    have cJKr2 := JKr.cell 2
    have lJKf := JKf.lt
    have cJKf0 := JKf.cell 0
    have cJKf1 := JKf.cell 1
    have cJKf2 := JKf.cell 2
    have cJKf3 := JKf.cell 3
    have lJKn := JKn.lt
    have cJKn0 := JKn.cell 0
    have cJKn1 := JKn.cell 1
    have cJKn2 := JKn.cell 2
    have cJKn3 := JKn.cell 3
    have lKa := Ka.lt
    have cKa0 := Ka.cell 0
    have cKa1 := Ka.cell 1
    have cKa2 := Ka.cell 2
    have lKb := Kb.lt
    have cKb0 := Kb.cell 0
    have cKb1 := Kb.cell 1
    have cKb2 := Kb.cell 2
    have lKc := Kc.lt
    have cKc0 := Kc.cell 0
    have cKc1 := Kc.cell 1
    have cKc2 := Kc.cell 2
    have lKd := Kd.lt
    have cKd0 := Kd.cell 0
    have cKd1 := Kd.cell 1
    have cKd2 := Kd.cell 2
    have lKu := Ku.lt
    have cKu0 := Ku.cell 0
    have cKu1 := Ku.cell 1
    have cKu2 := Ku.cell 2
    have lKt := Kt.lt
    have cKt0 := Kt.cell 0
    have cKt1 := Kt.cell 1
    have cKt2 := Kt.cell 2
    have lKe := Ke.lt
    have cKe0 := Ke.cell 0
    have cKe1 := Ke.cell 1
    have cKe2 := Ke.cell 2
    have lKh := Kh.lt
    have cKh0 := Kh.cell 0
    have cKh1 := Kh.cell 1
    have cKh2 := Kh.cell 2
    have lKo := Ko.lt
    have cKo0 := Ko.cell 0
    have cKo1 := Ko.cell 1
    have cKo2 := Ko.cell 2
    simp only [List.getElem?_toArray, List.getElem?_cons_succ, List.getElem?_cons_zero] at cJKk0 cJKk1 cJKk2 cJKk3 cJKp0 cJKp1 cJKp2 cJKs0 cJKs1 cJKs2 cJKr0 cJKr1 cJKr2 cJKf0 cJKf1 cJKf2 cJKf3 cJKn0 cJKn1 cJKn2 cJKn3 cKa0 cKa1 cKa2 cKb0 cKb1 cKb2 cKc0 cKc1 cKc2 cKd0 cKd1 cKd2 cKu0 cKu1 cKu2 cKt0 cKt1 cKt2 cKe0 cKe1 cKe2 cKh0 cKh1 cKh2 cKo0 cKo1 cKo2
    go_wp2_with fail
    go_ret
    exact ⟨rfl, hbw⟩
end Go.Proofs.Ytmjpmeigfdgioaa.rg
