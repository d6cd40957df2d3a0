/-
  InkMade: for pages and regions by numbers Put returns what the reference returns: the Blend of the three bytes at the pixels of the region and nothing else.
-/
import Derived.Test.YtmjpmeigfdgioaaLawSides
import Derived.Test.YtmjpmeigfdgioaaRefPutL
import Derived.Test.YtmjpmeigfdgioaaUnlike
import Derived.Test.YtmjpmeigfdgioaaLay
import Derived.Test.YtmjpmeigfdgioaaRHas
import Derived.Test.YtmjpmeigfdgioaaUpAlloc
namespace Go.Proofs.Ytmjpmeigfdgioaa.rg
set_option linter.unusedVariables false
set_option linter.unusedSimpArgs false
open Go.RowKit bs sp ik op

theorem Pg.bytes {w : World} {A : Option Addr} {n c : Nat} {B : Nat → Int} (h : Pg w A n c B) : Bytes w A n c (listB n B) := by
  obtain ⟨h1, b, o, e, hlt, hc⟩ := h
  refine ⟨listB_len n B, h1, fun hn => ⟨b, o, e, hlt, fun j hj => ?_⟩⟩
  have hj' : j < n := by rw [listB_len] at hj; exact hj
  rw [(hc j hj').1, listB_get n B j hj (hc j hj').2]
theorem listB_getD (n : Nat) (B : Nat → Int) (j : Nat) (h : j < n) (hb : 0 ≤ B j ∧ B j ≤ 255) : (((listB n B).getD j 0).toNat : Int) = B j := by
  have hl : j < (listB n B).length := by rw [listB_len]; exact h
  rw [List.getD_eq_getElem?_getD, List.getElem?_eq_getElem hl]
  exact listB_get n B j hl hb
theorem at_pg (W H N c i j : Nat) (A : Option Addr) (B : Nat → Int) (w : World) (hW : 1 ≤ W ∧ W ≤ 64) (hH : 1 ≤ H ∧ H ≤ 64) (hN : N = 3 * (W * H)) (hp : Pg w A N c B) (hi : i < W) (hj : j < H) :
    Calls Try.prog 22 #[.agg #[.int .i64 (W : Int), .int .i64 (H : Int), .slice A N c], .int .i64 (i : Int), .int .i64 (j : Int)] w fun e w' =>
      e = .returned (.tuple #[.agg #[.int .u8 (B (3 * (j * W + i))), .int .u8 (B (3 * (j * W + i) + 1)), .int .u8 (B (3 * (j * W + i) + 2)), .int .u8 255], .bool true]) ∧ Below w.heap.size w w' := by
  have hpx := pix_in hj hi
  rw [← hN] at hpx
  have hm := pmay_yes hW hH
  rw [← hN] at hm
  refine (at_yes (W : Int) (H : Int) A N c (listB N B) i j w hp.bytes hm (by omega) (by omega)).mono ?_
  rintro e w' ⟨he, hb⟩
  refine ⟨?_, hb⟩
  rw [he, Int.toNat_natCast, listB_getD N B _ (by omega) (hp.bd _ (by omega)), listB_getD N B _ (by omega) (hp.bd _ (by omega)), listB_getD N B _ (by omega) (hp.bd _ (by omega))]
theorem has_nat (A : Option Addr) (n c i : Nat) (l : List (Int × Int)) (w : World) (hr : Runs w A n c l) (hn : n ≤ 9223372036854775807) (hi : i < 64) :
    Calls Try.prog 45 #[.slice A n c, .int .i64 (i : Int)] w fun e w' => e = .returned (.bool (inRuns l i)) ∧ Below w.heap.size w w' := by
  have h := has_any A n c l (i : Int) w hr hn
  rw [show hasB l (i : Int) = inRuns l i by unfold hasB; simp; intros; omega] at h
  exact h
/-- a pixel behind Put -/
theorem putB_pix (W : Nat) (R : Nat → Nat → Bool) (x y z a : Int) (B : Nat → Int) (j i : Nat) (hi : i < W) (t : Nat) (ht : t < 3) :
    putB W R x y z a B (3 * (j * W + i) + t) = if R j i = true then blend (B (3 * (j * W + i) + t)) (chan x y z t) a else B (3 * (j * W + i) + t) := by
  obtain ⟨e1, e2⟩ := pix_of (j := j) hi
  unfold putB
  rw [show (3 * (j * W + i) + t) / 3 = j * W + i by omega, e1, e2, show (3 * (j * W + i) + t) % 3 = t by omega]
theorem put_rest (W : Nat) (R : Nat → Nat → Bool) (x y z a : Int) (B : Nat → Int) (j i : Nat) (hi : i < W) : (dif B (putB W R x y z a B) (j * W + i) && !(R j i)) = false := by
  by_cases h : R j i = true
  · rw [h]; simp
  · have e : ∀ t, t < 3 → putB W R x y z a B (3 * (j * W + i) + t) = B (3 * (j * W + i) + t) := fun t ht => by rw [putB_pix W R x y z a B j i hi t ht, if_neg h]
    have e0 := e 0 (by omega)
    rw [Nat.add_zero] at e0
    unfold dif
    rw [e0, e 1 (by omega), e 2 (by omega)]
    simp
/-- what the law's inner round asks of one pixel -/
theorem pix_facts (W H N ca cb i j : Nat) (A D : Option Addr) (R : Nat → Nat → Bool) (B : Nat → Int) (k0 k1 k2 k3 : Int) (w : World) (hW : 1 ≤ W ∧ W ≤ 64) (hH : 1 ≤ H ∧ H ≤ 64) (hN : N = 3 * (W * H)) (hp : Pg w A N ca B) (hi : i < W) (hj : j < H) :
    ∃ v0 v1 v2 : Int, ((0 ≤ v0 ∧ v0 ≤ 255) ∧ (0 ≤ v1 ∧ v1 ≤ 255) ∧ (0 ≤ v2 ∧ v2 ≤ 255)) ∧
      (∀ u, Pg u A N ca B → Calls Try.prog 22 #[.agg #[.int .i64 (W : Int), .int .i64 (H : Int), .slice A N ca], .int .i64 (i : Int), .int .i64 (j : Int)] u fun e w' => e = .returned (.tuple #[.agg #[.int .u8 v0, .int .u8 v1, .int .u8 v2, .int .u8 255], .bool true]) ∧ Below u.heap.size u w') ∧
      ((R j i = false ∧ ∀ u, Pg u D N cb (putB W R k0 k1 k2 k3 B) → Calls Try.prog 22 #[.agg #[.int .i64 (W : Int), .int .i64 (H : Int), .slice D N cb], .int .i64 (i : Int), .int .i64 (j : Int)] u fun e w' => e = .returned (.tuple #[.agg #[.int .u8 v0, .int .u8 v1, .int .u8 v2, .int .u8 255], .bool true]) ∧ Below u.heap.size u w') ∨
       (R j i = true ∧ ∀ u, Pg u D N cb (putB W R k0 k1 k2 k3 B) → Calls Try.prog 22 #[.agg #[.int .i64 (W : Int), .int .i64 (H : Int), .slice D N cb], .int .i64 (i : Int), .int .i64 (j : Int)] u fun e w' => e = .returned (.tuple #[.agg #[.int .u8 (blend v0 k0 k3), .int .u8 (blend v1 k1 k3), .int .u8 (blend v2 k2 k3), .int .u8 255], .bool true]) ∧ Below u.heap.size u w')) := by
  have hpx := pix_in hj hi
  rw [← hN] at hpx
  have x0 := putB_pix W R k0 k1 k2 k3 B j i hi 0 (by decide)
  have x1 := putB_pix W R k0 k1 k2 k3 B j i hi 1 (by decide)
  have x2 := putB_pix W R k0 k1 k2 k3 B j i hi 2 (by decide)
  rw [Nat.add_zero] at x0
  refine ⟨_, _, _, ⟨hp.bd (3 * (j * W + i)) (by omega), hp.bd (3 * (j * W + i) + 1) (by omega), hp.bd (3 * (j * W + i) + 2) (by omega)⟩, fun u h => at_pg W H N ca i j A B u hW hH hN h hi hj, ?_⟩
  by_cases hR : R j i = true
  · right
    refine ⟨hR, fun u h => ?_⟩
    have h2 := at_pg W H N cb i j D _ u hW hH hN h hi hj
    rw [x0, x1, x2, if_pos hR, if_pos hR, if_pos hR] at h2
    exact h2
  · left
    refine ⟨by simpa using hR, fun u h => ?_⟩
    have h2 := at_pg W H N cb i j D _ u hW hH hN h hi hj
    rw [x0, x1, x2, if_neg hR, if_neg hR, if_neg hR] at h2
    exact h2
set_option maxRecDepth 100000 in
set_option maxHeartbeats 12800000 in
theorem inkmade_law (A1 : Option Addr) (n1 c1 : Nat) (ns1 : Nat → Int) (A2 : Option Addr) (n2 c2 : Nat) (ns2 : Nat → Int) (x y k0 k1 k2 k3 : Int) (w : World) (hr1 : Ints w A1 n1 c1 ns1) (hn1 : n1 ≤ 9223372036854775807) (hr2 : Ints w A2 n2 c2 ns2) (hn2 : n2 ≤ 9223372036854775807) (_hx : -9223372036854775808 ≤ x ∧ x ≤ 9223372036854775807) (_hy : -9223372036854775808 ≤ y ∧ y ≤ 9223372036854775807) (hk0 : 0 ≤ k0 ∧ k0 ≤ 255) (hk1 : 0 ≤ k1 ∧ k1 ≤ 255) (hk2 : 0 ≤ k2 ∧ k2 ≤ 255) (hk3 : 0 ≤ k3 ∧ k3 ≤ 255) :
    Calls Try.prog 6 #[.slice A1 n1 c1, .slice A2 n2 c2, .int .i64 x, .int .i64 y, .agg #[.int .u8 k0, .int .u8 k1, .int .u8 k2, .int .u8 k3]] w fun ed w' => ed = .returned (.bool true) ∧ Below w.heap.size w w' := by
  obtain ⟨W, hW, hSW⟩ := lside_fix x
  obtain ⟨H, hH, hSH⟩ := lside_fix y
  have HSW := Lib.hid hSW
  have HSH := Lib.hid hSH
  obtain ⟨N, hN⟩ : ∃ N, N = 3 * (W * H) := ⟨_, rfl⟩
  have HPG := Lib.hid (fun W' h => lpage_any A1 n1 c1 ns1 W H N W' h hn1 hW hH hN)
  have HM2 := Lib.hid (fun W' h => lmade_any A2 n2 c2 ns2 W H W' h hn2 hW hH)
  have HPU := Lib.hid (fun c d A D R B W' hp hr => put_any W H N c d A D R k0 k1 k2 k3 B W' hW hH hN hk0 hk1 hk2 hk3 hp hr)
  have HPR := Lib.hid (fun c d A D R B W' hp hr => rput36_any W H N c d A D R k0 k1 k2 k3 B W' hW hH hN hk0 hk1 hk2 hk3 hp hr)
  have HUN := Lib.hid (fun c d A D B C W' hp hq => unlike_any W H N c d A D B C W' hW hH hN hp hq)
  have HLE := Lib.hid (fun c d A B R S W' ha hb => rless_any W H c d A B R S W' hW hH ha hb)
  have HCO := Lib.hid (fun d D R W' hr h => rcount_zero W H d D R W' hW hH hr h)
  have HMY := Lib.hid (fun c A W' => inkmay_yes W H N c A W' hW hH hN)
  have HS2 := Lib.hid (fun B R j (hj : j < H) i (hi : i < W) => put_rest W R k0 k1 k2 k3 B j i hi)
  have HAT := Lib.hid (fun ca cb A D R B i j W' hp (hi : i < W) (hj : j < H) => pix_facts W H N ca cb i j A D R B k0 k1 k2 k3 W' hW hH hN hp hi hj)
  have HHS := Lib.hid (fun d D R i j W' hr (hi : i < W) (hj : j < H) => rhas_in W H d i j D R W' hW hH hr hi hj (fun A n c l W' h hn => has_nat A n c i l W' h hn (by omega)))
  have HPX := Lib.hid (fun (R : Nat → Nat → Bool) B j i (hi : i < W) t (ht : t < 3) => putB_pix W R k0 k1 k2 k3 B j i hi t ht)
  have HBB := Lib.hid (fun u o W' hu ho => blend_any u o k3 W' hu ho hk3)
  have HKB := Lib.hid (And.intro hk0 (And.intro hk1 (And.intro hk2 hk3)))
  have HNN := Lib.hid hN
  have HI1 := Lib.hid hr1
  have HI2 := Lib.hid hr2
  obtain ⟨hW0, hW1⟩ := hW
  obtain ⟨hH0, hH1⟩ := hH
  clear hSW hSH hN hr1 hr2 hn1 hn2 _hx _hy hk0 hk1 hk2 hk3
  go_enter Try.func6, Try.ntmps6
  go_wp2_with fail
  have hst0 : Below w.heap.size w (w.alloc (.cells #[.int .u8 k0, .int .u8 k1, .int .u8 k2, .int .u8 k3] 27)) := by (repeat' (first | exact Below.refl _ _ | exact Below.refl _ _ | refine balloc ?_ _ | refine Below.drew ?_ | refine below_drewN ?_ _ | refine bset ?_ (by first | omega | (simp <;> omega)) _))
  refine (known_any _).mono ?_
  rintro e_ w1 ⟨rfl, hb⟩
  have hst : Below w.heap.size w w1 := btrans hst0 hb
  have Kk := (Blk.new w 27 #[.int .u8 k0, .int .u8 k1, .int .u8 k2, .int .u8 k3])
  replace Kk := Kk.below hb Kk.lt
  have hbw : Below w.heap.size w w1 := hst
  replace HI1 := Lib.hid (HI1.out.below hst)
  replace HI2 := Lib.hid (HI2.out.below hst)
  clear hst hst0 hb 
  have lKk := Kk.lt
  have cKk0 := Kk.cell 0
  have cKk1 := Kk.cell 1
  have cKk2 := Kk.cell 2
  have cKk3 := Kk.cell 3
  simp only [List.getElem?_toArray, List.getElem?_cons_succ, List.getElem?_cons_zero] at cKk0 cKk1 cKk2 cKk3
  go_wp2_with (go_at_call 11; first | (refine (HSW.out _).mono ?_; rintro e_ w_ ⟨rfl, rfl⟩) | (refine (HSH.out _).mono ?_; rintro e_ w_ ⟨rfl, rfl⟩))
  have hst0 : Below w1.heap.size w1 w1 := by (repeat' (first | exact Below.refl _ _ | exact Below.refl _ _ | refine balloc ?_ _ | refine Below.drew ?_ | refine below_drewN ?_ _ | refine bset ?_ (by first | omega | (simp <;> omega)) _))
  refine (HPG.out _ (HI1.out.below hst0)).mono ?_
  rintro e_ w2 ⟨gp, B, rfl, hP, hb⟩
  have hst : Below w1.heap.size w1 w2 := btrans hst0 hb
  replace Kk := Kk.below hb Kk.lt
  replace hbw : Below w.heap.size w w2 := btrans hbw hst
  replace HI1 := Lib.hid (HI1.out.below hst)
  replace HI2 := Lib.hid (HI2.out.below hst)
  clear hst hst0 hb lKk cKk0 cKk1 cKk2 cKk3
  have HhP := Lib.hid hP
  clear hP
  have lKk := Kk.lt
  have cKk0 := Kk.cell 0
  have cKk1 := Kk.cell 1
  have cKk2 := Kk.cell 2
  have cKk3 := Kk.cell 3
  simp only [List.getElem?_toArray, List.getElem?_cons_succ, List.getElem?_cons_zero] at cKk0 cKk1 cKk2 cKk3
  go_wp2_with (go_at_call 11; first | (refine (HSW.out _).mono ?_; rintro e_ w_ ⟨rfl, rfl⟩) | (refine (HSH.out _).mono ?_; rintro e_ w_ ⟨rfl, rfl⟩))
  have hst0 : Below w2.heap.size w2 w2 := by (repeat' (first | exact Below.refl _ _ | exact Below.refl _ _ | refine balloc ?_ _ | refine Below.drew ?_ | refine below_drewN ?_ _ | refine bset ?_ (by first | omega | (simp <;> omega)) _))
  refine (HM2.out _ (HI2.out.below hst0)).mono ?_
  rintro e_ w3 ⟨D1, d1, R, rfl, hR, hb⟩
  have hst : Below w2.heap.size w2 w3 := btrans hst0 hb
  replace Kk := Kk.below hb Kk.lt
  replace hbw : Below w.heap.size w w3 := btrans hbw hst
  replace HI1 := Lib.hid (HI1.out.below hst)
  replace HI2 := Lib.hid (HI2.out.below hst)
  replace HhP := Lib.hid (HhP.out.below hst)
  clear hst hst0 hb lKk cKk0 cKk1 cKk2 cKk3
  have HhR := Lib.hid hR
  clear hR
  have lKk := Kk.lt
  have cKk0 := Kk.cell 0
  have cKk1 := Kk.cell 1
  have cKk2 := Kk.cell 2
  have cKk3 := Kk.cell 3
  simp only [List.getElem?_toArray, List.getElem?_cons_succ, List.getElem?_cons_zero] at cKk0 cKk1 cKk2 cKk3
  go_wp2_with fail
  have hst0 : Below w3.heap.size w3 ((w3.alloc (.cells #[.int .i64 (W : Int), .int .i64 (H : Int), .slice (some ⟨gp, 0, none⟩) N N] 30)).alloc (.cells #[.int .i64 (W : Int), .int .i64 (H : Int), .slice D1 H d1] 35)) := by (repeat' (first | exact Below.refl _ _ | exact Below.refl _ _ | refine balloc ?_ _ | refine Below.drew ?_ | refine below_drewN ?_ _ | refine bset ?_ (by first | omega | (simp <;> omega)) _))
  refine (HPU.out _ _ _ _ _ _ _ (HhP.out.below hst0) (HhR.out.below hst0)).mono ?_
  rintro e_ w4 ⟨ga, fa, hga, rfl, qa, hb⟩
  clear hga
  have hst : Below w3.heap.size w3 w4 := btrans hst0 hb
  replace Kk := ((Kk.alloc (.cells #[.int .i64 (W : Int), .int .i64 (H : Int), .slice (some ⟨gp, 0, none⟩) N N] 30)).alloc (.cells #[.int .i64 (W : Int), .int .i64 (H : Int), .slice D1 H d1] 35))
  have Kp := ((Blk.new w3 30 #[.int .i64 (W : Int), .int .i64 (H : Int), .slice (some ⟨gp, 0, none⟩) N N]).alloc (.cells #[.int .i64 (W : Int), .int .i64 (H : Int), .slice D1 H d1] 35))
  have Kr := (Blk.new (w3.alloc (.cells #[.int .i64 (W : Int), .int .i64 (H : Int), .slice (some ⟨gp, 0, none⟩) N N] 30)) 35 #[.int .i64 (W : Int), .int .i64 (H : Int), .slice D1 H d1])
  have hz_Kr : (w3.alloc (.cells #[.int .i64 (W : Int), .int .i64 (H : Int), .slice (some ⟨gp, 0, none⟩) N N] 30)).heap.size = w3.heap.size + 1 := by simp
  rw [hz_Kr] at Kr
  clear hz_Kr
  replace Kk := Kk.below hb Kk.lt
  replace Kp := Kp.below hb Kp.lt
  replace Kr := Kr.below hb Kr.lt
  replace hbw : Below w.heap.size w w4 := btrans hbw hst
  replace HI1 := Lib.hid (HI1.out.below hst)
  replace HI2 := Lib.hid (HI2.out.below hst)
  replace HhP := Lib.hid (HhP.out.below hst)
  replace HhR := Lib.hid (HhR.out.below hst)
  clear hst hst0 hb lKk cKk0 cKk1 cKk2 cKk3
  have Hqa := Lib.hid qa
  clear qa
  have lKk := Kk.lt
  have cKk0 := Kk.cell 0
  have cKk1 := Kk.cell 1
  have cKk2 := Kk.cell 2
  have cKk3 := Kk.cell 3
  have lKp := Kp.lt
  have cKp0 := Kp.cell 0
  have cKp1 := Kp.cell 1
  have cKp2 := Kp.cell 2
  have lKr := Kr.lt
  have cKr0 := Kr.cell 0
  have cKr1 := Kr.cell 1
  have cKr2 := Kr.cell 2
  simp only [List.getElem?_toArray, List.getElem?_cons_succ, List.getElem?_cons_zero] at cKk0 cKk1 cKk2 cKk3 cKp0 cKp1 cKp2 cKr0 cKr1 cKr2
  go_wp2_with fail
  have hst0 : Below w4.heap.size w4 (w4.alloc (.cells #[.int .i64 (W : Int), .int .i64 (H : Int), .slice (some ⟨ga, 0, none⟩) N fa] 30)) := by (repeat' (first | exact Below.refl _ _ | exact Below.refl _ _ | refine balloc ?_ _ | refine Below.drew ?_ | refine below_drewN ?_ _ | refine bset ?_ (by first | omega | (simp <;> omega)) _))
  refine (HPR.out _ _ _ _ _ _ _ (HhP.out.below hst0) (HhR.out.below hst0)).mono ?_
  rintro e_ w5 ⟨gb, fb, hgb, rfl, qb, hb⟩
  clear hgb
  have hst : Below w4.heap.size w4 w5 := btrans hst0 hb
  replace Kk := (Kk.alloc (.cells #[.int .i64 (W : Int), .int .i64 (H : Int), .slice (some ⟨ga, 0, none⟩) N fa] 30))
  replace Kp := (Kp.alloc (.cells #[.int .i64 (W : Int), .int .i64 (H : Int), .slice (some ⟨ga, 0, none⟩) N fa] 30))
  replace Kr := (Kr.alloc (.cells #[.int .i64 (W : Int), .int .i64 (H : Int), .slice (some ⟨ga, 0, none⟩) N fa] 30))
  have Ka := (Blk.new w4 30 #[.int .i64 (W : Int), .int .i64 (H : Int), .slice (some ⟨ga, 0, none⟩) N fa])
  replace Kk := Kk.below hb Kk.lt
  replace Kp := Kp.below hb Kp.lt
  replace Kr := Kr.below hb Kr.lt
  replace Ka := Ka.below hb Ka.lt
  replace hbw : Below w.heap.size w w5 := btrans hbw hst
  replace HI1 := Lib.hid (HI1.out.below hst)
  replace HI2 := Lib.hid (HI2.out.below hst)
  replace HhP := Lib.hid (HhP.out.below hst)
  replace HhR := Lib.hid (HhR.out.below hst)
  replace Hqa := Lib.hid (Hqa.out.below hst)
  clear hst hst0 hb lKk cKk0 cKk1 cKk2 cKk3 lKp cKp0 cKp1 cKp2 lKr cKr0 cKr1 cKr2
  have Hqb := Lib.hid qb
  clear qb
  have lKk := Kk.lt
  have cKk0 := Kk.cell 0
  have cKk1 := Kk.cell 1
  have cKk2 := Kk.cell 2
  have cKk3 := Kk.cell 3
  have lKp := Kp.lt
  have cKp0 := Kp.cell 0
  have cKp1 := Kp.cell 1
  have cKp2 := Kp.cell 2
  have lKr := Kr.lt
  have cKr0 := Kr.cell 0
  have cKr1 := Kr.cell 1
  have cKr2 := Kr.cell 2
  have lKa := Ka.lt
  have cKa0 := Ka.cell 0
  have cKa1 := Ka.cell 1
  have cKa2 := Ka.cell 2
  simp only [List.getElem?_toArray, List.getElem?_cons_succ, List.getElem?_cons_zero] at cKk0 cKk1 cKk2 cKk3 cKp0 cKp1 cKp2 cKr0 cKr1 cKr2 cKa0 cKa1 cKa2
  go_wp2_with fail
  have hst0 : Below w5.heap.size w5 (w5.alloc (.cells #[.int .i64 (W : Int), .int .i64 (H : Int), .slice (some ⟨gb, 0, none⟩) N fb] 30)) := by (repeat' (first | exact Below.refl _ _ | exact Below.refl _ _ | refine balloc ?_ _ | refine Below.drew ?_ | refine below_drewN ?_ _ | refine bset ?_ (by first | omega | (simp <;> omega)) _))
  refine (HUN.out _ _ _ _ _ _ _ (HhP.out.below hst0) (Hqa.out.below hst0)).mono ?_
  rintro e_ w6 ⟨gu, hgu, rfl, qu, hb⟩
  clear hgu
  have hst : Below w5.heap.size w5 w6 := btrans hst0 hb
  replace Kk := (Kk.alloc (.cells #[.int .i64 (W : Int), .int .i64 (H : Int), .slice (some ⟨gb, 0, none⟩) N fb] 30))
  replace Kp := (Kp.alloc (.cells #[.int .i64 (W : Int), .int .i64 (H : Int), .slice (some ⟨gb, 0, none⟩) N fb] 30))
  replace Kr := (Kr.alloc (.cells #[.int .i64 (W : Int), .int .i64 (H : Int), .slice (some ⟨gb, 0, none⟩) N fb] 30))
  replace Ka := (Ka.alloc (.cells #[.int .i64 (W : Int), .int .i64 (H : Int), .slice (some ⟨gb, 0, none⟩) N fb] 30))
  have Kb := (Blk.new w5 30 #[.int .i64 (W : Int), .int .i64 (H : Int), .slice (some ⟨gb, 0, none⟩) N fb])
  replace Kk := Kk.below hb Kk.lt
  replace Kp := Kp.below hb Kp.lt
  replace Kr := Kr.below hb Kr.lt
  replace Ka := Ka.below hb Ka.lt
  replace Kb := Kb.below hb Kb.lt
  replace hbw : Below w.heap.size w w6 := btrans hbw hst
  replace HI1 := Lib.hid (HI1.out.below hst)
  replace HI2 := Lib.hid (HI2.out.below hst)
  replace HhP := Lib.hid (HhP.out.below hst)
  replace HhR := Lib.hid (HhR.out.below hst)
  replace Hqa := Lib.hid (Hqa.out.below hst)
  replace Hqb := Lib.hid (Hqb.out.below hst)
  clear hst hst0 hb lKk cKk0 cKk1 cKk2 cKk3 lKp cKp0 cKp1 cKp2 lKr cKr0 cKr1 cKr2 lKa cKa0 cKa1 cKa2
  have Hqu := Lib.hid qu
  clear qu
  have lKk := Kk.lt
  have cKk0 := Kk.cell 0
  have cKk1 := Kk.cell 1
  have cKk2 := Kk.cell 2
  have cKk3 := Kk.cell 3
  have lKp := Kp.lt
  have cKp0 := Kp.cell 0
  have cKp1 := Kp.cell 1
  have cKp2 := Kp.cell 2
  have lKr := Kr.lt
  have cKr0 := Kr.cell 0
  have cKr1 := Kr.cell 1
  have cKr2 := Kr.cell 2
  have lKa := Ka.lt
  have cKa0 := Ka.cell 0
  have cKa1 := Ka.cell 1
  have cKa2 := Ka.cell 2
  have lKb := Kb.lt
  have cKb0 := Kb.cell 0
  have cKb1 := Kb.cell 1
  have cKb2 := Kb.cell 2
  simp only [List.getElem?_toArray, List.getElem?_cons_succ, List.getElem?_cons_zero] at cKk0 cKk1 cKk2 cKk3 cKp0 cKp1 cKp2 cKr0 cKr1 cKr2 cKa0 cKa1 cKa2 cKb0 cKb1 cKb2
  go_wp2_with fail
  have hst0 : Below w6.heap.size w6 (w6.alloc (.cells #[.int .i64 (W : Int), .int .i64 (H : Int), .slice (some ⟨gu, 0, none⟩) H H] 35)) := by (repeat' (first | exact Below.refl _ _ | exact Below.refl _ _ | refine balloc ?_ _ | refine Below.drew ?_ | refine below_drewN ?_ _ | refine bset ?_ (by first | omega | (simp <;> omega)) _))
  refine (HLE.out _ _ _ _ _ _ _ (Hqu.out.below hst0) (HhR.out.below hst0)).mono ?_
  rintro e_ w7 ⟨ge, hge, rfl, qe, hb⟩
  clear hge
  have hst : Below w6.heap.size w6 w7 := btrans hst0 hb
  replace Kk := (Kk.alloc (.cells #[.int .i64 (W : Int), .int .i64 (H : Int), .slice (some ⟨gu, 0, none⟩) H H] 35))
  replace Kp := (Kp.alloc (.cells #[.int .i64 (W : Int), .int .i64 (H : Int), .slice (some ⟨gu, 0, none⟩) H H] 35))
  replace Kr := (Kr.alloc (.cells #[.int .i64 (W : Int), .int .i64 (H : Int), .slice (some ⟨gu, 0, none⟩) H H] 35))
  replace Ka := (Ka.alloc (.cells #[.int .i64 (W : Int), .int .i64 (H : Int), .slice (some ⟨gu, 0, none⟩) H H] 35))
  replace Kb := (Kb.alloc (.cells #[.int .i64 (W : Int), .int .i64 (H : Int), .slice (some ⟨gu, 0, none⟩) H H] 35))
  have Ku := (Blk.new w6 35 #[.int .i64 (W : Int), .int .i64 (H : Int), .slice (some ⟨gu, 0, none⟩) H H])
  replace Kk := Kk.below hb Kk.lt
  replace Kp := Kp.below hb Kp.lt
  replace Kr := Kr.below hb Kr.lt
  replace Ka := Ka.below hb Ka.lt
  replace Kb := Kb.below hb Kb.lt
  replace Ku := Ku.below hb Ku.lt
  replace hbw : Below w.heap.size w w7 := btrans hbw hst
  replace HI1 := Lib.hid (HI1.out.below hst)
  replace HI2 := Lib.hid (HI2.out.below hst)
  replace HhP := Lib.hid (HhP.out.below hst)
  replace HhR := Lib.hid (HhR.out.below hst)
  replace Hqa := Lib.hid (Hqa.out.below hst)
  replace Hqb := Lib.hid (Hqb.out.below hst)
  replace Hqu := Lib.hid (Hqu.out.below hst)
  clear hst hst0 hb lKk cKk0 cKk1 cKk2 cKk3 lKp cKp0 cKp1 cKp2 lKr cKr0 cKr1 cKr2 lKa cKa0 cKa1 cKa2 lKb cKb0 cKb1 cKb2
  have Hqe := Lib.hid qe
  clear qe
  have lKk := Kk.lt
  have cKk0 := Kk.cell 0
  have cKk1 := Kk.cell 1
  have cKk2 := Kk.cell 2
  have cKk3 := Kk.cell 3
  have lKp := Kp.lt
  have cKp0 := Kp.cell 0
  have cKp1 := Kp.cell 1
  have cKp2 := Kp.cell 2
  have lKr := Kr.lt
  have cKr0 := Kr.cell 0
  have cKr1 := Kr.cell 1
  have cKr2 := Kr.cell 2
  have lKa := Ka.lt
  have cKa0 := Ka.cell 0
  have cKa1 := Ka.cell 1
  have cKa2 := Ka.cell 2
  have lKb := Kb.lt
  have cKb0 := Kb.cell 0
  have cKb1 := Kb.cell 1
  have cKb2 := Kb.cell 2
  have lKu := Ku.lt
  have cKu0 := Ku.cell 0
  have cKu1 := Ku.cell 1
  have cKu2 := Ku.cell 2
  simp only [List.getElem?_toArray, List.getElem?_cons_succ, List.getElem?_cons_zero] at cKk0 cKk1 cKk2 cKk3 cKp0 cKp1 cKp2 cKr0 cKr1 cKr2 cKa0 cKa1 cKa2 cKb0 cKb1 cKb2 cKu0 cKu1 cKu2
  go_wp2_with fail
  have hst0 : Below w7.heap.size w7 (w7.alloc (.cells #[.int .i64 (W : Int), .int .i64 (H : Int), .slice (some ⟨ge, 0, none⟩) H H] 35)) := by (repeat' (first | exact Below.refl _ _ | exact Below.refl _ _ | refine balloc ?_ _ | refine Below.drew ?_ | refine below_drewN ?_ _ | refine bset ?_ (by first | omega | (simp <;> omega)) _))
  refine (psame_yes _ _ _ _ _ _ _ _ _ _ (Hqa.out.below hst0) (Hqb.out.below hst0) (fun j hj => rfl)).mono ?_
  rintro e_ w8 ⟨rfl, hb⟩
  have hst : Below w7.heap.size w7 w8 := btrans hst0 hb
  replace Kk := (Kk.alloc (.cells #[.int .i64 (W : Int), .int .i64 (H : Int), .slice (some ⟨ge, 0, none⟩) H H] 35))
  replace Kp := (Kp.alloc (.cells #[.int .i64 (W : Int), .int .i64 (H : Int), .slice (some ⟨ge, 0, none⟩) H H] 35))
  replace Kr := (Kr.alloc (.cells #[.int .i64 (W : Int), .int .i64 (H : Int), .slice (some ⟨ge, 0, none⟩) H H] 35))
  replace Ka := (Ka.alloc (.cells #[.int .i64 (W : Int), .int .i64 (H : Int), .slice (some ⟨ge, 0, none⟩) H H] 35))
  replace Kb := (Kb.alloc (.cells #[.int .i64 (W : Int), .int .i64 (H : Int), .slice (some ⟨ge, 0, none⟩) H H] 35))
  replace Ku := (Ku.alloc (.cells #[.int .i64 (W : Int), .int .i64 (H : Int), .slice (some ⟨ge, 0, none⟩) H H] 35))
  have Ke := (Blk.new w7 35 #[.int .i64 (W : Int), .int .i64 (H : Int), .slice (some ⟨ge, 0, none⟩) H H])
  replace Kk := Kk.below hb Kk.lt
  replace Kp := Kp.below hb Kp.lt
  replace Kr := Kr.below hb Kr.lt
  replace Ka := Ka.below hb Ka.lt
  replace Kb := Kb.below hb Kb.lt
  replace Ku := Ku.below hb Ku.lt
  replace Ke := Ke.below hb Ke.lt
  replace hbw : Below w.heap.size w w8 := btrans hbw hst
  replace HI1 := Lib.hid (HI1.out.below hst)
  replace HI2 := Lib.hid (HI2.out.below hst)
  replace HhP := Lib.hid (HhP.out.below hst)
  replace HhR := Lib.hid (HhR.out.below hst)
  replace Hqa := Lib.hid (Hqa.out.below hst)
  replace Hqb := Lib.hid (Hqb.out.below hst)
  replace Hqu := Lib.hid (Hqu.out.below hst)
  replace Hqe := Lib.hid (Hqe.out.below hst)
  clear hst hst0 hb lKk cKk0 cKk1 cKk2 cKk3 lKp cKp0 cKp1 cKp2 lKr cKr0 cKr1 cKr2 lKa cKa0 cKa1 cKa2 lKb cKb0 cKb1 cKb2 lKu cKu0 cKu1 cKu2
  have lKk := Kk.lt
  have cKk0 := Kk.cell 0
  have cKk1 := Kk.cell 1
  have cKk2 := Kk.cell 2
  have cKk3 := Kk.cell 3
  have lKp := Kp.lt
  have cKp0 := Kp.cell 0
  have cKp1 := Kp.cell 1
  have cKp2 := Kp.cell 2
  have lKr := Kr.lt
  have cKr0 := Kr.cell 0
  have cKr1 := Kr.cell 1
  have cKr2 := Kr.cell 2
  have lKa := Ka.lt
  have cKa0 := Ka.cell 0
  have cKa1 := Ka.cell 1
  have cKa2 := Ka.cell 2
  have lKb := Kb.lt
  have cKb0 := Kb.cell 0
  have cKb1 := Kb.cell 1
  have cKb2 := Kb.cell 2
  have lKu := Ku.lt
  have cKu0 := Ku.cell 0
  have cKu1 := Ku.cell 1
  have cKu2 := Ku.cell 2
  have lKe := Ke.lt
  have cKe0 := Ke.cell 0
  have cKe1 := Ke.cell 1
  have cKe2 := Ke.cell 2
  simp only [List.getElem?_toArray, List.getElem?_cons_succ, List.getElem?_cons_zero] at cKk0 cKk1 cKk2 cKk3 cKp0 cKp1 cKp2 cKr0 cKr1 cKr2 cKa0 cKa1 cKa2 cKb0 cKb1 cKb2 cKu0 cKu1 cKu2 cKe0 cKe1 cKe2
  go_wp2_with fail
  have hst0 : Below w8.heap.size w8 w8 := by (repeat' (first | exact Below.refl _ _ | exact Below.refl _ _ | refine balloc ?_ _ | refine Below.drew ?_ | refine below_drewN ?_ _ | refine bset ?_ (by first | omega | (simp <;> omega)) _))
  refine (HCO.out _ _ _ _ (Hqe.out.below hst0) (fun j hj i hi => HS2.out B R j hj i hi)).mono ?_
  rintro e_ w9 ⟨rfl, hb⟩
  have hst : Below w8.heap.size w8 w9 := btrans hst0 hb
  replace Kk := Kk.below hb Kk.lt
  replace Kp := Kp.below hb Kp.lt
  replace Kr := Kr.below hb Kr.lt
  replace Ka := Ka.below hb Ka.lt
  replace Kb := Kb.below hb Kb.lt
  replace Ku := Ku.below hb Ku.lt
  replace Ke := Ke.below hb Ke.lt
  replace hbw : Below w.heap.size w w9 := btrans hbw hst
  replace HI1 := Lib.hid (HI1.out.below hst)
  replace HI2 := Lib.hid (HI2.out.below hst)
  replace HhP := Lib.hid (HhP.out.below hst)
  replace HhR := Lib.hid (HhR.out.below hst)
  replace Hqa := Lib.hid (Hqa.out.below hst)
  replace Hqb := Lib.hid (Hqb.out.below hst)
  replace Hqu := Lib.hid (Hqu.out.below hst)
  replace Hqe := Lib.hid (Hqe.out.below hst)
  clear hst hst0 hb lKk cKk0 cKk1 cKk2 cKk3 lKp cKp0 cKp1 cKp2 lKr cKr0 cKr1 cKr2 lKa cKa0 cKa1 cKa2 lKb cKb0 cKb1 cKb2 lKu cKu0 cKu1 cKu2 lKe cKe0 cKe1 cKe2
  have lKk := Kk.lt
  have cKk0 := Kk.cell 0
  have cKk1 := Kk.cell 1
  have cKk2 := Kk.cell 2
  have cKk3 := Kk.cell 3
  have lKp := Kp.lt
  have cKp0 := Kp.cell 0
  have cKp1 := Kp.cell 1
  have cKp2 := Kp.cell 2
  have lKr := Kr.lt
  have cKr0 := Kr.cell 0
  have cKr1 := Kr.cell 1
  have cKr2 := Kr.cell 2
  have lKa := Ka.lt
  have cKa0 := Ka.cell 0
  have cKa1 := Ka.cell 1
  have cKa2 := Ka.cell 2
  have lKb := Kb.lt
  have cKb0 := Kb.cell 0
  have cKb1 := Kb.cell 1
  have cKb2 := Kb.cell 2
  have lKu := Ku.lt
  have cKu0 := Ku.cell 0
  have cKu1 := Ku.cell 1
  have cKu2 := Ku.cell 2
  have lKe := Ke.lt
  have cKe0 := Ke.cell 0
  have cKe1 := Ke.cell 1
  have cKe2 := Ke.cell 2
  simp only [List.getElem?_toArray, List.getElem?_cons_succ, List.getElem?_cons_zero] at cKk0 cKk1 cKk2 cKk3 cKp0 cKp1 cKp2 cKr0 cKr1 cKr2 cKa0 cKa1 cKa2 cKb0 cKb1 cKb2 cKu0 cKu1 cKu2 cKe0 cKe1 cKe2
  go_wp2_with fail
  have hst0 : Below w9.heap.size w9 w9 := by (repeat' (first | exact Below.refl _ _ | exact Below.refl _ _ | refine balloc ?_ _ | refine Below.drew ?_ | refine below_drewN ?_ _ | refine bset ?_ (by first | omega | (simp <;> omega)) _))
  refine (HMY.out _ _ _).mono ?_
  rintro e_ w10 ⟨rfl, hb⟩
  have hst : Below w9.heap.size w9 w10 := btrans hst0 hb
  replace Kk := Kk.below hb Kk.lt
  replace Kp := Kp.below hb Kp.lt
  replace Kr := Kr.below hb Kr.lt
  replace Ka := Ka.below hb Ka.lt
  replace Kb := Kb.below hb Kb.lt
  replace Ku := Ku.below hb Ku.lt
  replace Ke := Ke.below hb Ke.lt
  replace hbw : Below w.heap.size w w10 := btrans hbw hst
  replace HI1 := Lib.hid (HI1.out.below hst)
  replace HI2 := Lib.hid (HI2.out.below hst)
  replace HhP := Lib.hid (HhP.out.below hst)
  replace HhR := Lib.hid (HhR.out.below hst)
  replace Hqa := Lib.hid (Hqa.out.below hst)
  replace Hqb := Lib.hid (Hqb.out.below hst)
  replace Hqu := Lib.hid (Hqu.out.below hst)
  replace Hqe := Lib.hid (Hqe.out.below hst)
  clear hst hst0 hb lKk cKk0 cKk1 cKk2 cKk3 lKp cKp0 cKp1 cKp2 lKr cKr0 cKr1 cKr2 lKa cKa0 cKa1 cKa2 lKb cKb0 cKb1 cKb2 lKu cKu0 cKu1 cKu2 lKe cKe0 cKe1 cKe2
  have lKk := Kk.lt
  have cKk0 := Kk.cell 0
  have cKk1 := Kk.cell 1
  have cKk2 := Kk.cell 2
  have cKk3 := Kk.cell 3
  have lKp := Kp.lt
  have cKp0 := Kp.cell 0
  have cKp1 := Kp.cell 1
  have cKp2 := Kp.cell 2
  have lKr := Kr.lt
  have cKr0 := Kr.cell 0
  have cKr1 := Kr.cell 1
  have cKr2 := Kr.cell 2
  have lKa := Ka.lt
  have cKa0 := Ka.cell 0
  have cKa1 := Ka.cell 1
  have cKa2 := Ka.cell 2
  have lKb := Kb.lt
  have cKb0 := Kb.cell 0
  have cKb1 := Kb.cell 1
  have cKb2 := Kb.cell 2
  have lKu := Ku.lt
  have cKu0 := Ku.cell 0
  have cKu1 := Ku.cell 1
  have cKu2 := Ku.cell 2
  have lKe := Ke.lt
  have cKe0 := Ke.cell 0
  have cKe1 := Ke.cell 1
  have cKe2 := Ke.cell 2
  simp only [List.getElem?_toArray, List.getElem?_cons_succ, List.getElem?_cons_zero] at cKk0 cKk1 cKk2 cKk3 cKp0 cKp1 cKp2 cKr0 cKr1 cKr2 cKa0 cKa1 cKa2 cKb0 cKb1 cKb2 cKu0 cKu1 cKu2 cKe0 cKe1 cKe2
  go_wp2_with fail
  have HKk := Lib.hid Kk
  have HKp := Lib.hid Kp
  have HKr := Lib.hid Kr
  have HKa := Lib.hid Ka
  have HBW := Lib.hid hbw
  clear Kk Kp Kr Ka Kb Ku Ke hbw Hqb Hqu Hqe lKk cKk0 cKk1 cKk2 cKk3 lKp cKp0 cKp1 cKp2 lKr cKr0 cKr1 cKr2 lKa cKa0 cKa1 cKa2 lKb cKb0 cKb1 cKb2 lKu cKu0 cKu1 cKu2 lKe cKe0 cKe1 cKe2
  go_loopw [21] (fun jv wr => ∃ j : Nat, j ≤ H ∧ jv = .int .i64 (j : Int) ∧ Hid (Below w10.heap.size w10 wr)) (fun jv _ => 64 - (intOf jv).toNat)
  case atStart => exact ⟨0, Nat.zero_le _, rfl, Lib.hid (Below.refl _ _)⟩
  case round =>
    obtain ⟨j, hj, rfl, hbo⟩ := hrel
    obtain ⟨wo, rfl⟩ : ∃ wo, wo = wr := ⟨_, rfl⟩
    have p1 := (HKp.out.below hbo.out HKp.out.lt).cell 1
    simp only [List.getElem?_toArray, List.getElem?_cons_succ, List.getElem?_cons_zero] at p1
    by_cases hjH : j < H
    · have dj1 : decide ((j : Int) < (H : Int)) = true := by simp; omega
      go_wp2_with fail
      clear p1
      go_loopw [22] (fun iv wr => ∃ i : Nat, i ≤ W ∧ iv = .int .i64 (i : Int) ∧ Hid (Below w10.heap.size w10 wr)) (fun iv _ => 64 - (intOf iv).toNat)
      case atStart => exact ⟨0, Nat.zero_le _, rfl, hbo⟩
      case round =>
        clear hbo
        obtain ⟨i, hi, rfl, hbi⟩ := hrel
        obtain ⟨wi, rfl⟩ : ∃ wi, wi = wr := ⟨_, rfl⟩
        by_cases hiW : i < W
        · have Kp := HKp.out.below hbi.out HKp.out.lt
          have Kr := HKr.out.below hbi.out HKr.out.lt
          have Ka := HKa.out.below hbi.out HKa.out.lt
          have Kk := HKk.out.below hbi.out HKk.out.lt
          have hP2 := HhP.out.below hbi.out
          have hA2 := Hqa.out.below hbi.out
          have hR2 := HhR.out.below hbi.out
          have hiW2 : (i : Int) < (W : Int) := by omega
          have HC3 := Lib.hid (fun u hr => HHS.out d1 D1 R i j u hr hiW hjH)
          obtain ⟨v0, v1, v2, ⟨b0, b1, b2⟩, hC1, hC2⟩ := HAT.out N fa (some ⟨gp, 0, none⟩) (some ⟨ga, 0, none⟩) R B i j wi hP2 hiW hjH
          have HC1 := Lib.hid hC1
          have HP2 := Lib.hid hP2
          have HA2 := Lib.hid hA2
          have HR2 := Lib.hid hR2
          have HB0 := Lib.hid b0
          have HB1 := Lib.hid b1
          have HB2 := Lib.hid b2
          clear hC1 hP2 hA2 hR2 b0 b1 b2
          have lKp := Kp.lt
          have cKp0 := Kp.cell 0
          have cKp1 := Kp.cell 1
          have cKp2 := Kp.cell 2
          have lKr := Kr.lt
          have cKr0 := Kr.cell 0
          have cKr1 := Kr.cell 1
          have cKr2 := Kr.cell 2
          have lKa := Ka.lt
          have cKa0 := Ka.cell 0
          have cKa1 := Ka.cell 1
          have cKa2 := Ka.cell 2
          have lKk := Kk.lt
          have cKk0 := Kk.cell 0
          have cKk1 := Kk.cell 1
          have cKk2 := Kk.cell 2
          have cKk3 := Kk.cell 3
          simp only [List.getElem?_toArray, List.getElem?_cons_succ, List.getElem?_cons_zero] at cKp0 cKp1 cKp2 cKr0 cKr1 cKr2 cKa0 cKa1 cKa2 cKk0 cKk1 cKk2 cKk3
          rcases hC2 with ⟨hb9, hC2⟩ | ⟨hb9, hC2⟩
          · skip
            have HC2 := Lib.hid hC2
            rw [hb9] at HC3
            clear hb9 hC2
            go_wp2_with fail
            have hst0 : Below wi.heap.size wi wi := by (repeat' (first | exact Below.refl _ _ | exact Below.refl _ _ | refine balloc ?_ _ | refine Below.drew ?_ | refine below_drewN ?_ _ | refine bset ?_ (by first | omega | (simp <;> omega)) _))
            refine (HC1.out _ (HP2.out.below hst0)).mono ?_
            rintro e_ wi1 ⟨rfl, hb⟩
            have hst : Below wi.heap.size wi wi1 := btrans hst0 hb
            replace Kp := Kp.below hb Kp.lt
            replace Kr := Kr.below hb Kr.lt
            replace Ka := Ka.below hb Ka.lt
            replace Kk := Kk.below hb Kk.lt
            have hbw : Below wi.heap.size wi wi1 := hst
            replace HP2 := Lib.hid (HP2.out.below hst)
            replace HA2 := Lib.hid (HA2.out.below hst)
            replace HR2 := Lib.hid (HR2.out.below hst)
            clear hst hst0 hb lKp cKp0 cKp1 cKp2 lKr cKr0 cKr1 cKr2 lKa cKa0 cKa1 cKa2 lKk cKk0 cKk1 cKk2 cKk3
            have lKp := Kp.lt
            have cKp0 := Kp.cell 0
            have cKp1 := Kp.cell 1
            have cKp2 := Kp.cell 2
            have lKr := Kr.lt
            have cKr0 := Kr.cell 0
            have cKr1 := Kr.cell 1
            have cKr2 := Kr.cell 2
            have lKa := Ka.lt
            have cKa0 := Ka.cell 0
            have cKa1 := Ka.cell 1
            have cKa2 := Ka.cell 2
            have lKk := Kk.lt
            have cKk0 := Kk.cell 0
            have cKk1 := Kk.cell 1
            have cKk2 := Kk.cell 2
            have cKk3 := Kk.cell 3
            simp only [List.getElem?_toArray, List.getElem?_cons_succ, List.getElem?_cons_zero] at cKp0 cKp1 cKp2 cKr0 cKr1 cKr2 cKa0 cKa1 cKa2 cKk0 cKk1 cKk2 cKk3
            go_wp2_with fail
            have hst0 : Below wi1.heap.size wi1 (wi1.alloc (.cells #[.int .u8 v0, .int .u8 v1, .int .u8 v2, .int .u8 255] 27)) := by (repeat' (first | exact Below.refl _ _ | exact Below.refl _ _ | refine balloc ?_ _ | refine Below.drew ?_ | refine below_drewN ?_ _ | refine bset ?_ (by first | omega | (simp <;> omega)) _))
            refine (HC2.out _ (HA2.out.below hst0)).mono ?_
            rintro e_ wi2 ⟨rfl, hb⟩
            have hst : Below wi1.heap.size wi1 wi2 := btrans hst0 hb
            replace Kp := (Kp.alloc (.cells #[.int .u8 v0, .int .u8 v1, .int .u8 v2, .int .u8 255] 27))
            replace Kr := (Kr.alloc (.cells #[.int .u8 v0, .int .u8 v1, .int .u8 v2, .int .u8 255] 27))
            replace Ka := (Ka.alloc (.cells #[.int .u8 v0, .int .u8 v1, .int .u8 v2, .int .u8 255] 27))
            replace Kk := (Kk.alloc (.cells #[.int .u8 v0, .int .u8 v1, .int .u8 v2, .int .u8 255] 27))
            have Kv := (Blk.new wi1 27 #[.int .u8 v0, .int .u8 v1, .int .u8 v2, .int .u8 255])
            replace Kp := Kp.below hb Kp.lt
            replace Kr := Kr.below hb Kr.lt
            replace Ka := Ka.below hb Ka.lt
            replace Kk := Kk.below hb Kk.lt
            replace Kv := Kv.below hb Kv.lt
            replace hbw : Below wi.heap.size wi wi2 := btrans hbw hst
            replace HP2 := Lib.hid (HP2.out.below hst)
            replace HA2 := Lib.hid (HA2.out.below hst)
            replace HR2 := Lib.hid (HR2.out.below hst)
            clear hst hst0 hb lKp cKp0 cKp1 cKp2 lKr cKr0 cKr1 cKr2 lKa cKa0 cKa1 cKa2 lKk cKk0 cKk1 cKk2 cKk3
            have lKp := Kp.lt
            have cKp0 := Kp.cell 0
            have cKp1 := Kp.cell 1
            have cKp2 := Kp.cell 2
            have lKr := Kr.lt
            have cKr0 := Kr.cell 0
            have cKr1 := Kr.cell 1
            have cKr2 := Kr.cell 2
            have lKa := Ka.lt
            have cKa0 := Ka.cell 0
            have cKa1 := Ka.cell 1
            have cKa2 := Ka.cell 2
            have lKk := Kk.lt
            have cKk0 := Kk.cell 0
            have cKk1 := Kk.cell 1
            have cKk2 := Kk.cell 2
            have cKk3 := Kk.cell 3
            have lKv := Kv.lt
            have cKv0 := Kv.cell 0
            have cKv1 := Kv.cell 1
            have cKv2 := Kv.cell 2
            have cKv3 := Kv.cell 3
            simp only [List.getElem?_toArray, List.getElem?_cons_succ, List.getElem?_cons_zero] at cKp0 cKp1 cKp2 cKr0 cKr1 cKr2 cKa0 cKa1 cKa2 cKk0 cKk1 cKk2 cKk3 cKv0 cKv1 cKv2 cKv3
            have HNS := Lib.hid hbw.size
            go_wp2_with fail
            have hst0 : Below wi2.heap.size wi2 ((wi2.alloc (.cells #[.int .u8 v0, .int .u8 v1, .int .u8 v2, .int .u8 255] 27)).alloc (.cells #[.int .u8 v0, .int .u8 v1, .int .u8 v2, .int .u8 255] 27)) := by (repeat' (first | exact Below.refl _ _ | exact Below.refl _ _ | refine balloc ?_ _ | refine Below.drew ?_ | refine below_drewN ?_ _ | refine bset ?_ (by first | omega | (simp <;> omega)) _))
            refine (HC3.out _ (HR2.out.below hst0)).mono ?_
            rintro e_ wi3 ⟨rfl, hb⟩
            have hst : Below wi2.heap.size wi2 wi3 := btrans hst0 hb
            replace Kp := ((Kp.alloc (.cells #[.int .u8 v0, .int .u8 v1, .int .u8 v2, .int .u8 255] 27)).alloc (.cells #[.int .u8 v0, .int .u8 v1, .int .u8 v2, .int .u8 255] 27))
            replace Kr := ((Kr.alloc (.cells #[.int .u8 v0, .int .u8 v1, .int .u8 v2, .int .u8 255] 27)).alloc (.cells #[.int .u8 v0, .int .u8 v1, .int .u8 v2, .int .u8 255] 27))
            replace Ka := ((Ka.alloc (.cells #[.int .u8 v0, .int .u8 v1, .int .u8 v2, .int .u8 255] 27)).alloc (.cells #[.int .u8 v0, .int .u8 v1, .int .u8 v2, .int .u8 255] 27))
            replace Kk := ((Kk.alloc (.cells #[.int .u8 v0, .int .u8 v1, .int .u8 v2, .int .u8 255] 27)).alloc (.cells #[.int .u8 v0, .int .u8 v1, .int .u8 v2, .int .u8 255] 27))
            replace Kv := ((Kv.alloc (.cells #[.int .u8 v0, .int .u8 v1, .int .u8 v2, .int .u8 255] 27)).alloc (.cells #[.int .u8 v0, .int .u8 v1, .int .u8 v2, .int .u8 255] 27))
            have Kt := ((Blk.new wi2 27 #[.int .u8 v0, .int .u8 v1, .int .u8 v2, .int .u8 255]).alloc (.cells #[.int .u8 v0, .int .u8 v1, .int .u8 v2, .int .u8 255] 27))
            have Kx := (Blk.new (wi2.alloc (.cells #[.int .u8 v0, .int .u8 v1, .int .u8 v2, .int .u8 255] 27)) 27 #[.int .u8 v0, .int .u8 v1, .int .u8 v2, .int .u8 255])
            have hz_Kx : (wi2.alloc (.cells #[.int .u8 v0, .int .u8 v1, .int .u8 v2, .int .u8 255] 27)).heap.size = wi2.heap.size + 1 := by simp
            rw [hz_Kx] at Kx
            clear hz_Kx
            replace Kp := Kp.below hb Kp.lt
            replace Kr := Kr.below hb Kr.lt
            replace Ka := Ka.below hb Ka.lt
            replace Kk := Kk.below hb Kk.lt
            replace Kv := Kv.below hb Kv.lt
            replace Kt := Kt.below hb Kt.lt
            replace Kx := Kx.below hb Kx.lt
            replace hbw : Below wi.heap.size wi wi3 := btrans hbw hst
            replace HP2 := Lib.hid (HP2.out.below hst)
            replace HA2 := Lib.hid (HA2.out.below hst)
            replace HR2 := Lib.hid (HR2.out.below hst)
            clear hst hst0 hb lKp cKp0 cKp1 cKp2 lKr cKr0 cKr1 cKr2 lKa cKa0 cKa1 cKa2 lKk cKk0 cKk1 cKk2 cKk3 lKv cKv0 cKv1 cKv2 cKv3
            have lKp := Kp.lt
            have cKp0 := Kp.cell 0
            have cKp1 := Kp.cell 1
            have cKp2 := Kp.cell 2
            have lKr := Kr.lt
            have cKr0 := Kr.cell 0
            have cKr1 := Kr.cell 1
            have cKr2 := Kr.cell 2
            have lKa := Ka.lt
            have cKa0 := Ka.cell 0
            have cKa1 := Ka.cell 1
            have cKa2 := Ka.cell 2
            have lKk := Kk.lt
            have cKk0 := Kk.cell 0
            have cKk1 := Kk.cell 1
            have cKk2 := Kk.cell 2
            have cKk3 := Kk.cell 3
            have lKv := Kv.lt
            have cKv0 := Kv.cell 0
            have cKv1 := Kv.cell 1
            have cKv2 := Kv.cell 2
            have cKv3 := Kv.cell 3
            have lKt := Kt.lt
            have cKt0 := Kt.cell 0
            have cKt1 := Kt.cell 1
            have cKt2 := Kt.cell 2
            have cKt3 := Kt.cell 3
            have lKx := Kx.lt
            have cKx0 := Kx.cell 0
            have cKx1 := Kx.cell 1
            have cKx2 := Kx.cell 2
            have cKx3 := Kx.cell 3
            simp only [List.getElem?_toArray, List.getElem?_cons_succ, List.getElem?_cons_zero] at cKp0 cKp1 cKp2 cKr0 cKr1 cKr2 cKa0 cKa1 cKa2 cKk0 cKk1 cKk2 cKk3 cKv0 cKv1 cKv2 cKv3 cKt0 cKt1 cKt2 cKt3 cKx0 cKx1 cKx2 cKx3
            have ev0 : (v0 == v0) = true := by simp
            have ev1 : (v1 == v1) = true := by simp
            have ev2 : (v2 == v2) = true := by simp
            have HBN := Lib.hid (btrans hbi.out hbw)
            clear hbw
            go_wp2_with fail
            go_roundw
            case rel => exact ⟨i + 1, by omega, by go_num, HBN⟩
            case measure => simp [intOf]; omega
          · skip
            rw [hb9] at HC3
            clear hb9
            have bb0 := blend_bd v0 k0 k3 HB0.out HKB.out.1 HKB.out.2.2.2
            have bb1 := blend_bd v1 k1 k3 HB1.out HKB.out.2.1 HKB.out.2.2.2
            have bb2 := blend_bd v2 k2 k3 HB2.out HKB.out.2.2.1 HKB.out.2.2.2
            obtain ⟨t0, ht0⟩ : ∃ t, blend v0 k0 k3 = t := ⟨_, rfl⟩
            obtain ⟨t1, ht1⟩ : ∃ t, blend v1 k1 k3 = t := ⟨_, rfl⟩
            obtain ⟨t2, ht2⟩ : ∃ t, blend v2 k2 k3 = t := ⟨_, rfl⟩
            rw [ht0, ht1, ht2] at hC2
            have HC2 := Lib.hid hC2
            clear hC2
            have HL0 := Lib.hid (fun u => ht0 ▸ HBB.out v0 k0 u HB0.out HKB.out.1)
            have HL1 := Lib.hid (fun u => ht1 ▸ HBB.out v1 k1 u HB1.out HKB.out.2.1)
            have HL2 := Lib.hid (fun u => ht2 ▸ HBB.out v2 k2 u HB2.out HKB.out.2.2.1)
            rw [ht0] at bb0
            rw [ht1] at bb1
            rw [ht2] at bb2
            clear ht0 ht1 ht2
            go_wp2_with fail
            have hst0 : Below wi.heap.size wi wi := by (repeat' (first | exact Below.refl _ _ | exact Below.refl _ _ | refine balloc ?_ _ | refine Below.drew ?_ | refine below_drewN ?_ _ | refine bset ?_ (by first | omega | (simp <;> omega)) _))
            refine (HC1.out _ (HP2.out.below hst0)).mono ?_
            rintro e_ wi1 ⟨rfl, hb⟩
            have hst : Below wi.heap.size wi wi1 := btrans hst0 hb
            replace Kp := Kp.below hb Kp.lt
            replace Kr := Kr.below hb Kr.lt
            replace Ka := Ka.below hb Ka.lt
            replace Kk := Kk.below hb Kk.lt
            have hbw : Below wi.heap.size wi wi1 := hst
            replace HP2 := Lib.hid (HP2.out.below hst)
            replace HA2 := Lib.hid (HA2.out.below hst)
            replace HR2 := Lib.hid (HR2.out.below hst)
            clear hst hst0 hb lKp cKp0 cKp1 cKp2 lKr cKr0 cKr1 cKr2 lKa cKa0 cKa1 cKa2 lKk cKk0 cKk1 cKk2 cKk3
            have lKp := Kp.lt
            have cKp0 := Kp.cell 0
            have cKp1 := Kp.cell 1
            have cKp2 := Kp.cell 2
            have lKr := Kr.lt
            have cKr0 := Kr.cell 0
            have cKr1 := Kr.cell 1
            have cKr2 := Kr.cell 2
            have lKa := Ka.lt
            have cKa0 := Ka.cell 0
            have cKa1 := Ka.cell 1
            have cKa2 := Ka.cell 2
            have lKk := Kk.lt
            have cKk0 := Kk.cell 0
            have cKk1 := Kk.cell 1
            have cKk2 := Kk.cell 2
            have cKk3 := Kk.cell 3
            simp only [List.getElem?_toArray, List.getElem?_cons_succ, List.getElem?_cons_zero] at cKp0 cKp1 cKp2 cKr0 cKr1 cKr2 cKa0 cKa1 cKa2 cKk0 cKk1 cKk2 cKk3
            go_wp2_with fail
            have hst0 : Below wi1.heap.size wi1 (wi1.alloc (.cells #[.int .u8 v0, .int .u8 v1, .int .u8 v2, .int .u8 255] 27)) := by (repeat' (first | exact Below.refl _ _ | exact Below.refl _ _ | refine balloc ?_ _ | refine Below.drew ?_ | refine below_drewN ?_ _ | refine bset ?_ (by first | omega | (simp <;> omega)) _))
            refine (HC2.out _ (HA2.out.below hst0)).mono ?_
            rintro e_ wi2 ⟨rfl, hb⟩
            have hst : Below wi1.heap.size wi1 wi2 := btrans hst0 hb
            replace Kp := (Kp.alloc (.cells #[.int .u8 v0, .int .u8 v1, .int .u8 v2, .int .u8 255] 27))
            replace Kr := (Kr.alloc (.cells #[.int .u8 v0, .int .u8 v1, .int .u8 v2, .int .u8 255] 27))
            replace Ka := (Ka.alloc (.cells #[.int .u8 v0, .int .u8 v1, .int .u8 v2, .int .u8 255] 27))
            replace Kk := (Kk.alloc (.cells #[.int .u8 v0, .int .u8 v1, .int .u8 v2, .int .u8 255] 27))
            have Kv := (Blk.new wi1 27 #[.int .u8 v0, .int .u8 v1, .int .u8 v2, .int .u8 255])
            replace Kp := Kp.below hb Kp.lt
            replace Kr := Kr.below hb Kr.lt
            replace Ka := Ka.below hb Ka.lt
            replace Kk := Kk.below hb Kk.lt
            replace Kv := Kv.below hb Kv.lt
            replace hbw : Below wi.heap.size wi wi2 := btrans hbw hst
            replace HP2 := Lib.hid (HP2.out.below hst)
            replace HA2 := Lib.hid (HA2.out.below hst)
            replace HR2 := Lib.hid (HR2.out.below hst)
            clear hst hst0 hb lKp cKp0 cKp1 cKp2 lKr cKr0 cKr1 cKr2 lKa cKa0 cKa1 cKa2 lKk cKk0 cKk1 cKk2 cKk3
            have lKp := Kp.lt
            have cKp0 := Kp.cell 0
            have cKp1 := Kp.cell 1
            have cKp2 := Kp.cell 2
            have lKr := Kr.lt
            have cKr0 := Kr.cell 0
            have cKr1 := Kr.cell 1
            have cKr2 := Kr.cell 2
            have lKa := Ka.lt
            have cKa0 := Ka.cell 0
            have cKa1 := Ka.cell 1
            have cKa2 := Ka.cell 2
            have lKk := Kk.lt
            have cKk0 := Kk.cell 0
            have cKk1 := Kk.cell 1
            have cKk2 := Kk.cell 2
            have cKk3 := Kk.cell 3
            have lKv := Kv.lt
            have cKv0 := Kv.cell 0
            have cKv1 := Kv.cell 1
            have cKv2 := Kv.cell 2
            have cKv3 := Kv.cell 3
            simp only [List.getElem?_toArray, List.getElem?_cons_succ, List.getElem?_cons_zero] at cKp0 cKp1 cKp2 cKr0 cKr1 cKr2 cKa0 cKa1 cKa2 cKk0 cKk1 cKk2 cKk3 cKv0 cKv1 cKv2 cKv3
            have HNS := Lib.hid hbw.size
            go_wp2_with fail
            have hst0 : Below wi2.heap.size wi2 ((wi2.alloc (.cells #[.int .u8 t0, .int .u8 t1, .int .u8 t2, .int .u8 255] 27)).alloc (.cells #[.int .u8 v0, .int .u8 v1, .int .u8 v2, .int .u8 255] 27)) := by (repeat' (first | exact Below.refl _ _ | exact Below.refl _ _ | refine balloc ?_ _ | refine Below.drew ?_ | refine below_drewN ?_ _ | refine bset ?_ (by first | omega | (simp <;> omega)) _))
            refine (HC3.out _ (HR2.out.below hst0)).mono ?_
            rintro e_ wi3 ⟨rfl, hb⟩
            have hst : Below wi2.heap.size wi2 wi3 := btrans hst0 hb
            replace Kp := ((Kp.alloc (.cells #[.int .u8 t0, .int .u8 t1, .int .u8 t2, .int .u8 255] 27)).alloc (.cells #[.int .u8 v0, .int .u8 v1, .int .u8 v2, .int .u8 255] 27))
            replace Kr := ((Kr.alloc (.cells #[.int .u8 t0, .int .u8 t1, .int .u8 t2, .int .u8 255] 27)).alloc (.cells #[.int .u8 v0, .int .u8 v1, .int .u8 v2, .int .u8 255] 27))
            replace Ka := ((Ka.alloc (.cells #[.int .u8 t0, .int .u8 t1, .int .u8 t2, .int .u8 255] 27)).alloc (.cells #[.int .u8 v0, .int .u8 v1, .int .u8 v2, .int .u8 255] 27))
            replace Kk := ((Kk.alloc (.cells #[.int .u8 t0, .int .u8 t1, .int .u8 t2, .int .u8 255] 27)).alloc (.cells #[.int .u8 v0, .int .u8 v1, .int .u8 v2, .int .u8 255] 27))
            replace Kv := ((Kv.alloc (.cells #[.int .u8 t0, .int .u8 t1, .int .u8 t2, .int .u8 255] 27)).alloc (.cells #[.int .u8 v0, .int .u8 v1, .int .u8 v2, .int .u8 255] 27))
            have Kt := ((Blk.new wi2 27 #[.int .u8 t0, .int .u8 t1, .int .u8 t2, .int .u8 255]).alloc (.cells #[.int .u8 v0, .int .u8 v1, .int .u8 v2, .int .u8 255] 27))
            have Kx := (Blk.new (wi2.alloc (.cells #[.int .u8 t0, .int .u8 t1, .int .u8 t2, .int .u8 255] 27)) 27 #[.int .u8 v0, .int .u8 v1, .int .u8 v2, .int .u8 255])
            have hz_Kx : (wi2.alloc (.cells #[.int .u8 t0, .int .u8 t1, .int .u8 t2, .int .u8 255] 27)).heap.size = wi2.heap.size + 1 := by simp
            rw [hz_Kx] at Kx
            clear hz_Kx
            replace Kp := Kp.below hb Kp.lt
            replace Kr := Kr.below hb Kr.lt
            replace Ka := Ka.below hb Ka.lt
            replace Kk := Kk.below hb Kk.lt
            replace Kv := Kv.below hb Kv.lt
            replace Kt := Kt.below hb Kt.lt
            replace Kx := Kx.below hb Kx.lt
            replace hbw : Below wi.heap.size wi wi3 := btrans hbw hst
            replace HP2 := Lib.hid (HP2.out.below hst)
            replace HA2 := Lib.hid (HA2.out.below hst)
            replace HR2 := Lib.hid (HR2.out.below hst)
            clear hst hst0 hb lKp cKp0 cKp1 cKp2 lKr cKr0 cKr1 cKr2 lKa cKa0 cKa1 cKa2 lKk cKk0 cKk1 cKk2 cKk3 lKv cKv0 cKv1 cKv2 cKv3
            have lKp := Kp.lt
            have cKp0 := Kp.cell 0
            have cKp1 := Kp.cell 1
            have cKp2 := Kp.cell 2
            have lKr := Kr.lt
            have cKr0 := Kr.cell 0
            have cKr1 := Kr.cell 1
            have cKr2 := Kr.cell 2
            have lKa := Ka.lt
            have cKa0 := Ka.cell 0
            have cKa1 := Ka.cell 1
            have cKa2 := Ka.cell 2
            have lKk := Kk.lt
            have cKk0 := Kk.cell 0
            have cKk1 := Kk.cell 1
            have cKk2 := Kk.cell 2
            have cKk3 := Kk.cell 3
            have lKv := Kv.lt
            have cKv0 := Kv.cell 0
            have cKv1 := Kv.cell 1
            have cKv2 := Kv.cell 2
            have cKv3 := Kv.cell 3
            have lKt := Kt.lt
            have cKt0 := Kt.cell 0
            have cKt1 := Kt.cell 1
            have cKt2 := Kt.cell 2
            have cKt3 := Kt.cell 3
            have lKx := Kx.lt
            have cKx0 := Kx.cell 0
            have cKx1 := Kx.cell 1
            have cKx2 := Kx.cell 2
            have cKx3 := Kx.cell 3
            simp only [List.getElem?_toArray, List.getElem?_cons_succ, List.getElem?_cons_zero] at cKp0 cKp1 cKp2 cKr0 cKr1 cKr2 cKa0 cKa1 cKa2 cKk0 cKk1 cKk2 cKk3 cKv0 cKv1 cKv2 cKv3 cKt0 cKt1 cKt2 cKt3 cKx0 cKx1 cKx2 cKx3
            have et0 : (t0 == t0) = true := by simp
            have et1 : (t1 == t1) = true := by simp
            have et2 : (t2 == t2) = true := by simp
            go_wp2_with fail
            have z0 := Kx.frozen 0
            have z1 := Kx.frozen 1
            have z2 := Kx.frozen 2
            have z3 := Kx.frozen 3
            have a0 := fun u : Up wi3 => (u.cell (p := ⟨wi1.heap.size, 0, none⟩) lKv).trans cKv0
            have a1 := fun u : Up wi3 => (u.cell (p := ⟨wi1.heap.size, 1, none⟩) lKv).trans cKv1
            have a2 := fun u : Up wi3 => (u.cell (p := ⟨wi1.heap.size, 2, none⟩) lKv).trans cKv2
            have m0 := fun u : Up wi3 => (u.cell (p := ⟨w.heap.size, 0, none⟩) lKk).trans cKk0
            have m1 := fun u : Up wi3 => (u.cell (p := ⟨w.heap.size, 1, none⟩) lKk).trans cKk1
            have m2 := fun u : Up wi3 => (u.cell (p := ⟨w.heap.size, 2, none⟩) lKk).trans cKk2
            have m3 := fun u : Up wi3 => (u.cell (p := ⟨w.heap.size, 3, none⟩) lKk).trans cKk3
            have HU0 := Lib.hid (fun u : Up wi3 => up_same (u := u) (HL0.out u.val))
            have HU1 := Lib.hid (fun u : Up wi3 => up_same (u := u) (HL1.out u.val))
            have HU2 := Lib.hid (fun u : Up wi3 => up_same (u := u) (HL2.out u.val))
            refine wp_region_up_tail 22 (by kernel_rfl) (by kernel_rfl) ?_
            simp only [List.take_succ_cons, List.take_zero, List.drop_succ_cons, List.drop_zero]
            repeat (go_big_quiet_step (fail))
            go_big_quiet_step (exact HU0.out _)
            repeat (go_big_quiet_step (fail))
            go_big_quiet_step (exact HU1.out _)
            repeat (go_big_quiet_step (fail))
            go_big_quiet_step (exact HU2.out _)
            repeat (go_big_quiet_step (fail))
            refine wpQuiet_nil ?_
            rintro _ ⟨uq, rfl⟩
            have hxx := Kx.below uq.ok lKx
            have htt := Kt.below uq.ok lKt
            clear a0 a1 a2 m0 m1 m2 m3 HU0 HU1 HU2 z0 z1 z2 z3 lKp cKp0 cKp1 cKp2 lKr cKr0 cKr1 cKr2 lKa cKa0 cKa1 cKa2 lKk cKk0 cKk1 cKk2 cKk3 lKv cKv0 cKv1 cKv2 cKv3 lKt cKt0 cKt1 cKt2 cKt3 lKx cKx0 cKx1 cKx2 cKx3 Kp Kr Ka Kk Kv
            replace hbw := btrans hbw uq.ok
            generalize hwx : uq.val = wz at *
            clear hwx uq Kx Kt
            have z0 := hxx.frozen 0
            have z1 := hxx.frozen 1
            have z2 := hxx.frozen 2
            have z3 := hxx.frozen 3
            have y0 := hxx.cell 0
            have y1 := hxx.cell 1
            have y2 := hxx.cell 2
            have y3 := hxx.cell 3
            simp only [List.getElem?_toArray, List.getElem?_cons_succ, List.getElem?_cons_zero] at y0 y1 y2 y3
            have hne : wi2.heap.size ≠ (wi2.heap.size + 1) := by omega
            have HBN := btrans hbi.out (bset (bset (bset (bset hbw (p := ⟨(wi2.heap.size + 1), 0, none⟩) (by have := HNS.out; simp; omega) (.int .u8 t0)) (p := ⟨(wi2.heap.size + 1), 1, none⟩) (by have := HNS.out; simp; omega) (.int .u8 t1)) (p := ⟨(wi2.heap.size + 1), 2, none⟩) (by have := HNS.out; simp; omega) (.int .u8 t2)) (p := ⟨(wi2.heap.size + 1), 3, none⟩) (by have := HNS.out; simp; omega) (.int .u8 255))
            replace HBN := Lib.hid HBN
            have HXX := Lib.hid hxx
            have HTT := Lib.hid htt
            have HNE := Lib.hid hne
            clear hxx htt hbw hne
            refine wpList_stop fun Kx9 HKx => ?_
            go_wp2_with fail
            have hxx : Blk _ ((wi2.heap.size + 1)) 27 #[.int .u8 t0, .int .u8 t1, .int .u8 t2, .int .u8 255] := (((HXX.out.set_ 0 (.int .u8 t0)).set_ 1 (.int .u8 t1)).set_ 2 (.int .u8 t2)).set_ 3 (.int .u8 255)
            have htt := (((HTT.out.far (p := ⟨(wi2.heap.size + 1), 0, none⟩) HNE.out (.int .u8 t0)).far (p := ⟨(wi2.heap.size + 1), 1, none⟩) HNE.out (.int .u8 t1)).far (p := ⟨(wi2.heap.size + 1), 2, none⟩) HNE.out (.int .u8 t2)).far (p := ⟨(wi2.heap.size + 1), 3, none⟩) HNE.out (.int .u8 255)
            generalize hwx : (((wz.setCell ⟨(wi2.heap.size + 1), 0, none⟩ (.int .u8 t0)).setCell ⟨(wi2.heap.size + 1), 1, none⟩ (.int .u8 t1)).setCell ⟨(wi2.heap.size + 1), 2, none⟩ (.int .u8 t2)).setCell ⟨(wi2.heap.size + 1), 3, none⟩ (.int .u8 255) = wy at *
            clear hwx y0 y1 y2 y3 z0 z1 z2 z3 HXX HTT HNE
            have y0 := hxx.cell 0
            have y1 := hxx.cell 1
            have y2 := hxx.cell 2
            have y3 := hxx.cell 3
            have x0 := htt.cell 0
            have x1 := htt.cell 1
            have x2 := htt.cell 2
            have x3 := htt.cell 3
            simp only [List.getElem?_toArray, List.getElem?_cons_succ, List.getElem?_cons_zero] at y0 y1 y2 y3 x0 x1 x2 x3
            clear hxx htt
            refine HKx.out _ _ ?_
            go_wp2_with fail
            go_roundw
            case rel => exact ⟨i + 1, by omega, by go_num, HBN⟩
            case measure => simp [intOf]; omega
        · obtain rfl : i = W := by omega
          have p0 := (HKp.out.below hbi.out HKp.out.lt).cell 0
          simp only [List.getElem?_toArray, List.getElem?_cons_succ, List.getElem?_cons_zero] at p0
          have di2 : decide ((i : Int) < (i : Int)) = false := by simp
          go_wp2_with fail
          go_roundw
          case rel => exact ⟨j + 1, by omega, by go_num, hbi⟩
          case measure => simp [intOf]; omega
    · obtain rfl : j = H := by omega
      have dj1 : decide ((j : Int) < (j : Int)) = false := by simp
      go_wp2_with fail
      go_ret
      exact ⟨by first | rfl | (simp; done), btrans HBW.out hbo.out⟩
end Go.Proofs.Ytmjpmeigfdgioaa.rg
