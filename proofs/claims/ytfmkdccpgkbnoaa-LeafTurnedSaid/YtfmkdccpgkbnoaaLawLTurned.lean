/-
  LeafTurned: a page's bytes with one turned: none, or another page's, that is put as just these.
-/
import Derived.Test.YtfmkdccpgkbnoaaLeafT
namespace Go.Proofs.Ytfmkdccpgkbnoaa.lf
set_option linter.unusedVariables false
set_option linter.unusedSimpArgs false
open Go.RowKit bs rg op

theorem xor_u8 (a b : UInt8) : bits .xor .u8 (a.toNat : Int) (b.toNat : Int) = ((a ^^^ b).toNat : Int) := by
  have ha := a.toNat_lt
  have hb := b.toNat_lt
  rw [u8_xor _ _ (by omega) (by omega) (by omega) (by omega)]
  simp
theorem xor_ne (a b : UInt8) : (a ^^^ b = a) ↔ b = 0 := by
  constructor
  · intro h
    have : a ^^^ (a ^^^ b) = a ^^^ a := by rw [h]
    simpa [← UInt8.xor_assoc] using this
  · rintro rfl; simp
theorem set_same (l : List UInt8) (i : Nat) (b : UInt8) (hi : i < l.length) : l.set i (l.getD i 0 ^^^ b) = l ↔ b = 0 := by
  constructor
  · intro h
    have : (l.set i (l.getD i 0 ^^^ b))[i]? = l[i]? := by rw [h]
    rw [List.getElem?_set_self hi, List.getElem?_eq_getElem hi, Option.some_inj] at this
    have e : l.getD i 0 = l[i] := by simp [List.getD, List.getElem?_eq_getElem hi]
    rw [e] at this
    exact (xor_ne _ _).1 this
  · rintro rfl
    have e : l.getD i 0 = l[i] := by simp [List.getD, List.getElem?_eq_getElem hi]
    rw [e]
    simp
theorem turned_facts {W H : Nat} (hW : 1 ≤ W ∧ W ≤ 64) (hH : 1 ≤ H ∧ H ≤ 64) (l c : List UInt8) (hl : l.length = 3 * W * H) (i : Nat) (hi : i < (putL W H l).length) (q : UInt8) (hc : (putL W H l).set i ((putL W H l).getD i 0 ^^^ q) = c) :
    (∃ er, (takeB c).2.2.2.2 = er ∧ (er = 3 ∨ er = 4) ∧ q ≠ 0) ∨
    (∃ V G pix, (1 ≤ V ∧ V ≤ 64) ∧ (1 ≤ G ∧ G ≤ 64) ∧ pix.length = 3 * (V * G) ∧ takeB c = (V, G, pix, ([], 0)) ∧ putL V G pix = c ∧ ((W = V ∧ H = G ∧ l = pix) ↔ q = 0)) := by
  have hs := set_same (putL W H l) i q hi
  rw [hc] at hs
  have hp := takeB_put hW hH l hl
  obtain ⟨V, G, pix, sf, ht⟩ : ∃ V G pix sf, takeB c = (V, G, pix, sf) := ⟨_, _, _, _, rfl⟩
  by_cases h0 : sf.2 = 0
  · right
    obtain ⟨hV, hG, hpl, hcp⟩ := takeB_inv ht h0
    have ht2 := takeB_put hV hG pix hpl
    rw [← hcp] at ht2
    refine ⟨V, G, pix, hV, hG, by rw [hpl, three_mul], ht2, hcp.symm, ?_⟩
    constructor
    · rintro ⟨rfl, rfl, rfl⟩
      exact hs.1 hcp
    · intro hq
      have e := hs.2 hq
      rw [e, hp] at ht2
      simp only [Prod.mk.injEq] at ht2
      exact ⟨ht2.1, ht2.2.1, ht2.2.2.1⟩
  · left
    have he := takeB_er c
    rw [ht] at he
    refine ⟨sf.2, by rw [ht], ?_, ?_⟩
    · rcases he with he | he
      · exact absurd he h0
      · exact he
    · intro hq
      have e := hs.2 hq
      rw [e, hp] at ht
      simp only [Prod.mk.injEq] at ht
      rw [← ht.2.2.2] at h0
      exact h0 rfl
set_option maxRecDepth 100000 in
set_option maxHeartbeats 3200000 in
theorem turned_law (A1 : Option Addr) (n1 c1 : Nat) (ns1 : Nat → Int) (x y z k : Int) (w : World) (hr1 : Ints w A1 n1 c1 ns1) (hn1 : n1 ≤ 9223372036854775807) (_hx : -9223372036854775808 ≤ x ∧ x ≤ 9223372036854775807) (_hy : -9223372036854775808 ≤ y ∧ y ≤ 9223372036854775807) (_hz : -9223372036854775808 ≤ z ∧ z ≤ 9223372036854775807) (hk : 0 ≤ k ∧ k ≤ 255) :
    Calls Try.prog 8 #[.slice A1 n1 c1, .int .i64 x, .int .i64 y, .int .i64 z, .int .u8 k] w fun ed w' => ed = .returned (.bool true) ∧ Below w.heap.size w w' := by
  obtain ⟨W, hW, hW2, hxW, hx0, hx1⟩ := side_fix x 9 (by decide) (by decide)
  obtain ⟨H, hH, hH2, hyH, hy0, hy1⟩ := side_fix y 9 (by decide) (by decide)
  have hPX := fun W => place_any x 9 W (by decide) (by decide)
  have hPY := fun W => place_any y 9 W (by decide) (by decide)
  obtain ⟨zx, hzx⟩ : ∃ z, x % 9 = z := ⟨_, rfl⟩
  obtain ⟨zy, hzy⟩ : ∃ z, y % 9 = z := ⟨_, rfl⟩
  rw [hzx] at hPX hxW hx0 hx1
  rw [hzy] at hPY hyH hy0 hy1
  have HXW := Lib.hid hxW
  have HYH := Lib.hid hyH
  have HPX := Lib.hid hPX
  have HPY := Lib.hid hPY
  obtain ⟨N, hN⟩ : ∃ N, N = 3 * (W * H) := ⟨_, rfl⟩
  have HPG := Lib.hid (fun W' h => lpage_any A1 n1 c1 ns1 W H N W' h hn1 hW hH hN)
  have HPU := Lib.hid (fun A c l W' hb => lput_any W H N c A l W' hW hH hN hb)
  have HWW := Lib.hid hW
  have HHH := Lib.hid hH
  have HLE := Lib.hid (show ∀ l : List UInt8, l.length = N → (putL W H l).length ≤ 12355 from fun l hl => by
    have h := encs_len W l 0 H (by rw [Nat.zero_add, hl, hN, three_mul]; exact Nat.le_refl _)
    have h2 : H * (1 + 3 * W) ≤ 9 * 37 := Nat.mul_le_mul (by omega) (by omega)
    unfold putL headL
    simp only [List.length_append, List.length_cons, List.length_nil]
    omega)
  have HN := Lib.hid (show N = 3 * W * H by rw [hN, three_mul])
  have HI1 := Lib.hid hr1
  obtain ⟨q, rfl⟩ := byte_of k hk
  clear hxW hyH hPX hPY hzx hzy hN hr1 hn1 _hx _hy hk hW2 hH2
  go_enter Try.func8, Try.ntmps8
  go_wp2_with fail
  have hst0 : Below w.heap.size w w := by (repeat' (first | exact Below.refl _ _ | exact Below.refl _ _ | refine balloc ?_ _ | refine Below.drew ?_ | refine below_drewN ?_ _ | refine bset ?_ (by first | omega | (simp <;> omega)) _))
  refine (lknown_any _).mono ?_
  rintro e_ w1 ⟨rfl, hb⟩
  have hst : Below w.heap.size w w1 := btrans hst0 hb
  have hbw : Below w.heap.size w w1 := hst
  replace HI1 := Lib.hid (HI1.out.below hst)
  clear hst hst0 hb 
  go_wp2_with fail
  refine (HPX.out _).mono ?_
  rintro e_ w_ ⟨rfl, rfl⟩
  go_wp2_with fail
  refine (HPY.out _).mono ?_
  rintro e_ w_ ⟨rfl, rfl⟩
  go_wp2_with fail
  rw [HXW.out, HYH.out]
  clear hx0 hx1 hy0 hy1
  have hst0 : Below w1.heap.size w1 w1 := by (repeat' (first | exact Below.refl _ _ | exact Below.refl _ _ | refine balloc ?_ _ | refine Below.drew ?_ | refine below_drewN ?_ _ | refine bset ?_ (by first | omega | (simp <;> omega)) _))
  refine (HPG.out _ (HI1.out.below hst0)).mono ?_
  rintro e_ w2 ⟨gp, B, rfl, hP0, hb⟩
  have hst : Below w1.heap.size w1 w2 := btrans hst0 hb
  replace hbw : Below w.heap.size w w2 := btrans hbw hst
  replace HI1 := Lib.hid (HI1.out.below hst)
  clear hst hst0 hb 
  obtain ⟨l, hl⟩ : ∃ l, listB N B = l := ⟨_, rfl⟩
  have hP := lf.Pg.lb hP0
  rw [hl] at hP
  have HLL := Lib.hid (show l.length = N from hP.len)
  clear hP0 hl
  have HhP := Lib.hid hP
  clear hP
  go_wp2_with fail
  have hst0 : Below w2.heap.size w2 (w2.alloc (.cells #[.int .i64 (W : Int), .int .i64 (H : Int), .slice (some ⟨gp, 0, none⟩) N N] 24)) := by (repeat' (first | exact Below.refl _ _ | exact Below.refl _ _ | refine balloc ?_ _ | refine Below.drew ?_ | refine below_drewN ?_ _ | refine bset ?_ (by first | omega | (simp <;> omega)) _))
  refine (HPU.out _ _ _ _ (HhP.out.below hst0)).mono ?_
  rintro e_ w3 ⟨Dq, m, dq, rfl, hQ, hm, hb⟩
  have hst : Below w2.heap.size w2 w3 := btrans hst0 hb
  have Kp := (Blk.new w2 24 #[.int .i64 (W : Int), .int .i64 (H : Int), .slice (some ⟨gp, 0, none⟩) N N])
  replace Kp := Kp.below hb Kp.lt
  replace hbw : Below w.heap.size w w3 := btrans hbw hst
  replace HI1 := Lib.hid (HI1.out.below hst)
  replace HhP := Lib.hid (HhP.out.below hst)
  clear hst hst0 hb 
  have HhQ := Lib.hid hQ
  clear hQ
  have lKp := Kp.lt
  have cKp0 := Kp.cell 0
  have cKp1 := Kp.cell 1
  have cKp2 := Kp.cell 2
  simp only [List.getElem?_toArray, List.getElem?_cons_succ, List.getElem?_cons_zero] at cKp0 cKp1 cKp2
  obtain ⟨hm0, hm1⟩ := hm
  have hm2 : m ≤ 12355 := by have := HLE.out l HLL.out; rw [HhQ.out.len] at this; exact this
  obtain ⟨i, hi, him⟩ := place_fix z m (by omega)
  have hPZ := fun W => place_any z (m : Int) W (by omega) (by omega)
  rw [hi] at hPZ
  have hxo := xor_u8 ((putL W H l).getD i 0) q
  have hxn := turned_facts hW hH l _ (by rw [HLL.out]; exact HN.out) i (by rw [HhQ.out.len]; exact him) q rfl
  obtain ⟨b, hb⟩ : ∃ b, putL W H l = b := ⟨_, rfl⟩
  rw [hb] at hxo hxn HhQ
  have HPL := Lib.hid hb
  obtain ⟨b0, hb0⟩ : ∃ b0, b.getD i 0 = b0 := ⟨_, rfl⟩
  obtain ⟨x0, hx0⟩ : ∃ x0, b0 ^^^ q = x0 := ⟨_, rfl⟩
  rw [hb0] at hxo hxn
  rw [hx0] at hxo hxn
  have HB0 := Lib.hid hb0
  have HXN := Lib.hid hxn
  have HPZ := Lib.hid hPZ
  have hlt8 : decide ((m : Int) < 8) = false := by simp; omega
  have him0 : (i : Int) < (m : Int) := by omega
  clear hPZ hi hb hxn hb0 hx0
  go_wp2_with (at_builtin; refine Held.of ?_)
  unfold Held
  have hst0 : Below w3.heap.size w3 w3 := by (repeat' (first | exact Below.refl _ _ | exact Below.refl _ _ | refine balloc ?_ _ | refine Below.drew ?_ | refine below_drewN ?_ _ | refine bset ?_ (by first | omega | (simp <;> omega)) _))
  have hLn := LB.len ((HhQ.out.below hst0) : LB _ _ m _ _)
  refine wpList_copy (.tmp 41) (.tmp 42) _ _ _ _ rfl rfl (by first | rfl | (rw [size_alloc]; rfl) | (rw [size_alloc, size_alloc]; rfl)) rfl ((HhQ.out.below hst0)) (by omega) ?_
  intro vt w4 hO hb
  obtain ⟨gt, ct, rfl, hge, hltt, hnct, hcell, hset⟩ := hO.slot hLn (by omega)
  have HB := Lib.hid hb
  have HSET := Lib.hid hset
  have HCELL := Lib.hid hcell
  have HGE := Lib.hid hge
  clear hO hLn hb hset hcell hge
  go_wp2_with fail
  refine (HPZ.out _).mono ?_
  rintro e_ w_ ⟨rfl, rfl⟩
  have hci := (HCELL.out i him).1
  rw [HB0.out] at hci
  have hfi := (HCELL.out i him).2
  go_wp2_with (at_builtin; refine Held.of ?_)
  unfold Held
  have ht := HSET.out i (x0) (by omega)
  have hb := bset HB.out (p := ⟨gt, i, none⟩) HGE.out (.int .u8 ((x0).toNat : Int))
  have hzs : (w4.setCell ⟨gt, i, none⟩ (.int .u8 ((x0).toNat : Int))).heap.size = w4.heap.size := by simp
  generalize hwx : w4.setCell ⟨gt, i, none⟩ (.int .u8 ((x0).toNat : Int)) = w5 at *
  clear hwx HSET HB HCELL HGE
  have hst : Below w3.heap.size w3 w5 := btrans hst0 hb
  replace Kp := Kp.below hb Kp.lt
  replace hbw : Below w.heap.size w w5 := btrans hbw hst
  replace HI1 := Lib.hid (HI1.out.below hst)
  replace HhP := Lib.hid (HhP.out.below hst)
  replace HhQ := Lib.hid (HhQ.out.below hst)
  clear hst hst0 hb lKp cKp0 cKp1 cKp2
  have Hht := Lib.hid ht
  clear ht
  have lKp := Kp.lt
  have cKp0 := Kp.cell 0
  have cKp1 := Kp.cell 1
  have cKp2 := Kp.cell 2
  simp only [List.getElem?_toArray, List.getElem?_cons_succ, List.getElem?_cons_zero] at cKp0 cKp1 cKp2
  obtain ⟨d, hd⟩ : ∃ d, b.set i x0 = d := ⟨_, rfl⟩
  rw [hd] at Hht
  have hx := HXN.out
  rw [hd] at hx
  clear HXN hd hxo
  have hst0 : Below w5.heap.size w5 w5 := by (repeat' (first | exact Below.refl _ _ | exact Below.refl _ _ | refine balloc ?_ _ | refine Below.drew ?_ | refine below_drewN ?_ _ | refine bset ?_ (by first | omega | (simp <;> omega)) _))
  have hLn := LB.len ((Hht.out.below hst0) : LB _ _ m _ _)
  refine wpList_copy (.tmp 55) (.tmp 56) _ _ _ _ rfl rfl (by rw [hzs]; rfl) rfl ((Hht.out.below hst0)) (by omega) ?_
  intro vc w6 hO hb
  have hst : Below w5.heap.size w5 w6 := btrans hst0 hb
  replace Kp := Kp.below hb Kp.lt
  replace hbw : Below w.heap.size w w6 := btrans hbw hst
  replace HI1 := Lib.hid (HI1.out.below hst)
  replace HhP := Lib.hid (HhP.out.below hst)
  replace HhQ := Lib.hid (HhQ.out.below hst)
  replace Hht := Lib.hid (Hht.out.below hst)
  clear hst hst0 hb lKp cKp0 cKp1 cKp2
  obtain ⟨Ac, cc, rfl, hc⟩ := hO.lbn hLn
  clear hO hLn
  have Hhc := Lib.hid hc
  clear hc
  have lKp := Kp.lt
  have cKp0 := Kp.cell 0
  have cKp1 := Kp.cell 1
  have cKp2 := Kp.cell 2
  simp only [List.getElem?_toArray, List.getElem?_cons_succ, List.getElem?_cons_zero] at cKp0 cKp1 cKp2
  clear hzs
  rcases hx with ⟨er, hte, her, hq⟩ | ⟨V, G, pix, hV, hG, hpl, hte, hpd, hsm⟩
  · have hq1 : ¬ q.toNat = 0 := fun e => hq (by apply UInt8.toNat_inj.mp; exact e)
    have hq0 : ((q.toNat : Int) == 0) = false := by simpa using hq1
    clear hq
    have hne : er ≠ 0 := by omega
    go_wp2_with fail
    have hst0 : Below w6.heap.size w6 w6 := by (repeat' (first | exact Below.refl _ _ | exact Below.refl _ _ | refine balloc ?_ _ | refine Below.drew ?_ | refine below_drewN ?_ _ | refine bset ?_ (by first | omega | (simp <;> omega)) _))
    refine (ltake_bad _ _ _ _ _ (by omega) (Hhc.out.below hst0) er hne hte).mono ?_
    rintro e_ w7 ⟨rfl, hb⟩
    have hst : Below w6.heap.size w6 w7 := btrans hst0 hb
    replace Kp := Kp.below hb Kp.lt
    replace hbw : Below w.heap.size w w7 := btrans hbw hst
    replace HI1 := Lib.hid (HI1.out.below hst)
    replace HhP := Lib.hid (HhP.out.below hst)
    replace HhQ := Lib.hid (HhQ.out.below hst)
    replace Hht := Lib.hid (Hht.out.below hst)
    replace Hhc := Lib.hid (Hhc.out.below hst)
    clear hst hst0 hb lKp cKp0 cKp1 cKp2
    have lKp := Kp.lt
    have cKp0 := Kp.cell 0
    have cKp1 := Kp.cell 1
    have cKp2 := Kp.cell 2
    simp only [List.getElem?_toArray, List.getElem?_cons_succ, List.getElem?_cons_zero] at cKp0 cKp1 cKp2
    clear hte hne
    rcases her with rfl | rfl
    · go_wp2_with fail
      go_ret
      exact ⟨by first | rfl | (simp; done) | (simp [hq1]; done), by (repeat' (first | exact hbw | exact Below.refl _ _ | refine balloc ?_ _ | refine Below.drew ?_ | refine below_drewN ?_ _ | refine bset ?_ (by first | omega | (simp <;> omega)) _))⟩
    · go_wp2_with fail
      go_ret
      exact ⟨by first | rfl | (simp; done) | (simp [hq1]; done), by (repeat' (first | exact hbw | exact Below.refl _ _ | refine balloc ?_ _ | refine Below.drew ?_ | refine below_drewN ?_ _ | refine bset ?_ (by first | omega | (simp <;> omega)) _))⟩
  · skip
    have HPL2 := Lib.hid hpl
    have HPD := Lib.hid hpd
    obtain ⟨NN, hNN⟩ : ∃ NN, pix.length = NN := ⟨_, rfl⟩
    have HTK := Lib.hid (fun A c W' hb => ltake_ok A m c d W' (by omega) hb V G pix NN hte hNN)
    have HPU2 := Lib.hid (fun A c W' hb => lput_any V G NN c A pix W' hV hG (hNN ▸ hpl) hb)
    obtain ⟨sb, hsb⟩ : ∃ sb, decide (q = 0) = sb := ⟨_, rfl⟩
    have hq0 : ((q.toNat : Int) == 0) = sb := by
      rw [← hsb]
      by_cases e : q = 0
      · subst e; rfl
      · have : q.toNat ≠ 0 := fun h => e (by apply UInt8.toNat_inj.mp; exact h)
        simp [e, this]
    have HSB := Lib.hid hsb
    have HSM := Lib.hid hsm
    have HVV := Lib.hid hV
    have HGG := Lib.hid hG
    clear hpl hpd hNN hte hsb hsm hV hG
    go_wp2_with fail
    have hst0 : Below w6.heap.size w6 w6 := by (repeat' (first | exact Below.refl _ _ | exact Below.refl _ _ | refine balloc ?_ _ | refine Below.drew ?_ | refine below_drewN ?_ _ | refine bset ?_ (by first | omega | (simp <;> omega)) _))
    refine (HTK.out _ _ _ (Hhc.out.below hst0)).mono ?_
    rintro e_ w7 ⟨Dt, ft, rfl, hk, hb⟩
    have hst : Below w6.heap.size w6 w7 := btrans hst0 hb
    replace Kp := Kp.below hb Kp.lt
    replace hbw : Below w.heap.size w w7 := btrans hbw hst
    replace HI1 := Lib.hid (HI1.out.below hst)
    replace HhP := Lib.hid (HhP.out.below hst)
    replace HhQ := Lib.hid (HhQ.out.below hst)
    replace Hht := Lib.hid (Hht.out.below hst)
    replace Hhc := Lib.hid (Hhc.out.below hst)
    clear hst hst0 hb lKp cKp0 cKp1 cKp2
    have Hhk := Lib.hid hk
    clear hk
    have lKp := Kp.lt
    have cKp0 := Kp.cell 0
    have cKp1 := Kp.cell 1
    have cKp2 := Kp.cell 2
    simp only [List.getElem?_toArray, List.getElem?_cons_succ, List.getElem?_cons_zero] at cKp0 cKp1 cKp2
    go_wp2_with fail
    have hst0 : Below w7.heap.size w7 (w7.alloc (.cells #[.int .i64 (V : Int), .int .i64 (G : Int), .slice Dt NN ft] 24)) := by (repeat' (first | exact Below.refl _ _ | exact Below.refl _ _ | refine balloc ?_ _ | refine Below.drew ?_ | refine below_drewN ?_ _ | refine bset ?_ (by first | omega | (simp <;> omega)) _))
    refine (HPU2.out _ _ _ (Hhk.out.below hst0)).mono ?_
    rintro e_ w8 ⟨Du, mu, fu, rfl, hu, hmu, hb⟩
    rw [HPD.out] at hu
    clear hmu
    have hst : Below w7.heap.size w7 w8 := btrans hst0 hb
    replace Kp := (Kp.alloc (.cells #[.int .i64 (V : Int), .int .i64 (G : Int), .slice Dt NN ft] 24))
    have Kt := (Blk.new w7 24 #[.int .i64 (V : Int), .int .i64 (G : Int), .slice Dt NN ft])
    replace Kp := Kp.below hb Kp.lt
    replace Kt := Kt.below hb Kt.lt
    replace hbw : Below w.heap.size w w8 := btrans hbw hst
    replace HI1 := Lib.hid (HI1.out.below hst)
    replace HhP := Lib.hid (HhP.out.below hst)
    replace HhQ := Lib.hid (HhQ.out.below hst)
    replace Hht := Lib.hid (Hht.out.below hst)
    replace Hhc := Lib.hid (Hhc.out.below hst)
    replace Hhk := Lib.hid (Hhk.out.below hst)
    clear hst hst0 hb lKp cKp0 cKp1 cKp2
    have Hhu := Lib.hid hu
    clear hu
    have lKp := Kp.lt
    have cKp0 := Kp.cell 0
    have cKp1 := Kp.cell 1
    have cKp2 := Kp.cell 2
    have lKt := Kt.lt
    have cKt0 := Kt.cell 0
    have cKt1 := Kt.cell 1
    have cKt2 := Kt.cell 2
    simp only [List.getElem?_toArray, List.getElem?_cons_succ, List.getElem?_cons_zero] at cKp0 cKp1 cKp2 cKt0 cKt1 cKt2
    go_wp2_with fail
    have hst0 : Below w8.heap.size w8 w8 := by (repeat' (first | exact Below.refl _ _ | exact Below.refl _ _ | refine balloc ?_ _ | refine Below.drew ?_ | refine below_drewN ?_ _ | refine bset ?_ (by first | omega | (simp <;> omega)) _))
    refine (hbytes_any _ _ _ _ _ _ _ _ _ (Hhu.out.below hst0) (Hht.out.below hst0)).mono ?_
    rintro e_ w9 ⟨rfl, hb⟩
    have hst : Below w8.heap.size w8 w9 := btrans hst0 hb
    replace Kp := Kp.below hb Kp.lt
    replace Kt := Kt.below hb Kt.lt
    replace hbw : Below w.heap.size w w9 := btrans hbw hst
    replace HI1 := Lib.hid (HI1.out.below hst)
    replace HhP := Lib.hid (HhP.out.below hst)
    replace HhQ := Lib.hid (HhQ.out.below hst)
    replace Hht := Lib.hid (Hht.out.below hst)
    replace Hhc := Lib.hid (Hhc.out.below hst)
    replace Hhk := Lib.hid (Hhk.out.below hst)
    replace Hhu := Lib.hid (Hhu.out.below hst)
    clear hst hst0 hb lKp cKp0 cKp1 cKp2 lKt cKt0 cKt1 cKt2
    have lKp := Kp.lt
    have cKp0 := Kp.cell 0
    have cKp1 := Kp.cell 1
    have cKp2 := Kp.cell 2
    have lKt := Kt.lt
    have cKt0 := Kt.cell 0
    have cKt1 := Kt.cell 1
    have cKt2 := Kt.cell 2
    simp only [List.getElem?_toArray, List.getElem?_cons_succ, List.getElem?_cons_zero] at cKp0 cKp1 cKp2 cKt0 cKt1 cKt2
    simp only [decide_true]
    have HSA := Lib.hid (show ∀ W', Below w9.heap.size w9 W' → Calls Try.prog 22 #[.agg #[.int .i64 (W : Int), .int .i64 (H : Int), .slice (some ⟨gp, 0, none⟩) N N], .agg #[.int .i64 (V : Int), .int .i64 (G : Int), .slice Dt NN ft]] W' fun e w' => e = .returned (.bool sb) ∧ Below W'.heap.size W' w' from by
      intro W' hW'
      by_cases hvg : W = V ∧ H = G
      · obtain ⟨rfl, rfl⟩ := hvg
        have hs := lsame_eq W H _ _ _ _ _ _ _ _ W' (HhP.out.below hW') (Hhk.out.below hW')
        rw [show decide (l = pix) = sb by rw [← HSB.out]; exact decide_eq_decide.mpr (by have := HSM.out; simpa using this)] at hs
        exact hs
      · have hs := lsame_ne (W : Int) (H : Int) (V : Int) (G : Int) (some ⟨gp, 0, none⟩) Dt N N NN ft W' (fun e => hvg ⟨by omega, by omega⟩)
        rw [show sb = false by rw [← HSB.out]; exact decide_eq_false (fun e => hvg (by have := HSM.out.2 e; exact ⟨this.1, this.2.1⟩))]
        exact hs)
    clear HSM HSB
    go_wp2_with fail
    have hst0 : Below w9.heap.size w9 w9 := by (repeat' (first | exact Below.refl _ _ | exact Below.refl _ _ | refine balloc ?_ _ | refine Below.drew ?_ | refine below_drewN ?_ _ | refine bset ?_ (by first | omega | (simp <;> omega)) _))
    refine (HSA.out _ hst0).mono ?_
    rintro e_ w10 ⟨rfl, hb⟩
    have hst : Below w9.heap.size w9 w10 := btrans hst0 hb
    replace Kp := Kp.below hb Kp.lt
    replace Kt := Kt.below hb Kt.lt
    replace hbw : Below w.heap.size w w10 := btrans hbw hst
    replace HI1 := Lib.hid (HI1.out.below hst)
    replace HhP := Lib.hid (HhP.out.below hst)
    replace HhQ := Lib.hid (HhQ.out.below hst)
    replace Hht := Lib.hid (Hht.out.below hst)
    replace Hhc := Lib.hid (Hhc.out.below hst)
    replace Hhk := Lib.hid (Hhk.out.below hst)
    replace Hhu := Lib.hid (Hhu.out.below hst)
    clear hst hst0 hb lKp cKp0 cKp1 cKp2 lKt cKt0 cKt1 cKt2
    have lKp := Kp.lt
    have cKp0 := Kp.cell 0
    have cKp1 := Kp.cell 1
    have cKp2 := Kp.cell 2
    have lKt := Kt.lt
    have cKt0 := Kt.cell 0
    have cKt1 := Kt.cell 1
    have cKt2 := Kt.cell 2
    simp only [List.getElem?_toArray, List.getElem?_cons_succ, List.getElem?_cons_zero] at cKp0 cKp1 cKp2 cKt0 cKt1 cKt2
    go_wp2_with fail
    go_ret
    exact ⟨by first | rfl | (simp; done) | (simp [hq1]; done), by (repeat' (first | exact hbw | exact Below.refl _ _ | refine balloc ?_ _ | refine Below.drew ?_ | refine below_drewN ?_ _ | refine bset ?_ (by first | omega | (simp <;> omega)) _))⟩
end Go.Proofs.Ytfmkdccpgkbnoaa.lf
