/-
  LeafRows: a page's bytes are four, and its rows' bytes, each row as it would be by itself.
-/
import Derived.Test.YtfmkdccpgkbnoaaLeafT
namespace Go.Proofs.Ytfmkdccpgkbnoaa.lf
set_option linter.unusedVariables false
set_option linter.unusedSimpArgs false
open Go.RowKit bs rg op

theorem LB.cut {w : World} {b o n c : Nat} {l : List UInt8} (h : LB w (some ⟨b, o, none⟩) n c l) (i k : Nat) (hi : i ≤ k) (hk : k ≤ n) : LB w (some ⟨b, o + i, none⟩) (k - i) (c - i) ((l.drop i).take (k - i)) :=
  ⟨lf.Bytes.cut h.1 i k hi hk b o rfl, .inr ⟨b, o + i, rfl, by
    rcases h.2 with h2 | ⟨b', o', e, h2⟩
    · cases h2
    · cases e; exact h2⟩⟩
theorem putL_one (W : Nat) (r : List UInt8) (h : r.length = 3 * W) : (putL W 1 r).drop 4 = encRow W r := by
  have e : rowOf W r 0 = r := by unfold rowOf; rw [Nat.mul_zero, List.drop_zero, ← h, List.take_length]
  unfold putL headL
  simp [encs, e]
theorem putL_take (W H : Nat) (l : List UInt8) : (putL W H l).take 4 = headL W H := by
  unfold putL headL
  simp
set_option maxRecDepth 100000 in
set_option maxHeartbeats 3200000 in
theorem rows_law (A1 : Option Addr) (n1 c1 : Nat) (ns1 : Nat → Int) (x y : Int) (w : World) (hr1 : Ints w A1 n1 c1 ns1) (hn1 : n1 ≤ 9223372036854775807) (_hx : -9223372036854775808 ≤ x ∧ x ≤ 9223372036854775807) (_hy : -9223372036854775808 ≤ y ∧ y ≤ 9223372036854775807) :
    Calls Try.prog 6 #[.slice A1 n1 c1, .int .i64 x, .int .i64 y] w fun ed w' => ed = .returned (.bool true) ∧ Below w.heap.size w w' := by
  obtain ⟨W, hW, hW2, hxW, hx0, hx1⟩ := side_fix x 14 (by decide) (by decide)
  obtain ⟨H, hH, hH2, hyH, hy0, hy1⟩ := side_fix y 8 (by decide) (by decide)
  have hPX := fun W => place_any x 14 W (by decide) (by decide)
  have hPY := fun W => place_any y 8 W (by decide) (by decide)
  obtain ⟨zx, hzx⟩ : ∃ z, x % 14 = z := ⟨_, rfl⟩
  obtain ⟨zy, hzy⟩ : ∃ z, y % 8 = z := ⟨_, rfl⟩
  rw [hzx] at hPX hxW hx0 hx1
  rw [hzy] at hPY hyH hy0 hy1
  have HPX := Lib.hid hPX
  have HPY := Lib.hid hPY
  obtain ⟨N, hN⟩ : ∃ N, N = 3 * (W * H) := ⟨_, rfl⟩
  have HPG := Lib.hid (fun W' h => lpage_any A1 n1 c1 ns1 W H N W' h hn1 hW hH hN)
  have HPU := Lib.hid (fun A c l W' hb => lput_any W H N c A l W' hW hH hN hb)
  have HPO := Lib.hid (fun (r : Nat) (hr : 3 * W = r) A c l W' hb => lput_any W 1 r c A l W' hW (by decide) (by omega) hb)
  have HN := Lib.hid (show N = 3 * W * H by rw [hN, three_mul])
  have HI1 := Lib.hid hr1
  obtain ⟨hW0, hW1⟩ := hW
  obtain ⟨hH0, hH1⟩ := hH
  clear hPX hPY hzx hzy hN hr1 hn1 _hx _hy hW2 hH2
  go_enter Try.func6, Try.ntmps6
  go_wp2_with fail
  have hst0 : Below w.heap.size w w := by (repeat' (first | exact Below.refl _ _ | exact Below.refl _ _ | refine balloc ?_ _ | refine Below.drew ?_ | refine below_drewN ?_ _ | refine bset ?_ (by first | omega | (simp <;> omega)) _))
  refine (lknown_any _).mono ?_
  rintro e_ w1 ⟨rfl, hb⟩
  have hst : Below w.heap.size w w1 := btrans hst0 hb
  have hbw : Below w.heap.size w w1 := hst
  replace HI1 := Lib.hid (HI1.out.below hst)
  clear hst hst0 hb 
  go_wp2_with fail
  refine (HPX.out _).mono ?_
  rintro e_ w_ ⟨rfl, rfl⟩
  go_wp2_with fail
  refine (HPY.out _).mono ?_
  rintro e_ w_ ⟨rfl, rfl⟩
  go_wp2_with fail
  clear hx0 hx1 hy0 hy1 hxW hyH
  have hst0 : Below w1.heap.size w1 w1 := by (repeat' (first | exact Below.refl _ _ | exact Below.refl _ _ | refine balloc ?_ _ | refine Below.drew ?_ | refine below_drewN ?_ _ | refine bset ?_ (by first | omega | (simp <;> omega)) _))
  refine (HPG.out _ (HI1.out.below hst0)).mono ?_
  rintro e_ w2 ⟨gp, B, rfl, hP0, hb⟩
  have hst : Below w1.heap.size w1 w2 := btrans hst0 hb
  replace hbw : Below w.heap.size w w2 := btrans hbw hst
  replace HI1 := Lib.hid (HI1.out.below hst)
  clear hst hst0 hb 
  obtain ⟨l, hl⟩ : ∃ l, listB N B = l := ⟨_, rfl⟩
  have hP := lf.Pg.lb hP0
  rw [hl] at hP
  have HLL := Lib.hid (show l.length = N from hP.len)
  clear hP0 hl
  have HhP := Lib.hid hP
  clear hP
  go_wp2_with fail
  have hst0 : Below w2.heap.size w2 (w2.alloc (.cells #[.int .i64 (W : Int), .int .i64 (H : Int), .slice (some ⟨gp, 0, none⟩) N N] 24)) := by (repeat' (first | exact Below.refl _ _ | exact Below.refl _ _ | refine balloc ?_ _ | refine Below.drew ?_ | refine below_drewN ?_ _ | refine bset ?_ (by first | omega | (simp <;> omega)) _))
  refine (HPU.out _ _ _ _ (HhP.out.below hst0)).mono ?_
  rintro e_ w3 ⟨Dq, m, dq, rfl, hQ, hm, hb⟩
  have hst : Below w2.heap.size w2 w3 := btrans hst0 hb
  have Kp := (Blk.new w2 24 #[.int .i64 (W : Int), .int .i64 (H : Int), .slice (some ⟨gp, 0, none⟩) N N])
  replace Kp := Kp.below hb Kp.lt
  replace hbw : Below w.heap.size w w3 := btrans hbw hst
  replace HI1 := Lib.hid (HI1.out.below hst)
  replace HhP := Lib.hid (HhP.out.below hst)
  clear hst hst0 hb 
  have lKp := Kp.lt
  have cKp0 := Kp.cell 0
  have cKp1 := Kp.cell 1
  have cKp2 := Kp.cell 2
  simp only [List.getElem?_toArray, List.getElem?_cons_succ, List.getElem?_cons_zero] at cKp0 cKp1 cKp2
  obtain ⟨hm0, hm1⟩ := hm
  obtain ⟨bq, oq, rfl, hbq, hcq⟩ := hQ.1.2.2 (by omega)
  have hlt4 : decide ((m : Int) < 4) = false := by simp; omega
  have hcap : m ≤ dq := hQ.1.2.1
  clear hbq hcq
  have HhQ := Lib.hid hQ
  clear hQ
  go_wp2_with (at_builtin; refine Held.of ?_)
  unfold Held
  refine wpList_copy (.tmp 40) (.tmp 42) _ _ _ _ rfl rfl rfl rfl (LB.take (i := 4) HhQ.out (by omega)) (by omega) ?_
  intro vw w4 hO hb
  rw [putL_take] at hO
  have HO4 := Lib.hid hO
  have HB4 := Lib.hid hb
  have hlp := Kp.lt
  have HKp := Lib.hid Kp
  have HBW := Lib.hid hbw
  clear hO hb hbw lKp cKp0 cKp1 cKp2 Kp
  go_wp2_with fail
  go_loopw [12, 13] (fun ov jv wr => ∃ j : Nat, j ≤ H ∧ jv = .int .i64 (j : Int) ∧ Hid (OwnB wr w3.heap.size ov (headL W H ++ encs W l 0 j) ∧ Below w3.heap.size w3 wr)) (fun _ jv _ => 64 - (intOf jv).toNat)
  case atStart => exact ⟨0, by omega, rfl, Lib.hid ⟨by rw [encs, List.append_nil]; exact HO4.out, HB4.out⟩⟩
  case round =>
    clear HO4 HB4
    obtain ⟨j, hj, rfl, hR⟩ := hrel
    obtain ⟨wo, rfl⟩ : ∃ wo, wo = wr := ⟨_, rfl⟩
    have hOo := hR.out.1
    have HBo := Lib.hid hR.out.2
    obtain ⟨don, hdon⟩ : ∃ x, headL W H ++ encs W l 0 j = x := ⟨_, rfl⟩
    rw [hdon] at hOo
    have HDON := Lib.hid hdon
    have HO := Lib.hid hOo
    clear hR hdon hOo
    by_cases hend : j = H
    · subst hend
      obtain ⟨Aw, cw, rfl, hW4⟩ := (HO.out).lb
      have HW4 := Lib.hid hW4
      have hq1 := LB.below HhQ.out HBo.out
      clear hW4
      obtain ⟨k2, k3⟩ : wo.cell? ⟨bq, oq + 2, none⟩ = some (.int .u8 (W : Int)) ∧ wo.cell? ⟨bq, oq + 3, none⟩ = some (.int .u8 (j : Int)) := by
        obtain ⟨b', o', e, hlt, hc⟩ := hq1.1.2.2 (by omega)
        cases e
        have g2 := hc 2 (by rw [hq1.len]; omega)
        have g3 := hc 3 (by rw [hq1.len]; omega)
        have e2 : ((UInt8.ofNat W).toNat : Int) = W := by rw [ofNat_toNat (by omega)]
        have e3 : ((UInt8.ofNat j).toNat : Int) = j := by rw [ofNat_toNat (by omega)]
        simp only [putL, headL, List.cons_append, List.getElem_cons_succ, List.getElem_cons_zero, e2, e3] at g2 g3
        exact ⟨g2, g3⟩
      have HC := Lib.hid (fun W' (hW' : Below wo.heap.size wo W') => hbytes_any _ _ _ _ _ _ _ _ W' (hq1.below hW') (HW4.out.below hW'))
      have heq : decide (putL W j l = don) = true := by rw [← HDON.out]; exact decide_eq_true rfl
      rw [heq] at HC
      have hlq := block_lt_of_cell k2
      clear hq1 heq HPG HPU HhQ HhP
      go_wp2_with fail
      refine (HC.out _ (Below.refl _ _)).mono ?_
      rintro e_ w5 ⟨rfl, hb⟩
      have k2' := (hb.cell (p := ⟨bq, oq + 2, none⟩) hlq).trans k2
      have k3' := (hb.cell (p := ⟨bq, oq + 3, none⟩) hlq).trans k3
      have HB5 := Lib.hid hb
      clear k2 k3 hlq hb
      go_wp2_with fail
      go_ret
      exact ⟨by first | rfl | (simp; done) | (simp; omega), btrans (btrans HBW.out HBo.out) HB5.out⟩
    · have hjH : j < H := by omega
      have K1 := HKp.out.below HBo.out hlp
      have k0 := K1.cell 0; have k1 := K1.cell 1; have k2 := K1.cell 2; have k3 := fun o => (K1.alloc o).cell 2; simp only [List.getElem?_toArray, List.getElem?_cons_succ, List.getElem?_cons_zero] at k0 k1 k2 k3
      clear K1
      obtain ⟨r, hr⟩ : ∃ r, 3 * W = r := ⟨_, rfl⟩
      have e0 : 3 * (W : Int) = (r : Int) := by omega
      obtain ⟨s, hs⟩ : ∃ s, r * j = s := ⟨_, rfl⟩
      have e1 : (r : Int) * (j : Int) = (s : Int) := by rw [← hs]; push_cast; rfl
      have e2 : (r : Int) * ((j : Int) + 1) = ((s + r : Nat) : Int) := by rw [Int.mul_add, e1]; push_cast; omega
      have hsr : s + r ≤ N := by
        have h1 : 3 * W * (j + 1) ≤ 3 * W * H := Nat.mul_le_mul_left _ (by omega)
        rw [← HN.out, hr, Nat.mul_add, hs] at h1
        omega
      have hN1 : N ≤ 12288 := by
        have h1 : 3 * W * H ≤ 192 * 64 := Nat.mul_le_mul (by omega) hH1
        rw [← HN.out] at h1; exact h1
      obtain ⟨row, hrow⟩ : ∃ x, rowOf W l j = x := ⟨_, rfl⟩
      have HBR := Lib.hid (show ∀ u, Below w3.heap.size w3 u → LB u (some ⟨gp, s, none⟩) (s + r - s) (N - s) row from fun u hu => by
        have := LB.cut (HhP.out.below hu) s (s + r) (by omega) hsr
        rw [Nat.zero_add] at this
        rw [← hrow]
        unfold rowOf
        rw [hr, hs]
        rw [show (l.drop s).take r = (l.drop s).take (s + r - s) by rw [show s + r - s = r by omega]]
        exact this)
      have hrl : row.length = 3 * W := by rw [hr, (HBR.out wo HBo.out).len]; omega
      have HRL := Lib.hid hrl
      have hdl : don.length ≤ 12400 := by
        rw [← HDON.out]
        have := encs_len W l 0 j (by rw [Nat.zero_add, HLL.out, HN.out]; exact Nat.mul_le_mul_left _ hj)
        have h2 : j * (1 + 3 * W) ≤ 64 * (1 + 3 * 64) := Nat.mul_le_mul (by omega) (by omega)
        simp only [headL, List.length_append, List.length_cons, List.length_nil]
        omega
      have HROW := Lib.hid hrow
      have HR3 := Lib.hid hr
      clear hrow hs hr hrl
      go_wp2_with (at_builtin; refine Held.of ?_)
      unfold Held
      refine wpList_copy (.tmp 51) (.tmp 63) _ _ _ _ rfl rfl rfl rfl (HBR.out _ HBo.out) (by omega) ?_
      intro vr w5 hO5 hb5
      obtain ⟨Ar, cr, rfl, hLr⟩ := hO5.lbn (n := r) (by rw [(HBR.out _ HBo.out).len]; omega)
      have HLr := Lib.hid hLr
      have HB5 := Lib.hid hb5
      clear hO5 hLr hb5
      go_wp2_with fail
      refine (HPO.out r HR3.out _ _ _ _ HLr.out).mono ?_
      rintro e_ w6 ⟨Dc, mc, fc, rfl, hQc, hmc, hb6⟩
      obtain ⟨hmc0, hmc1⟩ := hmc
      obtain ⟨bc, oc, rfl, hbc, _⟩ := hQc.1.2.2 (by omega)
      have hlt5 : decide ((mc : Int) < 5) = false := by simp; omega
      have hcapc : mc ≤ fc := hQc.1.2.1
      have hQd := LB.cut hQc 4 mc (by omega) (Nat.le_refl _)
      rw [show ((putL W 1 row).drop 4).take (mc - 4) = encRow W row by rw [← putL_one W row HRL.out]; exact List.take_of_length_le (by rw [List.length_drop, hQc.len]; omega)] at hQd
      have HQd := Lib.hid hQd
      have hmc2 : mc - 4 ≤ 193 := by have h1 := encRow_len HRL.out; have h2 := hQd.len; omega
      have HB6 := Lib.hid (btrans HB5.out hb6)
      clear hbc hQc hQd hb6 HLr
      go_wp2_with (at_builtin; refine Held.of ?_)
      unfold Held
      refine wpList_push (u := w3) (.tmp 76) (.tmp 78) _ _ _ _ _ _ rfl rfl rfl rfl (OwnB.below HO.out HB6.out) HQd.out (btrans HBo.out HB6.out) (by omega) ?_
      intro v7 w7 hO7 hb7
      have HO7 := Lib.hid hO7
      have HB7 := Lib.hid hb7
      clear hO7 hb7 HB6 HB5 HQd
      go_wp2_with fail
      go_roundw
      case rel => exact ⟨j + 1, by omega, by go_num, Lib.hid ⟨by rw [encs_snoc, Nat.zero_add, HROW.out, ← List.append_assoc, HDON.out]; exact HO7.out, HB7.out⟩⟩
      case measure => simp [intOf]; omega
end Go.Proofs.Ytfmkdccpgkbnoaa.lf
