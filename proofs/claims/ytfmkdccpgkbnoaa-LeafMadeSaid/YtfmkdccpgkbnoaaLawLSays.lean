/-
  LeafSays: Put of any page and Take of any bytes return what the reference returns.
-/
import Derived.Test.YtfmkdccpgkbnoaaRefLV
namespace Go.Proofs.Ytfmkdccpgkbnoaa.lf
set_option linter.unusedVariables false
set_option linter.unusedSimpArgs false
open Go.RowKit bs rg op
open lr (hpage_any rput_lb rtake_ok rtake_none putleaf_no nil_lb)
set_option maxRecDepth 100000 in
set_option maxHeartbeats 3200000 in
theorem says_big1 (pW pH : Int) (pA : Option Addr) (np cp : Nat) (lp : List UInt8) (bA : Option Addr) (nb cb : Nat) (lb : List UInt8) (w : World) (hpW : -9223372036854775808 ≤ pW ∧ pW ≤ 9223372036854775807) (hpH : -9223372036854775808 ≤ pH ∧ pH ≤ 9223372036854775807) (hrp : Bytes w pA np cp lp) (hnp : np ≤ 9223372036854775807) (hrb : Bytes w bA nb cb lb) (hnb : nb ≤ 9223372036854775807) (h1 : 15000 < np) :
    Calls Try.prog 3 #[.agg #[.int .i64 pW, .int .i64 pH, .slice pA np cp], .slice bA nb cb] w fun ed w' => ed = .returned (.bool true) ∧ Below w.heap.size w w' := by
  have d1 : decide ((15000 : Int) < (np : Int)) = true := by simp; omega
  clear hpW hpH hrp hnp hrb hnb
  go_enter Try.func3, Try.ntmps3
  go_wp2_with fail
  have hst0 : Below w.heap.size w (w.alloc (.cells #[.int .i64 pW, .int .i64 pH, .slice pA np cp] 24)) := by (repeat' (first | exact Below.refl _ _ | exact Below.refl _ _ | refine balloc ?_ _ | refine Below.drew ?_ | refine below_drewN ?_ _ | refine bset ?_ (by first | omega | (simp <;> omega)) _))
  refine (lknown_any _).mono ?_
  rintro e_ w1 ⟨rfl, hb⟩
  have hst : Below w.heap.size w w1 := btrans hst0 hb
  have Kp := (Blk.new w 24 #[.int .i64 pW, .int .i64 pH, .slice pA np cp])
  replace Kp := Kp.below hb Kp.lt
  have hbw : Below w.heap.size w w1 := hst
  clear hst hst0 hb 
  have lKp := Kp.lt
  have cKp0 := Kp.cell 0
  have cKp1 := Kp.cell 1
  have cKp2 := Kp.cell 2
  simp only [List.getElem?_toArray, List.getElem?_cons_succ, List.getElem?_cons_zero] at cKp0 cKp1 cKp2
  go_wp2_with fail
  go_ret
  exact ⟨rfl, hbw⟩
set_option maxRecDepth 100000 in
set_option maxHeartbeats 3200000 in
theorem says_big2 (pW pH : Int) (pA : Option Addr) (np cp : Nat) (lp : List UInt8) (bA : Option Addr) (nb cb : Nat) (lb : List UInt8) (w : World) (hpW : -9223372036854775808 ≤ pW ∧ pW ≤ 9223372036854775807) (hpH : -9223372036854775808 ≤ pH ∧ pH ≤ 9223372036854775807) (hrp : Bytes w pA np cp lp) (hnp : np ≤ 9223372036854775807) (hrb : Bytes w bA nb cb lb) (hnb : nb ≤ 9223372036854775807) (h1 : np ≤ 15000) (h2 : 15000 < nb) :
    Calls Try.prog 3 #[.agg #[.int .i64 pW, .int .i64 pH, .slice pA np cp], .slice bA nb cb] w fun ed w' => ed = .returned (.bool true) ∧ Below w.heap.size w w' := by
  have d1 : decide ((15000 : Int) < (np : Int)) = false := by simp; omega
  have d2 : decide ((15000 : Int) < (nb : Int)) = true := by simp; omega
  clear hpW hpH hrp hnp hrb hnb
  go_enter Try.func3, Try.ntmps3
  go_wp2_with fail
  have hst0 : Below w.heap.size w (w.alloc (.cells #[.int .i64 pW, .int .i64 pH, .slice pA np cp] 24)) := by (repeat' (first | exact Below.refl _ _ | exact Below.refl _ _ | refine balloc ?_ _ | refine Below.drew ?_ | refine below_drewN ?_ _ | refine bset ?_ (by first | omega | (simp <;> omega)) _))
  refine (lknown_any _).mono ?_
  rintro e_ w1 ⟨rfl, hb⟩
  have hst : Below w.heap.size w w1 := btrans hst0 hb
  have Kp := (Blk.new w 24 #[.int .i64 pW, .int .i64 pH, .slice pA np cp])
  replace Kp := Kp.below hb Kp.lt
  have hbw : Below w.heap.size w w1 := hst
  clear hst hst0 hb 
  have lKp := Kp.lt
  have cKp0 := Kp.cell 0
  have cKp1 := Kp.cell 1
  have cKp2 := Kp.cell 2
  simp only [List.getElem?_toArray, List.getElem?_cons_succ, List.getElem?_cons_zero] at cKp0 cKp1 cKp2
  go_wp2_with fail
  go_ret
  exact ⟨rfl, hbw⟩
set_option maxRecDepth 100000 in
set_option maxHeartbeats 3200000 in
theorem says_may_none (pW pH : Int) (pA : Option Addr) (np cp : Nat) (lp : List UInt8) (bA : Option Addr) (nb cb : Nat) (lb : List UInt8) (w : World) (hpW : -9223372036854775808 ≤ pW ∧ pW ≤ 9223372036854775807) (hpH : -9223372036854775808 ≤ pH ∧ pH ≤ 9223372036854775807) (hrp : Bytes w pA np cp lp) (hnp : np ≤ 9223372036854775807) (hrb : Bytes w bA nb cb lb) (hnb : nb ≤ 9223372036854775807) (h1 : np ≤ 15000) (h2 : nb ≤ 15000) (hm : ik.mayB pW pH np = true) (er : Int) (he : er ≠ 0) (hte : (12356 < nb ∧ er = 5) ∨ (nb ≤ 12356 ∧ er ≠ 0 ∧ (takeB lb).2.2.2.2 = er)) :
    Calls Try.prog 3 #[.agg #[.int .i64 pW, .int .i64 pH, .slice pA np cp], .slice bA nb cb] w fun ed w' => ed = .returned (.bool true) ∧ Below w.heap.size w w' := by
  obtain ⟨V, G, rfl, rfl, hV, hG, hnv⟩ := mayB_inv hm
  have hnv0 : 0 < np := by rw [hnv]; exact (page_size hV hG).1
  have HPP := Lib.hid (fun W' hb => lput_any V G np cp pA lp W' hV hG hnv hb)
  have HPR := Lib.hid (fun W' hb => rput_lb V G np cp pA lp W' hV hG hnv hb)
  have HTN := Lib.hid (fun A c W' hb => ltake_none A nb c lb W' hb er hte)
  have HTR := Lib.hid (fun W' hb => rtake_none bA nb cb lb W' hb er hte)
  have he0 : (er == er) = true := by simp
  clear he hte
  have d1 : decide ((15000 : Int) < (np : Int)) = false := by simp; omega
  have d2 : decide ((15000 : Int) < (nb : Int)) = false := by simp; omega
  have HBp := Lib.hid hrp
  have HBb := Lib.hid hrb
  have H15 := Lib.hid (And.intro h1 h2)
  clear hpW hpH hrp hnp hrb hnb hm h1 h2 hnv hV hG
  go_enter Try.func3, Try.ntmps3
  go_wp2_with fail
  have hst0 : Below w.heap.size w (w.alloc (.cells #[.int .i64 (V : Int), .int .i64 (G : Int), .slice pA np cp] 24)) := by (repeat' (first | exact Below.refl _ _ | exact Below.refl _ _ | refine balloc ?_ _ | refine Below.drew ?_ | refine below_drewN ?_ _ | refine bset ?_ (by first | omega | (simp <;> omega)) _))
  refine (lknown_any _).mono ?_
  rintro e_ w1 ⟨rfl, hb⟩
  have hst : Below w.heap.size w w1 := btrans hst0 hb
  have Kp := (Blk.new w 24 #[.int .i64 (V : Int), .int .i64 (G : Int), .slice pA np cp])
  replace Kp := Kp.below hb Kp.lt
  have hbw : Below w.heap.size w w1 := hst
  replace HBp := Lib.hid (HBp.out.below hst)
  replace HBb := Lib.hid (HBb.out.below hst)
  clear hst hst0 hb 
  have lKp := Kp.lt
  have cKp0 := Kp.cell 0
  have cKp1 := Kp.cell 1
  have cKp2 := Kp.cell 2
  simp only [List.getElem?_toArray, List.getElem?_cons_succ, List.getElem?_cons_zero] at cKp0 cKp1 cKp2
  go_wp2_with fail
  have hst0 : Below w1.heap.size w1 w1 := by (repeat' (first | exact Below.refl _ _ | exact Below.refl _ _ | refine balloc ?_ _ | refine Below.drew ?_ | refine below_drewN ?_ _ | refine bset ?_ (by first | omega | (simp <;> omega)) _))
  refine (HPP.out _ (LB.of_pos (HBp.out.below hst0) hnv0)).mono ?_
  rintro e_ w2 ⟨Dx, mx, dx, rfl, hX, hmx, hb⟩
  clear hmx
  have hst : Below w1.heap.size w1 w2 := btrans hst0 hb
  replace Kp := Kp.below hb Kp.lt
  replace hbw : Below w.heap.size w w2 := btrans hbw hst
  replace HBp := Lib.hid (HBp.out.below hst)
  replace HBb := Lib.hid (HBb.out.below hst)
  clear hst hst0 hb lKp cKp0 cKp1 cKp2
  have HhX := Lib.hid hX
  clear hX
  have lKp := Kp.lt
  have cKp0 := Kp.cell 0
  have cKp1 := Kp.cell 1
  have cKp2 := Kp.cell 2
  simp only [List.getElem?_toArray, List.getElem?_cons_succ, List.getElem?_cons_zero] at cKp0 cKp1 cKp2
  clear d1 d2
  go_wp2_with fail
  have hst0 : Below w2.heap.size w2 w2 := by (repeat' (first | exact Below.refl _ _ | exact Below.refl _ _ | refine balloc ?_ _ | refine Below.drew ?_ | refine below_drewN ?_ _ | refine bset ?_ (by first | omega | (simp <;> omega)) _))
  refine (HPR.out _ (HBp.out.below hst0)).mono ?_
  rintro e_ w3 ⟨Dy, my, dy, rfl, hY, hb⟩
  have hst : Below w2.heap.size w2 w3 := btrans hst0 hb
  replace Kp := Kp.below hb Kp.lt
  replace hbw : Below w.heap.size w w3 := btrans hbw hst
  replace HBp := Lib.hid (HBp.out.below hst)
  replace HBb := Lib.hid (HBb.out.below hst)
  replace HhX := Lib.hid (HhX.out.below hst)
  clear hst hst0 hb lKp cKp0 cKp1 cKp2
  have HhY := Lib.hid hY
  clear hY
  have lKp := Kp.lt
  have cKp0 := Kp.cell 0
  have cKp1 := Kp.cell 1
  have cKp2 := Kp.cell 2
  simp only [List.getElem?_toArray, List.getElem?_cons_succ, List.getElem?_cons_zero] at cKp0 cKp1 cKp2
  have hb15 := H15.out.2
  go_wp2_with (at_builtin; refine Held.of ?_)
  unfold Held
  have hst0 : Below w3.heap.size w3 w3 := by (repeat' (first | exact Below.refl _ _ | exact Below.refl _ _ | refine balloc ?_ _ | refine Below.drew ?_ | refine below_drewN ?_ _ | refine bset ?_ (by first | omega | (simp <;> omega)) _))
  have hLn := ((HBb.out.below hst0)).1
  refine wpList_copy (.tmp 35) (.tmp 36) _ _ _ _ rfl rfl (by first | rfl | (rw [size_alloc]; rfl) | (rw [size_alloc, size_alloc]; rfl)) rfl ((HBb.out.below hst0)) (by omega) ?_
  intro vcb w4 hO hb
  have hst : Below w3.heap.size w3 w4 := btrans hst0 hb
  replace Kp := Kp.below hb Kp.lt
  replace hbw : Below w.heap.size w w4 := btrans hbw hst
  replace HBp := Lib.hid (HBp.out.below hst)
  replace HBb := Lib.hid (HBb.out.below hst)
  replace HhX := Lib.hid (HhX.out.below hst)
  replace HhY := Lib.hid (HhY.out.below hst)
  clear hst hst0 hb lKp cKp0 cKp1 cKp2
  obtain ⟨Acb, ccb, rfl, hcb⟩ := hO.lbn hLn
  clear hO hLn
  have Hhcb := Lib.hid hcb
  clear hcb
  have lKp := Kp.lt
  have cKp0 := Kp.cell 0
  have cKp1 := Kp.cell 1
  have cKp2 := Kp.cell 2
  simp only [List.getElem?_toArray, List.getElem?_cons_succ, List.getElem?_cons_zero] at cKp0 cKp1 cKp2
  clear hb15
  go_wp2_with fail
  have hst0 : Below w4.heap.size w4 w4 := by (repeat' (first | exact Below.refl _ _ | exact Below.refl _ _ | refine balloc ?_ _ | refine Below.drew ?_ | refine below_drewN ?_ _ | refine bset ?_ (by first | omega | (simp <;> omega)) _))
  refine (HTN.out _ _ _ (Hhcb.out.below hst0)).mono ?_
  rintro e_ w5 ⟨rfl, hb⟩
  have hst : Below w4.heap.size w4 w5 := btrans hst0 hb
  replace Kp := Kp.below hb Kp.lt
  replace hbw : Below w.heap.size w w5 := btrans hbw hst
  replace HBp := Lib.hid (HBp.out.below hst)
  replace HBb := Lib.hid (HBb.out.below hst)
  replace HhX := Lib.hid (HhX.out.below hst)
  replace HhY := Lib.hid (HhY.out.below hst)
  replace Hhcb := Lib.hid (Hhcb.out.below hst)
  clear hst hst0 hb lKp cKp0 cKp1 cKp2
  have lKp := Kp.lt
  have cKp0 := Kp.cell 0
  have cKp1 := Kp.cell 1
  have cKp2 := Kp.cell 2
  simp only [List.getElem?_toArray, List.getElem?_cons_succ, List.getElem?_cons_zero] at cKp0 cKp1 cKp2
  go_wp2_with fail
  have hst0 : Below w5.heap.size w5 (w5.alloc (.cells #[.int .i64 0, .int .i64 0, .slice none 0 0] 24)) := by (repeat' (first | exact Below.refl _ _ | exact Below.refl _ _ | refine balloc ?_ _ | refine Below.drew ?_ | refine below_drewN ?_ _ | refine bset ?_ (by first | omega | (simp <;> omega)) _))
  refine (HTR.out _ (HBb.out.below hst0)).mono ?_
  rintro e_ w6 ⟨rfl, hb⟩
  have hst : Below w5.heap.size w5 w6 := btrans hst0 hb
  replace Kp := (Kp.alloc (.cells #[.int .i64 0, .int .i64 0, .slice none 0 0] 24))
  have Kv := (Blk.new w5 24 #[.int .i64 0, .int .i64 0, .slice none 0 0])
  replace Kp := Kp.below hb Kp.lt
  replace Kv := Kv.below hb Kv.lt
  replace hbw : Below w.heap.size w w6 := btrans hbw hst
  replace HBp := Lib.hid (HBp.out.below hst)
  replace HBb := Lib.hid (HBb.out.below hst)
  replace HhX := Lib.hid (HhX.out.below hst)
  replace HhY := Lib.hid (HhY.out.below hst)
  replace Hhcb := Lib.hid (Hhcb.out.below hst)
  clear hst hst0 hb lKp cKp0 cKp1 cKp2
  have lKp := Kp.lt
  have cKp0 := Kp.cell 0
  have cKp1 := Kp.cell 1
  have cKp2 := Kp.cell 2
  have lKv := Kv.lt
  have cKv0 := Kv.cell 0
  have cKv1 := Kv.cell 1
  have cKv2 := Kv.cell 2
  simp only [List.getElem?_toArray, List.getElem?_cons_succ, List.getElem?_cons_zero] at cKp0 cKp1 cKp2 cKv0 cKv1 cKv2
  go_wp2_with fail
  have hst0 : Below w6.heap.size w6 (w6.alloc (.cells #[.int .i64 0, .int .i64 0, .slice none 0 0] 24)) := by (repeat' (first | exact Below.refl _ _ | exact Below.refl _ _ | refine balloc ?_ _ | refine Below.drew ?_ | refine below_drewN ?_ _ | refine bset ?_ (by first | omega | (simp <;> omega)) _))
  refine (hbytes_any _ _ _ _ _ _ _ _ _ (HhX.out.below hst0) (HhY.out.below hst0)).mono ?_
  rintro e_ w7 ⟨rfl, hb⟩
  have hst : Below w6.heap.size w6 w7 := btrans hst0 hb
  replace Kp := (Kp.alloc (.cells #[.int .i64 0, .int .i64 0, .slice none 0 0] 24))
  replace Kv := (Kv.alloc (.cells #[.int .i64 0, .int .i64 0, .slice none 0 0] 24))
  have Ku := (Blk.new w6 24 #[.int .i64 0, .int .i64 0, .slice none 0 0])
  replace Kp := Kp.below hb Kp.lt
  replace Kv := Kv.below hb Kv.lt
  replace Ku := Ku.below hb Ku.lt
  replace hbw : Below w.heap.size w w7 := btrans hbw hst
  replace HBp := Lib.hid (HBp.out.below hst)
  replace HBb := Lib.hid (HBb.out.below hst)
  replace HhX := Lib.hid (HhX.out.below hst)
  replace HhY := Lib.hid (HhY.out.below hst)
  replace Hhcb := Lib.hid (Hhcb.out.below hst)
  clear hst hst0 hb lKp cKp0 cKp1 cKp2 lKv cKv0 cKv1 cKv2
  have lKp := Kp.lt
  have cKp0 := Kp.cell 0
  have cKp1 := Kp.cell 1
  have cKp2 := Kp.cell 2
  have lKv := Kv.lt
  have cKv0 := Kv.cell 0
  have cKv1 := Kv.cell 1
  have cKv2 := Kv.cell 2
  have lKu := Ku.lt
  have cKu0 := Ku.cell 0
  have cKu1 := Ku.cell 1
  have cKu2 := Ku.cell 2
  simp only [List.getElem?_toArray, List.getElem?_cons_succ, List.getElem?_cons_zero] at cKp0 cKp1 cKp2 cKv0 cKv1 cKv2 cKu0 cKu1 cKu2
  simp only [decide_true]
  go_wp2_with fail
  have hst0 : Below w7.heap.size w7 w7 := by (repeat' (first | exact Below.refl _ _ | exact Below.refl _ _ | refine balloc ?_ _ | refine Below.drew ?_ | refine below_drewN ?_ _ | refine bset ?_ (by first | omega | (simp <;> omega)) _))
  refine (hpage_any _ _ _ _ _ _ _ _ _ _ _ (nil_lb _) (nil_lb _)).mono ?_
  rintro e_ w8 ⟨rfl, hb⟩
  have hst : Below w7.heap.size w7 w8 := btrans hst0 hb
  replace Kp := Kp.below hb Kp.lt
  replace Kv := Kv.below hb Kv.lt
  replace Ku := Ku.below hb Ku.lt
  replace hbw : Below w.heap.size w w8 := btrans hbw hst
  replace HBp := Lib.hid (HBp.out.below hst)
  replace HBb := Lib.hid (HBb.out.below hst)
  replace HhX := Lib.hid (HhX.out.below hst)
  replace HhY := Lib.hid (HhY.out.below hst)
  replace Hhcb := Lib.hid (Hhcb.out.below hst)
  clear hst hst0 hb lKp cKp0 cKp1 cKp2 lKv cKv0 cKv1 cKv2 lKu cKu0 cKu1 cKu2
  have lKp := Kp.lt
  have cKp0 := Kp.cell 0
  have cKp1 := Kp.cell 1
  have cKp2 := Kp.cell 2
  have lKv := Kv.lt
  have cKv0 := Kv.cell 0
  have cKv1 := Kv.cell 1
  have cKv2 := Kv.cell 2
  have lKu := Ku.lt
  have cKu0 := Ku.cell 0
  have cKu1 := Ku.cell 1
  have cKu2 := Ku.cell 2
  simp only [List.getElem?_toArray, List.getElem?_cons_succ, List.getElem?_cons_zero] at cKp0 cKp1 cKp2 cKv0 cKv1 cKv2 cKu0 cKu1 cKu2
  simp only [decide_true]
  go_wp2_with fail
  go_ret
  exact ⟨by first | rfl | (simp; done), by (repeat' (first | exact hbw | exact Below.refl _ _ | refine balloc ?_ _ | refine Below.drew ?_ | refine below_drewN ?_ _ | refine bset ?_ (by first | omega | (simp <;> omega)) _))⟩
set_option maxRecDepth 100000 in
set_option maxHeartbeats 3200000 in
theorem says_may_ok (pW pH : Int) (pA : Option Addr) (np cp : Nat) (lp : List UInt8) (bA : Option Addr) (nb cb : Nat) (lb : List UInt8) (w : World) (hpW : -9223372036854775808 ≤ pW ∧ pW ≤ 9223372036854775807) (hpH : -9223372036854775808 ≤ pH ∧ pH ≤ 9223372036854775807) (hrp : Bytes w pA np cp lp) (hnp : np ≤ 9223372036854775807) (hrb : Bytes w bA nb cb lb) (hnb : nb ≤ 9223372036854775807) (h1 : np ≤ 15000) (h2 : nb ≤ 15000) (hm : ik.mayB pW pH np = true) (X Y : Nat) (pix : List UInt8) (h12 : nb ≤ 12356) (hte : takeB lb = (X, Y, pix, ([], 0))) :
    Calls Try.prog 3 #[.agg #[.int .i64 pW, .int .i64 pH, .slice pA np cp], .slice bA nb cb] w fun ed w' => ed = .returned (.bool true) ∧ Below w.heap.size w w' := by
  obtain ⟨V, G, rfl, rfl, hV, hG, hnv⟩ := mayB_inv hm
  have hnv0 : 0 < np := by rw [hnv]; exact (page_size hV hG).1
  have HPP := Lib.hid (fun W' hb => lput_any V G np cp pA lp W' hV hG hnv hb)
  have HPR := Lib.hid (fun W' hb => rput_lb V G np cp pA lp W' hV hG hnv hb)
  obtain ⟨K, hK⟩ : ∃ K, pix.length = K := ⟨_, rfl⟩
  have HTO := Lib.hid (fun A c W' hb => ltake_ok A nb c lb W' h12 hb X Y pix K hte hK)
  have HTR := Lib.hid (fun W' hb => rtake_ok bA nb cb lb W' h12 hb X Y pix K hte hK)
  clear hte hK h12
  have d1 : decide ((15000 : Int) < (np : Int)) = false := by simp; omega
  have d2 : decide ((15000 : Int) < (nb : Int)) = false := by simp; omega
  have HBp := Lib.hid hrp
  have HBb := Lib.hid hrb
  have H15 := Lib.hid (And.intro h1 h2)
  clear hpW hpH hrp hnp hrb hnb hm h1 h2 hnv hV hG
  go_enter Try.func3, Try.ntmps3
  go_wp2_with fail
  have hst0 : Below w.heap.size w (w.alloc (.cells #[.int .i64 (V : Int), .int .i64 (G : Int), .slice pA np cp] 24)) := by (repeat' (first | exact Below.refl _ _ | exact Below.refl _ _ | refine balloc ?_ _ | refine Below.drew ?_ | refine below_drewN ?_ _ | refine bset ?_ (by first | omega | (simp <;> omega)) _))
  refine (lknown_any _).mono ?_
  rintro e_ w1 ⟨rfl, hb⟩
  have hst : Below w.heap.size w w1 := btrans hst0 hb
  have Kp := (Blk.new w 24 #[.int .i64 (V : Int), .int .i64 (G : Int), .slice pA np cp])
  replace Kp := Kp.below hb Kp.lt
  have hbw : Below w.heap.size w w1 := hst
  replace HBp := Lib.hid (HBp.out.below hst)
  replace HBb := Lib.hid (HBb.out.below hst)
  clear hst hst0 hb 
  have lKp := Kp.lt
  have cKp0 := Kp.cell 0
  have cKp1 := Kp.cell 1
  have cKp2 := Kp.cell 2
  simp only [List.getElem?_toArray, List.getElem?_cons_succ, List.getElem?_cons_zero] at cKp0 cKp1 cKp2
  go_wp2_with fail
  have hst0 : Below w1.heap.size w1 w1 := by (repeat' (first | exact Below.refl _ _ | exact Below.refl _ _ | refine balloc ?_ _ | refine Below.drew ?_ | refine below_drewN ?_ _ | refine bset ?_ (by first | omega | (simp <;> omega)) _))
  refine (HPP.out _ (LB.of_pos (HBp.out.below hst0) hnv0)).mono ?_
  rintro e_ w2 ⟨Dx, mx, dx, rfl, hX, hmx, hb⟩
  clear hmx
  have hst : Below w1.heap.size w1 w2 := btrans hst0 hb
  replace Kp := Kp.below hb Kp.lt
  replace hbw : Below w.heap.size w w2 := btrans hbw hst
  replace HBp := Lib.hid (HBp.out.below hst)
  replace HBb := Lib.hid (HBb.out.below hst)
  clear hst hst0 hb lKp cKp0 cKp1 cKp2
  have HhX := Lib.hid hX
  clear hX
  have lKp := Kp.lt
  have cKp0 := Kp.cell 0
  have cKp1 := Kp.cell 1
  have cKp2 := Kp.cell 2
  simp only [List.getElem?_toArray, List.getElem?_cons_succ, List.getElem?_cons_zero] at cKp0 cKp1 cKp2
  clear d1 d2
  go_wp2_with fail
  have hst0 : Below w2.heap.size w2 w2 := by (repeat' (first | exact Below.refl _ _ | exact Below.refl _ _ | refine balloc ?_ _ | refine Below.drew ?_ | refine below_drewN ?_ _ | refine bset ?_ (by first | omega | (simp <;> omega)) _))
  refine (HPR.out _ (HBp.out.below hst0)).mono ?_
  rintro e_ w3 ⟨Dy, my, dy, rfl, hY, hb⟩
  have hst : Below w2.heap.size w2 w3 := btrans hst0 hb
  replace Kp := Kp.below hb Kp.lt
  replace hbw : Below w.heap.size w w3 := btrans hbw hst
  replace HBp := Lib.hid (HBp.out.below hst)
  replace HBb := Lib.hid (HBb.out.below hst)
  replace HhX := Lib.hid (HhX.out.below hst)
  clear hst hst0 hb lKp cKp0 cKp1 cKp2
  have HhY := Lib.hid hY
  clear hY
  have lKp := Kp.lt
  have cKp0 := Kp.cell 0
  have cKp1 := Kp.cell 1
  have cKp2 := Kp.cell 2
  simp only [List.getElem?_toArray, List.getElem?_cons_succ, List.getElem?_cons_zero] at cKp0 cKp1 cKp2
  have hb15 := H15.out.2
  go_wp2_with (at_builtin; refine Held.of ?_)
  unfold Held
  have hst0 : Below w3.heap.size w3 w3 := by (repeat' (first | exact Below.refl _ _ | exact Below.refl _ _ | refine balloc ?_ _ | refine Below.drew ?_ | refine below_drewN ?_ _ | refine bset ?_ (by first | omega | (simp <;> omega)) _))
  have hLn := ((HBb.out.below hst0)).1
  refine wpList_copy (.tmp 35) (.tmp 36) _ _ _ _ rfl rfl (by first | rfl | (rw [size_alloc]; rfl) | (rw [size_alloc, size_alloc]; rfl)) rfl ((HBb.out.below hst0)) (by omega) ?_
  intro vcb w4 hO hb
  have hst : Below w3.heap.size w3 w4 := btrans hst0 hb
  replace Kp := Kp.below hb Kp.lt
  replace hbw : Below w.heap.size w w4 := btrans hbw hst
  replace HBp := Lib.hid (HBp.out.below hst)
  replace HBb := Lib.hid (HBb.out.below hst)
  replace HhX := Lib.hid (HhX.out.below hst)
  replace HhY := Lib.hid (HhY.out.below hst)
  clear hst hst0 hb lKp cKp0 cKp1 cKp2
  obtain ⟨Acb, ccb, rfl, hcb⟩ := hO.lbn hLn
  clear hO hLn
  have Hhcb := Lib.hid hcb
  clear hcb
  have lKp := Kp.lt
  have cKp0 := Kp.cell 0
  have cKp1 := Kp.cell 1
  have cKp2 := Kp.cell 2
  simp only [List.getElem?_toArray, List.getElem?_cons_succ, List.getElem?_cons_zero] at cKp0 cKp1 cKp2
  clear hb15
  go_wp2_with fail
  have hst0 : Below w4.heap.size w4 w4 := by (repeat' (first | exact Below.refl _ _ | exact Below.refl _ _ | refine balloc ?_ _ | refine Below.drew ?_ | refine below_drewN ?_ _ | refine bset ?_ (by first | omega | (simp <;> omega)) _))
  refine (HTO.out _ _ _ (Hhcb.out.below hst0)).mono ?_
  rintro e_ w5 ⟨Dv, fv, rfl, hv, hb⟩
  have hst : Below w4.heap.size w4 w5 := btrans hst0 hb
  replace Kp := Kp.below hb Kp.lt
  replace hbw : Below w.heap.size w w5 := btrans hbw hst
  replace HBp := Lib.hid (HBp.out.below hst)
  replace HBb := Lib.hid (HBb.out.below hst)
  replace HhX := Lib.hid (HhX.out.below hst)
  replace HhY := Lib.hid (HhY.out.below hst)
  replace Hhcb := Lib.hid (Hhcb.out.below hst)
  clear hst hst0 hb lKp cKp0 cKp1 cKp2
  have Hhv := Lib.hid hv
  clear hv
  have lKp := Kp.lt
  have cKp0 := Kp.cell 0
  have cKp1 := Kp.cell 1
  have cKp2 := Kp.cell 2
  simp only [List.getElem?_toArray, List.getElem?_cons_succ, List.getElem?_cons_zero] at cKp0 cKp1 cKp2
  go_wp2_with fail
  have hst0 : Below w5.heap.size w5 (w5.alloc (.cells #[.int .i64 (X : Int), .int .i64 (Y : Int), .slice Dv K fv] 24)) := by (repeat' (first | exact Below.refl _ _ | exact Below.refl _ _ | refine balloc ?_ _ | refine Below.drew ?_ | refine below_drewN ?_ _ | refine bset ?_ (by first | omega | (simp <;> omega)) _))
  refine (HTR.out _ (HBb.out.below hst0)).mono ?_
  rintro e_ w6 ⟨Du, fu, rfl, hu, hb⟩
  have hst : Below w5.heap.size w5 w6 := btrans hst0 hb
  replace Kp := (Kp.alloc (.cells #[.int .i64 (X : Int), .int .i64 (Y : Int), .slice Dv K fv] 24))
  have Kv := (Blk.new w5 24 #[.int .i64 (X : Int), .int .i64 (Y : Int), .slice Dv K fv])
  replace Kp := Kp.below hb Kp.lt
  replace Kv := Kv.below hb Kv.lt
  replace hbw : Below w.heap.size w w6 := btrans hbw hst
  replace HBp := Lib.hid (HBp.out.below hst)
  replace HBb := Lib.hid (HBb.out.below hst)
  replace HhX := Lib.hid (HhX.out.below hst)
  replace HhY := Lib.hid (HhY.out.below hst)
  replace Hhcb := Lib.hid (Hhcb.out.below hst)
  replace Hhv := Lib.hid (Hhv.out.below hst)
  clear hst hst0 hb lKp cKp0 cKp1 cKp2
  have Hhu := Lib.hid hu
  clear hu
  have lKp := Kp.lt
  have cKp0 := Kp.cell 0
  have cKp1 := Kp.cell 1
  have cKp2 := Kp.cell 2
  have lKv := Kv.lt
  have cKv0 := Kv.cell 0
  have cKv1 := Kv.cell 1
  have cKv2 := Kv.cell 2
  simp only [List.getElem?_toArray, List.getElem?_cons_succ, List.getElem?_cons_zero] at cKp0 cKp1 cKp2 cKv0 cKv1 cKv2
  go_wp2_with fail
  have hst0 : Below w6.heap.size w6 (w6.alloc (.cells #[.int .i64 (X : Int), .int .i64 (Y : Int), .slice Du K fu] 24)) := by (repeat' (first | exact Below.refl _ _ | exact Below.refl _ _ | refine balloc ?_ _ | refine Below.drew ?_ | refine below_drewN ?_ _ | refine bset ?_ (by first | omega | (simp <;> omega)) _))
  refine (hbytes_any _ _ _ _ _ _ _ _ _ (HhX.out.below hst0) (HhY.out.below hst0)).mono ?_
  rintro e_ w7 ⟨rfl, hb⟩
  have hst : Below w6.heap.size w6 w7 := btrans hst0 hb
  replace Kp := (Kp.alloc (.cells #[.int .i64 (X : Int), .int .i64 (Y : Int), .slice Du K fu] 24))
  replace Kv := (Kv.alloc (.cells #[.int .i64 (X : Int), .int .i64 (Y : Int), .slice Du K fu] 24))
  have Ku := (Blk.new w6 24 #[.int .i64 (X : Int), .int .i64 (Y : Int), .slice Du K fu])
  replace Kp := Kp.below hb Kp.lt
  replace Kv := Kv.below hb Kv.lt
  replace Ku := Ku.below hb Ku.lt
  replace hbw : Below w.heap.size w w7 := btrans hbw hst
  replace HBp := Lib.hid (HBp.out.below hst)
  replace HBb := Lib.hid (HBb.out.below hst)
  replace HhX := Lib.hid (HhX.out.below hst)
  replace HhY := Lib.hid (HhY.out.below hst)
  replace Hhcb := Lib.hid (Hhcb.out.below hst)
  replace Hhv := Lib.hid (Hhv.out.below hst)
  replace Hhu := Lib.hid (Hhu.out.below hst)
  clear hst hst0 hb lKp cKp0 cKp1 cKp2 lKv cKv0 cKv1 cKv2
  have lKp := Kp.lt
  have cKp0 := Kp.cell 0
  have cKp1 := Kp.cell 1
  have cKp2 := Kp.cell 2
  have lKv := Kv.lt
  have cKv0 := Kv.cell 0
  have cKv1 := Kv.cell 1
  have cKv2 := Kv.cell 2
  have lKu := Ku.lt
  have cKu0 := Ku.cell 0
  have cKu1 := Ku.cell 1
  have cKu2 := Ku.cell 2
  simp only [List.getElem?_toArray, List.getElem?_cons_succ, List.getElem?_cons_zero] at cKp0 cKp1 cKp2 cKv0 cKv1 cKv2 cKu0 cKu1 cKu2
  simp only [decide_true]
  go_wp2_with fail
  have hst0 : Below w7.heap.size w7 w7 := by (repeat' (first | exact Below.refl _ _ | exact Below.refl _ _ | refine balloc ?_ _ | refine Below.drew ?_ | refine below_drewN ?_ _ | refine bset ?_ (by first | omega | (simp <;> omega)) _))
  refine (hpage_any _ _ _ _ _ _ _ _ _ _ _ (Hhv.out.below hst0) (Hhu.out.below hst0)).mono ?_
  rintro e_ w8 ⟨rfl, hb⟩
  have hst : Below w7.heap.size w7 w8 := btrans hst0 hb
  replace Kp := Kp.below hb Kp.lt
  replace Kv := Kv.below hb Kv.lt
  replace Ku := Ku.below hb Ku.lt
  replace hbw : Below w.heap.size w w8 := btrans hbw hst
  replace HBp := Lib.hid (HBp.out.below hst)
  replace HBb := Lib.hid (HBb.out.below hst)
  replace HhX := Lib.hid (HhX.out.below hst)
  replace HhY := Lib.hid (HhY.out.below hst)
  replace Hhcb := Lib.hid (Hhcb.out.below hst)
  replace Hhv := Lib.hid (Hhv.out.below hst)
  replace Hhu := Lib.hid (Hhu.out.below hst)
  clear hst hst0 hb lKp cKp0 cKp1 cKp2 lKv cKv0 cKv1 cKv2 lKu cKu0 cKu1 cKu2
  have lKp := Kp.lt
  have cKp0 := Kp.cell 0
  have cKp1 := Kp.cell 1
  have cKp2 := Kp.cell 2
  have lKv := Kv.lt
  have cKv0 := Kv.cell 0
  have cKv1 := Kv.cell 1
  have cKv2 := Kv.cell 2
  have lKu := Ku.lt
  have cKu0 := Ku.cell 0
  have cKu1 := Ku.cell 1
  have cKu2 := Ku.cell 2
  simp only [List.getElem?_toArray, List.getElem?_cons_succ, List.getElem?_cons_zero] at cKp0 cKp1 cKp2 cKv0 cKv1 cKv2 cKu0 cKu1 cKu2
  simp only [decide_true]
  go_wp2_with fail
  go_ret
  exact ⟨by first | rfl | (simp; done), by (repeat' (first | exact hbw | exact Below.refl _ _ | refine balloc ?_ _ | refine Below.drew ?_ | refine below_drewN ?_ _ | refine bset ?_ (by first | omega | (simp <;> omega)) _))⟩
set_option maxRecDepth 100000 in
set_option maxHeartbeats 3200000 in
theorem says_not_none (pW pH : Int) (pA : Option Addr) (np cp : Nat) (lp : List UInt8) (bA : Option Addr) (nb cb : Nat) (lb : List UInt8) (w : World) (hpW : -9223372036854775808 ≤ pW ∧ pW ≤ 9223372036854775807) (hpH : -9223372036854775808 ≤ pH ∧ pH ≤ 9223372036854775807) (hrp : Bytes w pA np cp lp) (hnp : np ≤ 9223372036854775807) (hrb : Bytes w bA nb cb lb) (hnb : nb ≤ 9223372036854775807) (h1 : np ≤ 15000) (h2 : nb ≤ 15000) (hm : ik.mayB pW pH np = false) (er : Int) (he : er ≠ 0) (hte : (12356 < nb ∧ er = 5) ∨ (nb ≤ 12356 ∧ er ≠ 0 ∧ (takeB lb).2.2.2.2 = er)) :
    Calls Try.prog 3 #[.agg #[.int .i64 pW, .int .i64 pH, .slice pA np cp], .slice bA nb cb] w fun ed w' => ed = .returned (.bool true) ∧ Below w.heap.size w w' := by
  have HPN := Lib.hid (fun W' => lput_no pW pH pA np cp W' hnp hm)
  have HPR := Lib.hid (fun W' => putleaf_no pW pH pA np cp W' hnp hm)
  have HTN := Lib.hid (fun A c W' hb => ltake_none A nb c lb W' hb er hte)
  have HTR := Lib.hid (fun W' hb => rtake_none bA nb cb lb W' hb er hte)
  have he0 : (er == er) = true := by simp
  clear he hte
  have d1 : decide ((15000 : Int) < (np : Int)) = false := by simp; omega
  have d2 : decide ((15000 : Int) < (nb : Int)) = false := by simp; omega
  have HBp := Lib.hid hrp
  have HBb := Lib.hid hrb
  have H15 := Lib.hid (And.intro h1 h2)
  clear hpW hpH hrp hnp hrb hnb hm h1 h2
  go_enter Try.func3, Try.ntmps3
  go_wp2_with fail
  have hst0 : Below w.heap.size w (w.alloc (.cells #[.int .i64 pW, .int .i64 pH, .slice pA np cp] 24)) := by (repeat' (first | exact Below.refl _ _ | exact Below.refl _ _ | refine balloc ?_ _ | refine Below.drew ?_ | refine below_drewN ?_ _ | refine bset ?_ (by first | omega | (simp <;> omega)) _))
  refine (lknown_any _).mono ?_
  rintro e_ w1 ⟨rfl, hb⟩
  have hst : Below w.heap.size w w1 := btrans hst0 hb
  have Kp := (Blk.new w 24 #[.int .i64 pW, .int .i64 pH, .slice pA np cp])
  replace Kp := Kp.below hb Kp.lt
  have hbw : Below w.heap.size w w1 := hst
  replace HBp := Lib.hid (HBp.out.below hst)
  replace HBb := Lib.hid (HBb.out.below hst)
  clear hst hst0 hb 
  have lKp := Kp.lt
  have cKp0 := Kp.cell 0
  have cKp1 := Kp.cell 1
  have cKp2 := Kp.cell 2
  simp only [List.getElem?_toArray, List.getElem?_cons_succ, List.getElem?_cons_zero] at cKp0 cKp1 cKp2
  go_wp2_with fail
  have hst0 : Below w1.heap.size w1 w1 := by (repeat' (first | exact Below.refl _ _ | exact Below.refl _ _ | refine balloc ?_ _ | refine Below.drew ?_ | refine below_drewN ?_ _ | refine bset ?_ (by first | omega | (simp <;> omega)) _))
  refine (HPN.out _).mono ?_
  rintro e_ w2 ⟨rfl, hb⟩
  have hst : Below w1.heap.size w1 w2 := btrans hst0 hb
  replace Kp := Kp.below hb Kp.lt
  replace hbw : Below w.heap.size w w2 := btrans hbw hst
  replace HBp := Lib.hid (HBp.out.below hst)
  replace HBb := Lib.hid (HBb.out.below hst)
  clear hst hst0 hb lKp cKp0 cKp1 cKp2
  have lKp := Kp.lt
  have cKp0 := Kp.cell 0
  have cKp1 := Kp.cell 1
  have cKp2 := Kp.cell 2
  simp only [List.getElem?_toArray, List.getElem?_cons_succ, List.getElem?_cons_zero] at cKp0 cKp1 cKp2
  clear d1 d2
  go_wp2_with fail
  have hst0 : Below w2.heap.size w2 w2 := by (repeat' (first | exact Below.refl _ _ | exact Below.refl _ _ | refine balloc ?_ _ | refine Below.drew ?_ | refine below_drewN ?_ _ | refine bset ?_ (by first | omega | (simp <;> omega)) _))
  refine (HPR.out _).mono ?_
  rintro e_ w3 ⟨rfl, hb⟩
  have hst : Below w2.heap.size w2 w3 := btrans hst0 hb
  replace Kp := Kp.below hb Kp.lt
  replace hbw : Below w.heap.size w w3 := btrans hbw hst
  replace HBp := Lib.hid (HBp.out.below hst)
  replace HBb := Lib.hid (HBb.out.below hst)
  clear hst hst0 hb lKp cKp0 cKp1 cKp2
  have lKp := Kp.lt
  have cKp0 := Kp.cell 0
  have cKp1 := Kp.cell 1
  have cKp2 := Kp.cell 2
  simp only [List.getElem?_toArray, List.getElem?_cons_succ, List.getElem?_cons_zero] at cKp0 cKp1 cKp2
  have hb15 := H15.out.2
  go_wp2_with (at_builtin; refine Held.of ?_)
  unfold Held
  have hst0 : Below w3.heap.size w3 w3 := by (repeat' (first | exact Below.refl _ _ | exact Below.refl _ _ | refine balloc ?_ _ | refine Below.drew ?_ | refine below_drewN ?_ _ | refine bset ?_ (by first | omega | (simp <;> omega)) _))
  have hLn := ((HBb.out.below hst0)).1
  refine wpList_copy (.tmp 35) (.tmp 36) _ _ _ _ rfl rfl (by first | rfl | (rw [size_alloc]; rfl) | (rw [size_alloc, size_alloc]; rfl)) rfl ((HBb.out.below hst0)) (by omega) ?_
  intro vcb w4 hO hb
  have hst : Below w3.heap.size w3 w4 := btrans hst0 hb
  replace Kp := Kp.below hb Kp.lt
  replace hbw : Below w.heap.size w w4 := btrans hbw hst
  replace HBp := Lib.hid (HBp.out.below hst)
  replace HBb := Lib.hid (HBb.out.below hst)
  clear hst hst0 hb lKp cKp0 cKp1 cKp2
  obtain ⟨Acb, ccb, rfl, hcb⟩ := hO.lbn hLn
  clear hO hLn
  have Hhcb := Lib.hid hcb
  clear hcb
  have lKp := Kp.lt
  have cKp0 := Kp.cell 0
  have cKp1 := Kp.cell 1
  have cKp2 := Kp.cell 2
  simp only [List.getElem?_toArray, List.getElem?_cons_succ, List.getElem?_cons_zero] at cKp0 cKp1 cKp2
  clear hb15
  go_wp2_with fail
  have hst0 : Below w4.heap.size w4 w4 := by (repeat' (first | exact Below.refl _ _ | exact Below.refl _ _ | refine balloc ?_ _ | refine Below.drew ?_ | refine below_drewN ?_ _ | refine bset ?_ (by first | omega | (simp <;> omega)) _))
  refine (HTN.out _ _ _ (Hhcb.out.below hst0)).mono ?_
  rintro e_ w5 ⟨rfl, hb⟩
  have hst : Below w4.heap.size w4 w5 := btrans hst0 hb
  replace Kp := Kp.below hb Kp.lt
  replace hbw : Below w.heap.size w w5 := btrans hbw hst
  replace HBp := Lib.hid (HBp.out.below hst)
  replace HBb := Lib.hid (HBb.out.below hst)
  replace Hhcb := Lib.hid (Hhcb.out.below hst)
  clear hst hst0 hb lKp cKp0 cKp1 cKp2
  have lKp := Kp.lt
  have cKp0 := Kp.cell 0
  have cKp1 := Kp.cell 1
  have cKp2 := Kp.cell 2
  simp only [List.getElem?_toArray, List.getElem?_cons_succ, List.getElem?_cons_zero] at cKp0 cKp1 cKp2
  go_wp2_with fail
  have hst0 : Below w5.heap.size w5 (w5.alloc (.cells #[.int .i64 0, .int .i64 0, .slice none 0 0] 24)) := by (repeat' (first | exact Below.refl _ _ | exact Below.refl _ _ | refine balloc ?_ _ | refine Below.drew ?_ | refine below_drewN ?_ _ | refine bset ?_ (by first | omega | (simp <;> omega)) _))
  refine (HTR.out _ (HBb.out.below hst0)).mono ?_
  rintro e_ w6 ⟨rfl, hb⟩
  have hst : Below w5.heap.size w5 w6 := btrans hst0 hb
  replace Kp := (Kp.alloc (.cells #[.int .i64 0, .int .i64 0, .slice none 0 0] 24))
  have Kv := (Blk.new w5 24 #[.int .i64 0, .int .i64 0, .slice none 0 0])
  replace Kp := Kp.below hb Kp.lt
  replace Kv := Kv.below hb Kv.lt
  replace hbw : Below w.heap.size w w6 := btrans hbw hst
  replace HBp := Lib.hid (HBp.out.below hst)
  replace HBb := Lib.hid (HBb.out.below hst)
  replace Hhcb := Lib.hid (Hhcb.out.below hst)
  clear hst hst0 hb lKp cKp0 cKp1 cKp2
  have lKp := Kp.lt
  have cKp0 := Kp.cell 0
  have cKp1 := Kp.cell 1
  have cKp2 := Kp.cell 2
  have lKv := Kv.lt
  have cKv0 := Kv.cell 0
  have cKv1 := Kv.cell 1
  have cKv2 := Kv.cell 2
  simp only [List.getElem?_toArray, List.getElem?_cons_succ, List.getElem?_cons_zero] at cKp0 cKp1 cKp2 cKv0 cKv1 cKv2
  go_wp2_with fail
  have hst0 : Below w6.heap.size w6 (w6.alloc (.cells #[.int .i64 0, .int .i64 0, .slice none 0 0] 24)) := by (repeat' (first | exact Below.refl _ _ | exact Below.refl _ _ | refine balloc ?_ _ | refine Below.drew ?_ | refine below_drewN ?_ _ | refine bset ?_ (by first | omega | (simp <;> omega)) _))
  refine (hbytes_any _ _ _ _ _ _ _ _ _ (nil_lb _) (nil_lb _)).mono ?_
  rintro e_ w7 ⟨rfl, hb⟩
  have hst : Below w6.heap.size w6 w7 := btrans hst0 hb
  replace Kp := (Kp.alloc (.cells #[.int .i64 0, .int .i64 0, .slice none 0 0] 24))
  replace Kv := (Kv.alloc (.cells #[.int .i64 0, .int .i64 0, .slice none 0 0] 24))
  have Ku := (Blk.new w6 24 #[.int .i64 0, .int .i64 0, .slice none 0 0])
  replace Kp := Kp.below hb Kp.lt
  replace Kv := Kv.below hb Kv.lt
  replace Ku := Ku.below hb Ku.lt
  replace hbw : Below w.heap.size w w7 := btrans hbw hst
  replace HBp := Lib.hid (HBp.out.below hst)
  replace HBb := Lib.hid (HBb.out.below hst)
  replace Hhcb := Lib.hid (Hhcb.out.below hst)
  clear hst hst0 hb lKp cKp0 cKp1 cKp2 lKv cKv0 cKv1 cKv2
  have lKp := Kp.lt
  have cKp0 := Kp.cell 0
  have cKp1 := Kp.cell 1
  have cKp2 := Kp.cell 2
  have lKv := Kv.lt
  have cKv0 := Kv.cell 0
  have cKv1 := Kv.cell 1
  have cKv2 := Kv.cell 2
  have lKu := Ku.lt
  have cKu0 := Ku.cell 0
  have cKu1 := Ku.cell 1
  have cKu2 := Ku.cell 2
  simp only [List.getElem?_toArray, List.getElem?_cons_succ, List.getElem?_cons_zero] at cKp0 cKp1 cKp2 cKv0 cKv1 cKv2 cKu0 cKu1 cKu2
  simp only [decide_true]
  go_wp2_with fail
  have hst0 : Below w7.heap.size w7 w7 := by (repeat' (first | exact Below.refl _ _ | exact Below.refl _ _ | refine balloc ?_ _ | refine Below.drew ?_ | refine below_drewN ?_ _ | refine bset ?_ (by first | omega | (simp <;> omega)) _))
  refine (hpage_any _ _ _ _ _ _ _ _ _ _ _ (nil_lb _) (nil_lb _)).mono ?_
  rintro e_ w8 ⟨rfl, hb⟩
  have hst : Below w7.heap.size w7 w8 := btrans hst0 hb
  replace Kp := Kp.below hb Kp.lt
  replace Kv := Kv.below hb Kv.lt
  replace Ku := Ku.below hb Ku.lt
  replace hbw : Below w.heap.size w w8 := btrans hbw hst
  replace HBp := Lib.hid (HBp.out.below hst)
  replace HBb := Lib.hid (HBb.out.below hst)
  replace Hhcb := Lib.hid (Hhcb.out.below hst)
  clear hst hst0 hb lKp cKp0 cKp1 cKp2 lKv cKv0 cKv1 cKv2 lKu cKu0 cKu1 cKu2
  have lKp := Kp.lt
  have cKp0 := Kp.cell 0
  have cKp1 := Kp.cell 1
  have cKp2 := Kp.cell 2
  have lKv := Kv.lt
  have cKv0 := Kv.cell 0
  have cKv1 := Kv.cell 1
  have cKv2 := Kv.cell 2
  have lKu := Ku.lt
  have cKu0 := Ku.cell 0
  have cKu1 := Ku.cell 1
  have cKu2 := Ku.cell 2
  simp only [List.getElem?_toArray, List.getElem?_cons_succ, List.getElem?_cons_zero] at cKp0 cKp1 cKp2 cKv0 cKv1 cKv2 cKu0 cKu1 cKu2
  simp only [decide_true]
  go_wp2_with fail
  go_ret
  exact ⟨by first | rfl | (simp; done), by (repeat' (first | exact hbw | exact Below.refl _ _ | refine balloc ?_ _ | refine Below.drew ?_ | refine below_drewN ?_ _ | refine bset ?_ (by first | omega | (simp <;> omega)) _))⟩
set_option maxRecDepth 100000 in
set_option maxHeartbeats 3200000 in
theorem says_not_ok (pW pH : Int) (pA : Option Addr) (np cp : Nat) (lp : List UInt8) (bA : Option Addr) (nb cb : Nat) (lb : List UInt8) (w : World) (hpW : -9223372036854775808 ≤ pW ∧ pW ≤ 9223372036854775807) (hpH : -9223372036854775808 ≤ pH ∧ pH ≤ 9223372036854775807) (hrp : Bytes w pA np cp lp) (hnp : np ≤ 9223372036854775807) (hrb : Bytes w bA nb cb lb) (hnb : nb ≤ 9223372036854775807) (h1 : np ≤ 15000) (h2 : nb ≤ 15000) (hm : ik.mayB pW pH np = false) (X Y : Nat) (pix : List UInt8) (h12 : nb ≤ 12356) (hte : takeB lb = (X, Y, pix, ([], 0))) :
    Calls Try.prog 3 #[.agg #[.int .i64 pW, .int .i64 pH, .slice pA np cp], .slice bA nb cb] w fun ed w' => ed = .returned (.bool true) ∧ Below w.heap.size w w' := by
  have HPN := Lib.hid (fun W' => lput_no pW pH pA np cp W' hnp hm)
  have HPR := Lib.hid (fun W' => putleaf_no pW pH pA np cp W' hnp hm)
  obtain ⟨K, hK⟩ : ∃ K, pix.length = K := ⟨_, rfl⟩
  have HTO := Lib.hid (fun A c W' hb => ltake_ok A nb c lb W' h12 hb X Y pix K hte hK)
  have HTR := Lib.hid (fun W' hb => rtake_ok bA nb cb lb W' h12 hb X Y pix K hte hK)
  clear hte hK h12
  have d1 : decide ((15000 : Int) < (np : Int)) = false := by simp; omega
  have d2 : decide ((15000 : Int) < (nb : Int)) = false := by simp; omega
  have HBp := Lib.hid hrp
  have HBb := Lib.hid hrb
  have H15 := Lib.hid (And.intro h1 h2)
  clear hpW hpH hrp hnp hrb hnb hm h1 h2
  go_enter Try.func3, Try.ntmps3
  go_wp2_with fail
  have hst0 : Below w.heap.size w (w.alloc (.cells #[.int .i64 pW, .int .i64 pH, .slice pA np cp] 24)) := by (repeat' (first | exact Below.refl _ _ | exact Below.refl _ _ | refine balloc ?_ _ | refine Below.drew ?_ | refine below_drewN ?_ _ | refine bset ?_ (by first | omega | (simp <;> omega)) _))
  refine (lknown_any _).mono ?_
  rintro e_ w1 ⟨rfl, hb⟩
  have hst : Below w.heap.size w w1 := btrans hst0 hb
  have Kp := (Blk.new w 24 #[.int .i64 pW, .int .i64 pH, .slice pA np cp])
  replace Kp := Kp.below hb Kp.lt
  have hbw : Below w.heap.size w w1 := hst
  replace HBp := Lib.hid (HBp.out.below hst)
  replace HBb := Lib.hid (HBb.out.below hst)
  clear hst hst0 hb 
  have lKp := Kp.lt
  have cKp0 := Kp.cell 0
  have cKp1 := Kp.cell 1
  have cKp2 := Kp.cell 2
  simp only [List.getElem?_toArray, List.getElem?_cons_succ, List.getElem?_cons_zero] at cKp0 cKp1 cKp2
  go_wp2_with fail
  have hst0 : Below w1.heap.size w1 w1 := by (repeat' (first | exact Below.refl _ _ | exact Below.refl _ _ | refine balloc ?_ _ | refine Below.drew ?_ | refine below_drewN ?_ _ | refine bset ?_ (by first | omega | (simp <;> omega)) _))
  refine (HPN.out _).mono ?_
  rintro e_ w2 ⟨rfl, hb⟩
  have hst : Below w1.heap.size w1 w2 := btrans hst0 hb
  replace Kp := Kp.below hb Kp.lt
  replace hbw : Below w.heap.size w w2 := btrans hbw hst
  replace HBp := Lib.hid (HBp.out.below hst)
  replace HBb := Lib.hid (HBb.out.below hst)
  clear hst hst0 hb lKp cKp0 cKp1 cKp2
  have lKp := Kp.lt
  have cKp0 := Kp.cell 0
  have cKp1 := Kp.cell 1
  have cKp2 := Kp.cell 2
  simp only [List.getElem?_toArray, List.getElem?_cons_succ, List.getElem?_cons_zero] at cKp0 cKp1 cKp2
  clear d1 d2
  go_wp2_with fail
  have hst0 : Below w2.heap.size w2 w2 := by (repeat' (first | exact Below.refl _ _ | exact Below.refl _ _ | refine balloc ?_ _ | refine Below.drew ?_ | refine below_drewN ?_ _ | refine bset ?_ (by first | omega | (simp <;> omega)) _))
  refine (HPR.out _).mono ?_
  rintro e_ w3 ⟨rfl, hb⟩
  have hst : Below w2.heap.size w2 w3 := btrans hst0 hb
  replace Kp := Kp.below hb Kp.lt
  replace hbw : Below w.heap.size w w3 := btrans hbw hst
  replace HBp := Lib.hid (HBp.out.below hst)
  replace HBb := Lib.hid (HBb.out.below hst)
  clear hst hst0 hb lKp cKp0 cKp1 cKp2
  have lKp := Kp.lt
  have cKp0 := Kp.cell 0
  have cKp1 := Kp.cell 1
  have cKp2 := Kp.cell 2
  simp only [List.getElem?_toArray, List.getElem?_cons_succ, List.getElem?_cons_zero] at cKp0 cKp1 cKp2
  have hb15 := H15.out.2
  go_wp2_with (at_builtin; refine Held.of ?_)
  unfold Held
  have hst0 : Below w3.heap.size w3 w3 := by (repeat' (first | exact Below.refl _ _ | exact Below.refl _ _ | refine balloc ?_ _ | refine Below.drew ?_ | refine below_drewN ?_ _ | refine bset ?_ (by first | omega | (simp <;> omega)) _))
  have hLn := ((HBb.out.below hst0)).1
  refine wpList_copy (.tmp 35) (.tmp 36) _ _ _ _ rfl rfl (by first | rfl | (rw [size_alloc]; rfl) | (rw [size_alloc, size_alloc]; rfl)) rfl ((HBb.out.below hst0)) (by omega) ?_
  intro vcb w4 hO hb
  have hst : Below w3.heap.size w3 w4 := btrans hst0 hb
  replace Kp := Kp.below hb Kp.lt
  replace hbw : Below w.heap.size w w4 := btrans hbw hst
  replace HBp := Lib.hid (HBp.out.below hst)
  replace HBb := Lib.hid (HBb.out.below hst)
  clear hst hst0 hb lKp cKp0 cKp1 cKp2
  obtain ⟨Acb, ccb, rfl, hcb⟩ := hO.lbn hLn
  clear hO hLn
  have Hhcb := Lib.hid hcb
  clear hcb
  have lKp := Kp.lt
  have cKp0 := Kp.cell 0
  have cKp1 := Kp.cell 1
  have cKp2 := Kp.cell 2
  simp only [List.getElem?_toArray, List.getElem?_cons_succ, List.getElem?_cons_zero] at cKp0 cKp1 cKp2
  clear hb15
  go_wp2_with fail
  have hst0 : Below w4.heap.size w4 w4 := by (repeat' (first | exact Below.refl _ _ | exact Below.refl _ _ | refine balloc ?_ _ | refine Below.drew ?_ | refine below_drewN ?_ _ | refine bset ?_ (by first | omega | (simp <;> omega)) _))
  refine (HTO.out _ _ _ (Hhcb.out.below hst0)).mono ?_
  rintro e_ w5 ⟨Dv, fv, rfl, hv, hb⟩
  have hst : Below w4.heap.size w4 w5 := btrans hst0 hb
  replace Kp := Kp.below hb Kp.lt
  replace hbw : Below w.heap.size w w5 := btrans hbw hst
  replace HBp := Lib.hid (HBp.out.below hst)
  replace HBb := Lib.hid (HBb.out.below hst)
  replace Hhcb := Lib.hid (Hhcb.out.below hst)
  clear hst hst0 hb lKp cKp0 cKp1 cKp2
  have Hhv := Lib.hid hv
  clear hv
  have lKp := Kp.lt
  have cKp0 := Kp.cell 0
  have cKp1 := Kp.cell 1
  have cKp2 := Kp.cell 2
  simp only [List.getElem?_toArray, List.getElem?_cons_succ, List.getElem?_cons_zero] at cKp0 cKp1 cKp2
  go_wp2_with fail
  have hst0 : Below w5.heap.size w5 (w5.alloc (.cells #[.int .i64 (X : Int), .int .i64 (Y : Int), .slice Dv K fv] 24)) := by (repeat' (first | exact Below.refl _ _ | exact Below.refl _ _ | refine balloc ?_ _ | refine Below.drew ?_ | refine below_drewN ?_ _ | refine bset ?_ (by first | omega | (simp <;> omega)) _))
  refine (HTR.out _ (HBb.out.below hst0)).mono ?_
  rintro e_ w6 ⟨Du, fu, rfl, hu, hb⟩
  have hst : Below w5.heap.size w5 w6 := btrans hst0 hb
  replace Kp := (Kp.alloc (.cells #[.int .i64 (X : Int), .int .i64 (Y : Int), .slice Dv K fv] 24))
  have Kv := (Blk.new w5 24 #[.int .i64 (X : Int), .int .i64 (Y : Int), .slice Dv K fv])
  replace Kp := Kp.below hb Kp.lt
  replace Kv := Kv.below hb Kv.lt
  replace hbw : Below w.heap.size w w6 := btrans hbw hst
  replace HBp := Lib.hid (HBp.out.below hst)
  replace HBb := Lib.hid (HBb.out.below hst)
  replace Hhcb := Lib.hid (Hhcb.out.below hst)
  replace Hhv := Lib.hid (Hhv.out.below hst)
  clear hst hst0 hb lKp cKp0 cKp1 cKp2
  have Hhu := Lib.hid hu
  clear hu
  have lKp := Kp.lt
  have cKp0 := Kp.cell 0
  have cKp1 := Kp.cell 1
  have cKp2 := Kp.cell 2
  have lKv := Kv.lt
  have cKv0 := Kv.cell 0
  have cKv1 := Kv.cell 1
  have cKv2 := Kv.cell 2
  simp only [List.getElem?_toArray, List.getElem?_cons_succ, List.getElem?_cons_zero] at cKp0 cKp1 cKp2 cKv0 cKv1 cKv2
  go_wp2_with fail
  have hst0 : Below w6.heap.size w6 (w6.alloc (.cells #[.int .i64 (X : Int), .int .i64 (Y : Int), .slice Du K fu] 24)) := by (repeat' (first | exact Below.refl _ _ | exact Below.refl _ _ | refine balloc ?_ _ | refine Below.drew ?_ | refine below_drewN ?_ _ | refine bset ?_ (by first | omega | (simp <;> omega)) _))
  refine (hbytes_any _ _ _ _ _ _ _ _ _ (nil_lb _) (nil_lb _)).mono ?_
  rintro e_ w7 ⟨rfl, hb⟩
  have hst : Below w6.heap.size w6 w7 := btrans hst0 hb
  replace Kp := (Kp.alloc (.cells #[.int .i64 (X : Int), .int .i64 (Y : Int), .slice Du K fu] 24))
  replace Kv := (Kv.alloc (.cells #[.int .i64 (X : Int), .int .i64 (Y : Int), .slice Du K fu] 24))
  have Ku := (Blk.new w6 24 #[.int .i64 (X : Int), .int .i64 (Y : Int), .slice Du K fu])
  replace Kp := Kp.below hb Kp.lt
  replace Kv := Kv.below hb Kv.lt
  replace Ku := Ku.below hb Ku.lt
  replace hbw : Below w.heap.size w w7 := btrans hbw hst
  replace HBp := Lib.hid (HBp.out.below hst)
  replace HBb := Lib.hid (HBb.out.below hst)
  replace Hhcb := Lib.hid (Hhcb.out.below hst)
  replace Hhv := Lib.hid (Hhv.out.below hst)
  replace Hhu := Lib.hid (Hhu.out.below hst)
  clear hst hst0 hb lKp cKp0 cKp1 cKp2 lKv cKv0 cKv1 cKv2
  have lKp := Kp.lt
  have cKp0 := Kp.cell 0
  have cKp1 := Kp.cell 1
  have cKp2 := Kp.cell 2
  have lKv := Kv.lt
  have cKv0 := Kv.cell 0
  have cKv1 := Kv.cell 1
  have cKv2 := Kv.cell 2
  have lKu := Ku.lt
  have cKu0 := Ku.cell 0
  have cKu1 := Ku.cell 1
  have cKu2 := Ku.cell 2
  simp only [List.getElem?_toArray, List.getElem?_cons_succ, List.getElem?_cons_zero] at cKp0 cKp1 cKp2 cKv0 cKv1 cKv2 cKu0 cKu1 cKu2
  simp only [decide_true]
  go_wp2_with fail
  have hst0 : Below w7.heap.size w7 w7 := by (repeat' (first | exact Below.refl _ _ | exact Below.refl _ _ | refine balloc ?_ _ | refine Below.drew ?_ | refine below_drewN ?_ _ | refine bset ?_ (by first | omega | (simp <;> omega)) _))
  refine (hpage_any _ _ _ _ _ _ _ _ _ _ _ (Hhv.out.below hst0) (Hhu.out.below hst0)).mono ?_
  rintro e_ w8 ⟨rfl, hb⟩
  have hst : Below w7.heap.size w7 w8 := btrans hst0 hb
  replace Kp := Kp.below hb Kp.lt
  replace Kv := Kv.below hb Kv.lt
  replace Ku := Ku.below hb Ku.lt
  replace hbw : Below w.heap.size w w8 := btrans hbw hst
  replace HBp := Lib.hid (HBp.out.below hst)
  replace HBb := Lib.hid (HBb.out.below hst)
  replace Hhcb := Lib.hid (Hhcb.out.below hst)
  replace Hhv := Lib.hid (Hhv.out.below hst)
  replace Hhu := Lib.hid (Hhu.out.below hst)
  clear hst hst0 hb lKp cKp0 cKp1 cKp2 lKv cKv0 cKv1 cKv2 lKu cKu0 cKu1 cKu2
  have lKp := Kp.lt
  have cKp0 := Kp.cell 0
  have cKp1 := Kp.cell 1
  have cKp2 := Kp.cell 2
  have lKv := Kv.lt
  have cKv0 := Kv.cell 0
  have cKv1 := Kv.cell 1
  have cKv2 := Kv.cell 2
  have lKu := Ku.lt
  have cKu0 := Ku.cell 0
  have cKu1 := Ku.cell 1
  have cKu2 := Ku.cell 2
  simp only [List.getElem?_toArray, List.getElem?_cons_succ, List.getElem?_cons_zero] at cKp0 cKp1 cKp2 cKv0 cKv1 cKv2 cKu0 cKu1 cKu2
  simp only [decide_true]
  go_wp2_with fail
  go_ret
  exact ⟨by first | rfl | (simp; done), by (repeat' (first | exact hbw | exact Below.refl _ _ | refine balloc ?_ _ | refine Below.drew ?_ | refine below_drewN ?_ _ | refine bset ?_ (by first | omega | (simp <;> omega)) _))⟩
theorem take_ways (nb : Nat) (lb : List UInt8) : (∃ er : Int, er ≠ 0 ∧ ((12356 < nb ∧ er = 5) ∨ (nb ≤ 12356 ∧ er ≠ 0 ∧ (takeB lb).2.2.2.2 = er))) ∨ (∃ X Y pix, nb ≤ 12356 ∧ takeB lb = (X, Y, pix, ([], 0))) := by
  by_cases h3 : 12356 < nb
  · exact .inl ⟨5, by decide, .inl ⟨h3, rfl⟩⟩
  · rcases ltake_cases lb with ⟨X, Y, pix, a, b, c, d, e⟩ | h | h
    · exact .inr ⟨X, Y, pix, by omega, d⟩
    · exact .inl ⟨3, by decide, .inr ⟨by omega, by decide, h⟩⟩
    · exact .inl ⟨4, by decide, .inr ⟨by omega, by decide, h⟩⟩
theorem says_law (pW pH : Int) (pA : Option Addr) (np cp : Nat) (lp : List UInt8) (bA : Option Addr) (nb cb : Nat) (lb : List UInt8) (w : World) (hpW : -9223372036854775808 ≤ pW ∧ pW ≤ 9223372036854775807) (hpH : -9223372036854775808 ≤ pH ∧ pH ≤ 9223372036854775807) (hrp : Bytes w pA np cp lp) (hnp : np ≤ 9223372036854775807) (hrb : Bytes w bA nb cb lb) (hnb : nb ≤ 9223372036854775807) :
    Calls Try.prog 3 #[.agg #[.int .i64 pW, .int .i64 pH, .slice pA np cp], .slice bA nb cb] w fun ed w' => ed = .returned (.bool true) ∧ Below w.heap.size w w' := by
  by_cases h1 : 15000 < np
  · exact says_big1 pW pH pA np cp lp bA nb cb lb w hpW hpH hrp hnp hrb hnb h1
  · by_cases h2 : 15000 < nb
    · exact says_big2 pW pH pA np cp lp bA nb cb lb w hpW hpH hrp hnp hrb hnb (by omega) h2
    · replace h1 : np ≤ 15000 := by omega
      replace h2 : nb ≤ 15000 := by omega
      cases hm : ik.mayB pW pH np with
      | true =>
        rcases take_ways nb lb with ⟨er, he, hte⟩ | ⟨X, Y, pix, d, e⟩
        · exact says_may_none pW pH pA np cp lp bA nb cb lb w hpW hpH hrp hnp hrb hnb h1 h2 hm er he hte
        · exact says_may_ok pW pH pA np cp lp bA nb cb lb w hpW hpH hrp hnp hrb hnb h1 h2 hm X Y pix d e
      | false =>
        rcases take_ways nb lb with ⟨er, he, hte⟩ | ⟨X, Y, pix, d, e⟩
        · exact says_not_none pW pH pA np cp lp bA nb cb lb w hpW hpH hrp hnp hrb hnb h1 h2 hm er he hte
        · exact says_not_ok pW pH pA np cp lp bA nb cb lb w hpW hpH hrp hnp hrb hnb h1 h2 hm X Y pix d e
end Go.Proofs.Ytfmkdccpgkbnoaa.lf
