/-
  LeafBoxes: a page with one box of ink on it takes no more than fourteen bytes a row, behind the first four.
-/
import Derived.Test.YtfmkdccpgkbnoaaLawLSizes
namespace Go.Proofs.Ytfmkdccpgkbnoaa.lf
set_option linter.unusedVariables false
set_option linter.unusedSimpArgs false
open Go.RowKit bs rg op ik

/-- two colours, one within a box -/
def boxB (x0 y0 x1 y1 : Int) (F G : Nat → Int) (k : Nat) : Int := if rectSet x0 y0 x1 y1 (k / 3 / 40) (k / 3 % 40) = true then G (k % 3) else F (k % 3)
theorem box_pix (x0 y0 x1 y1 : Int) (F G : Nat → Int) (j i t : Nat) (hi : i < 40) (ht : t < 3) : boxB x0 y0 x1 y1 F G (3 * 40 * j + (3 * i + t)) = if rectSet x0 y0 x1 y1 j i = true then G t else F t := by
  unfold boxB
  rw [show (3 * 40 * j + (3 * i + t)) / 3 / 40 = j by omega, show (3 * 40 * j + (3 * i + t)) / 3 % 40 = i by omega, show (3 * 40 * j + (3 * i + t)) % 3 = t by omega]
theorem box_len {N : Nat} (hN : N = 4800) (x0 y0 x1 y1 : Int) (B F G : Nat → Int) (hB : ∀ k, k < N → B k = boxB x0 y0 x1 y1 F G k) (hF : ∀ t, t < 3 → 0 ≤ F t ∧ F t ≤ 255) (hG : ∀ t, t < 3 → 0 ≤ G t ∧ G t ≤ 255) : (putL 40 40 (listB N B)).length ≤ 564 := by
  have hl : (listB N B).length = 4800 := by rw [listB_len, hN]
  have h2 := encs_le (W := 40) (m := 3) (listB N B) 40 0 (by rw [hl]; decide) (fun j _ hj => by
    obtain ⟨a, ha⟩ : ∃ a : Nat, a = (if y0 ≤ (j : Int) ∧ (j : Int) < y1 then (max 0 (min x0 40)).toNat else 0) := ⟨_, rfl⟩
    obtain ⟨b, hb⟩ : ∃ b : Nat, b = (if y0 ≤ (j : Int) ∧ (j : Int) < y1 then max a (max 0 (min x1 40)).toNat else 0) := ⟨_, rfl⟩
    have hab : a ≤ b := by
      rw [ha] at hb ⊢
      rw [hb]
      split <;> omega
    have hb4 : b ≤ 40 := by
      rw [hb, ha]
      split <;> omega
    refine row_runs 40 _ (UInt8.ofNat (G 0).toNat, UInt8.ofNat (G 1).toNat, UInt8.ofNat (G 2).toNat) (UInt8.ofNat (F 0).toNat, UInt8.ofNat (F 1).toNat, UInt8.ofNat (F 2).toNat) a b hab hb4 fun i hi => ?_
    have key : ∀ t, t < 3 → (listB N B).getD (3 * 40 * j + (3 * i + t)) 0 = UInt8.ofNat (if rectSet x0 y0 x1 y1 j i = true then G t else F t).toNat := fun t ht => by
      have hb := hB (3 * 40 * j + (3 * i + t)) (by omega)
      rw [box_pix _ _ _ _ _ _ _ _ _ hi ht] at hb
      rw [listB_at N B _ (by omega) (by rw [hb]; split; exact hG t ht; exact hF t ht), hb]
    have k0 := key 0 (by omega)
    rw [Nat.add_zero] at k0
    rw [px_row 40 _ j i hi, k0, key 1 (by omega), key 2 (by omega)]
    have e : (a ≤ i ∧ i < b) ↔ rectSet x0 y0 x1 y1 j i = true := by
      unfold rectSet
      simp only [Bool.and_eq_true, decide_eq_true_eq]
      by_cases hy : y0 ≤ (j : Int) ∧ (j : Int) < y1
      · rw [if_pos hy] at ha hb
        omega
      · rw [if_neg hy] at ha hb
        omega
    by_cases hr : rectSet x0 y0 x1 y1 j i = true
    · rw [if_pos (e.2 hr)]; simp only [hr, if_true]
    · rw [if_neg (fun h => hr (e.1 h))]; simp only [if_neg hr])
  unfold putL headL
  rw [List.length_append]
  simp only [List.length_cons, List.length_nil]
  omega
theorem box_put (x0 y0 x1 y1 a b c x y z : Int) (ha : 0 ≤ a ∧ a ≤ 255) (hb : 0 ≤ b ∧ b ≤ 255) (hc : 0 ≤ c ∧ c ≤ 255) (hx : 0 ≤ x ∧ x ≤ 255) (hy : 0 ≤ y ∧ y ≤ 255) (hz : 0 ≤ z ∧ z ≤ 255) (k : Nat) :
    putB 40 (rectSet x0 y0 x1 y1) x y z 255 (putB 40 (fun _ _ => true) a b c 255 (fun _ => 255)) k = boxB x0 y0 x1 y1 (chan a b c) (chan x y z) k := by
  have h1 : putB 40 (fun _ _ => true) a b c 255 (fun _ => 255) k = chan a b c (k % 3) := by
    unfold putB
    rw [if_pos rfl]
    exact blend_all 255 _ ⟨by decide, by decide⟩ (chan_bd ha hb hc _)
  unfold boxB
  rw [putB, h1]
  split
  · exact blend_all _ _ (chan_bd ha hb hc _) (chan_bd hx hy hz _)
  · rfl
def quad (a b c d p q r s : Int) (i : Nat) : Array Value := #[.int .i64 (if 0 < i then p else a), .int .i64 (if 1 < i then q else b), .int .i64 (if 2 < i then r else c), .int .i64 (if 3 < i then s else d)]
set_option maxRecDepth 100000 in
set_option maxHeartbeats 3200000 in
theorem boxes_law (a0 a1 a2 a3 k0 k1 k2 k3 l0 l1 l2 l3 : Int) (w : World) (_ha0 : -9223372036854775808 ≤ a0 ∧ a0 ≤ 9223372036854775807) (_ha1 : -9223372036854775808 ≤ a1 ∧ a1 ≤ 9223372036854775807) (_ha2 : -9223372036854775808 ≤ a2 ∧ a2 ≤ 9223372036854775807) (_ha3 : -9223372036854775808 ≤ a3 ∧ a3 ≤ 9223372036854775807) (hk0 : 0 ≤ k0 ∧ k0 ≤ 255) (hk1 : 0 ≤ k1 ∧ k1 ≤ 255) (hk2 : 0 ≤ k2 ∧ k2 ≤ 255) (hk3 : 0 ≤ k3 ∧ k3 ≤ 255) (hl0 : 0 ≤ l0 ∧ l0 ≤ 255) (hl1 : 0 ≤ l1 ∧ l1 ≤ 255) (hl2 : 0 ≤ l2 ∧ l2 ≤ 255) (hl3 : 0 ≤ l3 ∧ l3 ≤ 255) :
    Calls Try.prog 11 #[.agg #[.int .i64 a0, .int .i64 a1, .int .i64 a2, .int .i64 a3], .agg #[.int .u8 k0, .int .u8 k1, .int .u8 k2, .int .u8 k3], .agg #[.int .u8 l0, .int .u8 l1, .int .u8 l2, .int .u8 l3]] w fun ed w' => ed = .returned (.bool true) ∧ Below w.heap.size w w' := by
  obtain ⟨z0, hz0⟩ : ∃ z, a0 % 50 = z := ⟨_, rfl⟩
  have b0z0 : 0 ≤ z0 := by rw [← hz0]; exact Int.emod_nonneg _ (by decide)
  have b1z0 : z0 < 50 := by rw [← hz0]; exact Int.emod_lt_of_pos _ (by decide)
  have HP0 := Lib.hid (fun W => place_any a0 50 W (by decide) (by decide))
  rw [hz0] at HP0
  obtain ⟨q0, hq0⟩ : ∃ q, z0 - 5 = q := ⟨_, rfl⟩
  clear hz0 _ha0
  obtain ⟨z1, hz1⟩ : ∃ z, a1 % 50 = z := ⟨_, rfl⟩
  have b0z1 : 0 ≤ z1 := by rw [← hz1]; exact Int.emod_nonneg _ (by decide)
  have b1z1 : z1 < 50 := by rw [← hz1]; exact Int.emod_lt_of_pos _ (by decide)
  have HP1 := Lib.hid (fun W => place_any a1 50 W (by decide) (by decide))
  rw [hz1] at HP1
  obtain ⟨q1, hq1⟩ : ∃ q, z1 - 5 = q := ⟨_, rfl⟩
  clear hz1 _ha1
  obtain ⟨z2, hz2⟩ : ∃ z, a2 % 50 = z := ⟨_, rfl⟩
  have b0z2 : 0 ≤ z2 := by rw [← hz2]; exact Int.emod_nonneg _ (by decide)
  have b1z2 : z2 < 50 := by rw [← hz2]; exact Int.emod_lt_of_pos _ (by decide)
  have HP2 := Lib.hid (fun W => place_any a2 50 W (by decide) (by decide))
  rw [hz2] at HP2
  obtain ⟨q2, hq2⟩ : ∃ q, z2 - 5 = q := ⟨_, rfl⟩
  clear hz2 _ha2
  obtain ⟨z3, hz3⟩ : ∃ z, a3 % 50 = z := ⟨_, rfl⟩
  have b0z3 : 0 ≤ z3 := by rw [← hz3]; exact Int.emod_nonneg _ (by decide)
  have b1z3 : z3 < 50 := by rw [← hz3]; exact Int.emod_lt_of_pos _ (by decide)
  have HP3 := Lib.hid (fun W => place_any a3 50 W (by decide) (by decide))
  rw [hz3] at HP3
  obtain ⟨q3, hq3⟩ : ∃ q, z3 - 5 = q := ⟨_, rfl⟩
  clear hz3 _ha3
  obtain ⟨N, hN⟩ : ∃ N, N = 3 * (40 * 40) := ⟨_, rfl⟩
  have HBP := Lib.hid (fun k => box_put q0 q1 q2 q3 k0 k1 k2 l0 l1 l2 hk0 hk1 hk2 hl0 hl1 hl2 k)
  have HBL := Lib.hid (fun B hB => box_len (N := N) hN q0 q1 q2 q3 B (chan k0 k1 k2) (chan l0 l1 l2) hB (fun t _ => chan_bd hk0 hk1 hk2 t) (fun t _ => chan_bd hl0 hl1 hl2 t))
  have HPS := Lib.hid (fun A c l W' hb => lput_any 40 40 N c A l W' (by decide) (by decide) hN hb)
  have HTK := Lib.hid (fun A m c l W' (hm : m ≤ 12356) (hl : l.length = N) hb => ltake_ok A m c (putL 40 40 l) W' hm hb 40 40 l N (takeB_put (by decide) (by decide) l (by rw [hl, hN])) hl)
  have HNW := Lib.hid (fun W' => new_pg 40 40 N W' (by decide) (by decide) hN)
  have HAL := Lib.hid (fun W' => rall_any 40 40 W' (by decide) (by decide))
  have HRC := Lib.hid (fun W' => rrect_any 40 40 q0 q1 q2 q3 W' (by decide) (by decide))
  have HPK := Lib.hid (fun c d A D R B W' hp hr => rg.put_any 40 40 N c d A D R k0 k1 k2 255 B W' (by decide) (by decide) hN hk0 hk1 hk2 ⟨by decide, by decide⟩ hp hr)
  have HPL := Lib.hid (fun c d A D R B W' hp hr => rg.put_any 40 40 N c d A D R l0 l1 l2 255 B W' (by decide) (by decide) hN hl0 hl1 hl2 ⟨by decide, by decide⟩ hp hr)
  clear hN hk0 hk1 hk2 hk3 hl0 hl1 hl2 hl3
  go_enter Try.func11, Try.ntmps11
  go_wp2_with fail
  have hst0 : Below w.heap.size w (((w.alloc (.cells #[.int .i64 a0, .int .i64 a1, .int .i64 a2, .int .i64 a3] 60)).alloc (.cells #[.int .u8 k0, .int .u8 k1, .int .u8 k2, .int .u8 k3] 54)).alloc (.cells #[.int .u8 l0, .int .u8 l1, .int .u8 l2, .int .u8 l3] 54)) := by (repeat' (first | exact Below.refl _ _ | exact Below.refl _ _ | refine balloc ?_ _ | refine Below.drew ?_ | refine below_drewN ?_ _ | refine bset ?_ (by first | omega | (simp <;> omega)) _))
  refine (lknown_any _).mono ?_
  rintro e_ w1 ⟨rfl, hb⟩
  have hst : Below w.heap.size w w1 := btrans hst0 hb
  have Ka := (((Blk.new w 60 #[.int .i64 a0, .int .i64 a1, .int .i64 a2, .int .i64 a3]).alloc (.cells #[.int .u8 k0, .int .u8 k1, .int .u8 k2, .int .u8 k3] 54)).alloc (.cells #[.int .u8 l0, .int .u8 l1, .int .u8 l2, .int .u8 l3] 54))
  have Kk := ((Blk.new (w.alloc (.cells #[.int .i64 a0, .int .i64 a1, .int .i64 a2, .int .i64 a3] 60)) 54 #[.int .u8 k0, .int .u8 k1, .int .u8 k2, .int .u8 k3]).alloc (.cells #[.int .u8 l0, .int .u8 l1, .int .u8 l2, .int .u8 l3] 54))
  have hz_Kk : (w.alloc (.cells #[.int .i64 a0, .int .i64 a1, .int .i64 a2, .int .i64 a3] 60)).heap.size = w.heap.size + 1 := by simp
  rw [hz_Kk] at Kk
  clear hz_Kk
  have Kl := (Blk.new ((w.alloc (.cells #[.int .i64 a0, .int .i64 a1, .int .i64 a2, .int .i64 a3] 60)).alloc (.cells #[.int .u8 k0, .int .u8 k1, .int .u8 k2, .int .u8 k3] 54)) 54 #[.int .u8 l0, .int .u8 l1, .int .u8 l2, .int .u8 l3])
  have hz_Kl : ((w.alloc (.cells #[.int .i64 a0, .int .i64 a1, .int .i64 a2, .int .i64 a3] 60)).alloc (.cells #[.int .u8 k0, .int .u8 k1, .int .u8 k2, .int .u8 k3] 54)).heap.size = w.heap.size + 1 + 1 := by simp
  rw [hz_Kl] at Kl
  clear hz_Kl
  replace Ka := Ka.below hb Ka.lt
  replace Kk := Kk.below hb Kk.lt
  replace Kl := Kl.below hb Kl.lt
  have hbw : Below w.heap.size w w1 := hst
  clear hst hst0 hb 
  have lKa := Ka.lt
  have cKa0 := Ka.cell 0
  have cKa1 := Ka.cell 1
  have cKa2 := Ka.cell 2
  have cKa3 := Ka.cell 3
  have lKk := Kk.lt
  have cKk0 := Kk.cell 0
  have cKk1 := Kk.cell 1
  have cKk2 := Kk.cell 2
  have cKk3 := Kk.cell 3
  have lKl := Kl.lt
  have cKl0 := Kl.cell 0
  have cKl1 := Kl.cell 1
  have cKl2 := Kl.cell 2
  have cKl3 := Kl.cell 3
  simp only [List.getElem?_toArray, List.getElem?_cons_succ, List.getElem?_cons_zero] at cKa0 cKa1 cKa2 cKa3 cKk0 cKk1 cKk2 cKk3 cKl0 cKl1 cKl2 cKl3
  go_wp2_with fail
  have HKa := Lib.hid (show Blk w1 w.heap.size 60 (quad a0 a1 a2 a3 q0 q1 q2 q3 0) from Ka)
  have HKk := Lib.hid Kk
  have HKl := Lib.hid Kl
  have HBW := Lib.hid hbw
  clear lKa cKa0 cKa1 cKa2 cKa3 lKk cKk0 cKk1 cKk2 cKk3 lKl cKl0 cKl1 cKl2 cKl3 Ka Kk Kl hbw
  go_loopw [7] (fun iv wr => ∃ i : Nat, i ≤ 4 ∧ iv = .int .i64 (i : Int) ∧ Hid (Blk wr w.heap.size 60 (quad a0 a1 a2 a3 q0 q1 q2 q3 i) ∧ Blk wr (w.heap.size + 1) 54 #[.int .u8 k0, .int .u8 k1, .int .u8 k2, .int .u8 k3] ∧ Blk wr (w.heap.size + 1 + 1) 54 #[.int .u8 l0, .int .u8 l1, .int .u8 l2, .int .u8 l3] ∧ Below w.heap.size w wr)) (fun iv _ => 4 - (intOf iv).toNat)
  case atStart => exact ⟨0, by omega, rfl, Lib.hid ⟨HKa.out, HKk.out, HKl.out, HBW.out⟩⟩
  case round =>
    clear HKa HKk HKl HBW
    obtain ⟨i, hi, rfl, hR⟩ := hrel
    obtain ⟨wo, rfl⟩ : ∃ wo, wo = wr := ⟨_, rfl⟩
    have Ka := hR.out.1
    have c0 := Ka.cell 0
    have c1 := Ka.cell 1
    have c2 := Ka.cell 2
    have c3 := Ka.cell 3
    have f0 := Ka.frozen 0
    have f1 := Ka.frozen 1
    have f2 := Ka.frozen 2
    have f3 := Ka.frozen 3
    simp only [quad, List.getElem?_toArray, List.getElem?_cons_succ, List.getElem?_cons_zero] at c0 c1 c2 c3
    clear Ka
    rcases (show i = 0 ∨ i = 1 ∨ i = 2 ∨ i = 3 ∨ i = 4 by omega) with rfl | rfl | rfl | rfl | rfl
    · go_wp2_with fail
      refine (HP0.out _).mono ?_
      rintro e_ w_ ⟨rfl, rfl⟩
      go_wp2_with fail
      go_roundw
      case rel => exact ⟨1, by omega, by go_num, Lib.hid ⟨hR.out.1.set_ 0 (.int .i64 q0), hR.out.2.1.far (by first | (simp; done) | (simp; omega)) _, hR.out.2.2.1.far (by first | (simp; done) | (simp; omega)) _, bset hR.out.2.2.2 (Nat.le_refl _) _⟩⟩
      case measure => simp [intOf]
    · go_wp2_with fail
      refine (HP1.out _).mono ?_
      rintro e_ w_ ⟨rfl, rfl⟩
      go_wp2_with fail
      go_roundw
      case rel => exact ⟨2, by omega, by go_num, Lib.hid ⟨hR.out.1.set_ 1 (.int .i64 q1), hR.out.2.1.far (by first | (simp; done) | (simp; omega)) _, hR.out.2.2.1.far (by first | (simp; done) | (simp; omega)) _, bset hR.out.2.2.2 (Nat.le_refl _) _⟩⟩
      case measure => simp [intOf]
    · go_wp2_with fail
      refine (HP2.out _).mono ?_
      rintro e_ w_ ⟨rfl, rfl⟩
      go_wp2_with fail
      go_roundw
      case rel => exact ⟨3, by omega, by go_num, Lib.hid ⟨hR.out.1.set_ 2 (.int .i64 q2), hR.out.2.1.far (by first | (simp; done) | (simp; omega)) _, hR.out.2.2.1.far (by first | (simp; done) | (simp; omega)) _, bset hR.out.2.2.2 (Nat.le_refl _) _⟩⟩
      case measure => simp [intOf]
    · go_wp2_with fail
      refine (HP3.out _).mono ?_
      rintro e_ w_ ⟨rfl, rfl⟩
      go_wp2_with fail
      go_roundw
      case rel => exact ⟨4, by omega, by go_num, Lib.hid ⟨hR.out.1.set_ 3 (.int .i64 q3), hR.out.2.1.far (by first | (simp; done) | (simp; omega)) _, hR.out.2.2.1.far (by first | (simp; done) | (simp; omega)) _, bset hR.out.2.2.2 (Nat.le_refl _) _⟩⟩
      case measure => simp [intOf]
    · obtain ⟨Ka, Kk, Kl, hbw⟩ := hR.out
      replace Ka : Blk wo w.heap.size 60 #[.int .i64 q0, .int .i64 q1, .int .i64 q2, .int .i64 q3] := Ka
      replace c0 : wo.cell? ⟨w.heap.size, 0, none⟩ = some (.int .i64 q0) := c0
      replace c1 : wo.cell? ⟨w.heap.size, 1, none⟩ = some (.int .i64 q1) := c1
      replace c2 : wo.cell? ⟨w.heap.size, 2, none⟩ = some (.int .i64 q2) := c2
      replace c3 : wo.cell? ⟨w.heap.size, 3, none⟩ = some (.int .i64 q3) := c3
      have k3 := Kk.cell 3
      have l3_ := Kl.cell 3
      have fk := Kk.frozen 3
      have fl := Kl.frozen 3
      simp only [List.getElem?_toArray, List.getElem?_cons_succ, List.getElem?_cons_zero] at k3 l3_
      have Kk2 := (Kk.set_ 3 (.int .u8 255)).far (p := ⟨w.heap.size + 1 + 1, 3, none⟩) (by first | (simp; done) | (simp; omega)) (.int .u8 255)
      have Kl2 := (Kl.far (p := ⟨w.heap.size + 1, 3, none⟩) (by first | (simp; done) | (simp; omega)) (.int .u8 255)).set_ 3 (.int .u8 255)
      have Ka2 := (Ka.far (p := ⟨w.heap.size + 1, 3, none⟩) (by first | (simp; done) | (simp; omega)) (.int .u8 255)).far (p := ⟨w.heap.size + 1 + 1, 3, none⟩) (by first | (simp; done) | (simp; omega)) (.int .u8 255)
      have hbw2 := bset (bset hbw (p := ⟨w.heap.size + 1, 3, none⟩) (by first | (simp; done) | (simp; omega)) (.int .u8 255)) (p := ⟨w.heap.size + 1 + 1, 3, none⟩) (by first | (simp; done) | (simp; omega)) (.int .u8 255)
      have HKa := Lib.hid Ka2
      have HKk := Lib.hid Kk2
      have HKl := Lib.hid Kl2
      have HBW := Lib.hid hbw2
      clear Ka Kk Kl hbw hR Ka2 Kk2 Kl2 hbw2 b0z0 b1z0 b0z1 b1z1 b0z2 b1z2 b0z3 b1z3
      go_wp2_with fail
      generalize hwz : (wo.setCell ⟨w.heap.size + 1, 3, none⟩ (.int .u8 255)).setCell ⟨w.heap.size + 1 + 1, 3, none⟩ (.int .u8 255) = wz at *
      clear hwz c0 c1 c2 c3 f0 f1 f2 f3 k3 l3_ fk fl
      have Ka : Blk wz w.heap.size 60 #[.int .i64 q0, .int .i64 q1, .int .i64 q2, .int .i64 q3] := HKa.out
      have Kk : Blk wz (w.heap.size + 1) 54 #[.int .u8 k0, .int .u8 k1, .int .u8 k2, .int .u8 255] := HKk.out
      have Kl : Blk wz (w.heap.size + 1 + 1) 54 #[.int .u8 l0, .int .u8 l1, .int .u8 l2, .int .u8 255] := HKl.out
      have hbw := HBW.out
      clear HKa HKk HKl HBW
      have lKa := Ka.lt
      have cKa0 := Ka.cell 0
      have cKa1 := Ka.cell 1
      have cKa2 := Ka.cell 2
      have cKa3 := Ka.cell 3
      have lKk := Kk.lt
      have cKk0 := Kk.cell 0
      have cKk1 := Kk.cell 1
      have cKk2 := Kk.cell 2
      have cKk3 := Kk.cell 3
      have lKl := Kl.lt
      have cKl0 := Kl.cell 0
      have cKl1 := Kl.cell 1
      have cKl2 := Kl.cell 2
      have cKl3 := Kl.cell 3
      simp only [List.getElem?_toArray, List.getElem?_cons_succ, List.getElem?_cons_zero] at cKa0 cKa1 cKa2 cKa3 cKk0 cKk1 cKk2 cKk3 cKl0 cKl1 cKl2 cKl3
      have hst0 : Below wz.heap.size wz wz := by (repeat' (first | exact Below.refl _ _ | exact Below.refl _ _ | refine balloc ?_ _ | refine Below.drew ?_ | refine below_drewN ?_ _ | refine bset ?_ (by first | omega | (simp <;> omega)) _))
      refine (HNW.out _).mono ?_
      rintro e_ w2 ⟨b1, o1, f1, rfl, hN, hb⟩
      have hst : Below wz.heap.size wz w2 := btrans hst0 hb
      replace Ka := Ka.below hb Ka.lt
      replace Kk := Kk.below hb Kk.lt
      replace Kl := Kl.below hb Kl.lt
      replace hbw : Below w.heap.size w w2 := btrans hbw hst
      clear hst hst0 hb lKa cKa0 cKa1 cKa2 cKa3 lKk cKk0 cKk1 cKk2 cKk3 lKl cKl0 cKl1 cKl2 cKl3
      have HhN := Lib.hid hN
      clear hN
      have lKa := Ka.lt
      have cKa0 := Ka.cell 0
      have cKa1 := Ka.cell 1
      have cKa2 := Ka.cell 2
      have cKa3 := Ka.cell 3
      have lKk := Kk.lt
      have cKk0 := Kk.cell 0
      have cKk1 := Kk.cell 1
      have cKk2 := Kk.cell 2
      have cKk3 := Kk.cell 3
      have lKl := Kl.lt
      have cKl0 := Kl.cell 0
      have cKl1 := Kl.cell 1
      have cKl2 := Kl.cell 2
      have cKl3 := Kl.cell 3
      simp only [List.getElem?_toArray, List.getElem?_cons_succ, List.getElem?_cons_zero] at cKa0 cKa1 cKa2 cKa3 cKk0 cKk1 cKk2 cKk3 cKl0 cKl1 cKl2 cKl3
      go_wp2_with fail
      have hst0 : Below w2.heap.size w2 (w2.alloc (.cells #[.int .i64 40, .int .i64 40, .slice (some ⟨b1, o1, none⟩) N f1] 24)) := by (repeat' (first | exact Below.refl _ _ | exact Below.refl _ _ | refine balloc ?_ _ | refine Below.drew ?_ | refine below_drewN ?_ _ | refine bset ?_ (by first | omega | (simp <;> omega)) _))
      refine (HAL.out _).mono ?_
      rintro e_ w3 ⟨gA, hgA, rfl, qA, hb⟩
      clear hgA
      have hst : Below w2.heap.size w2 w3 := btrans hst0 hb
      replace Ka := (Ka.alloc (.cells #[.int .i64 40, .int .i64 40, .slice (some ⟨b1, o1, none⟩) N f1] 24))
      replace Kk := (Kk.alloc (.cells #[.int .i64 40, .int .i64 40, .slice (some ⟨b1, o1, none⟩) N f1] 24))
      replace Kl := (Kl.alloc (.cells #[.int .i64 40, .int .i64 40, .slice (some ⟨b1, o1, none⟩) N f1] 24))
      have Kn := (Blk.new w2 24 #[.int .i64 40, .int .i64 40, .slice (some ⟨b1, o1, none⟩) N f1])
      replace Ka := Ka.below hb Ka.lt
      replace Kk := Kk.below hb Kk.lt
      replace Kl := Kl.below hb Kl.lt
      replace Kn := Kn.below hb Kn.lt
      replace hbw : Below w.heap.size w w3 := btrans hbw hst
      replace HhN := Lib.hid (HhN.out.below hst)
      clear hst hst0 hb lKa cKa0 cKa1 cKa2 cKa3 lKk cKk0 cKk1 cKk2 cKk3 lKl cKl0 cKl1 cKl2 cKl3
      have HqA := Lib.hid qA
      clear qA
      have lKa := Ka.lt
      have cKa0 := Ka.cell 0
      have cKa1 := Ka.cell 1
      have cKa2 := Ka.cell 2
      have cKa3 := Ka.cell 3
      have lKk := Kk.lt
      have cKk0 := Kk.cell 0
      have cKk1 := Kk.cell 1
      have cKk2 := Kk.cell 2
      have cKk3 := Kk.cell 3
      have lKl := Kl.lt
      have cKl0 := Kl.cell 0
      have cKl1 := Kl.cell 1
      have cKl2 := Kl.cell 2
      have cKl3 := Kl.cell 3
      have lKn := Kn.lt
      have cKn0 := Kn.cell 0
      have cKn1 := Kn.cell 1
      have cKn2 := Kn.cell 2
      simp only [List.getElem?_toArray, List.getElem?_cons_succ, List.getElem?_cons_zero] at cKa0 cKa1 cKa2 cKa3 cKk0 cKk1 cKk2 cKk3 cKl0 cKl1 cKl2 cKl3 cKn0 cKn1 cKn2
      go_wp2_with fail
      have hst0 : Below w3.heap.size w3 (w3.alloc (.cells #[.int .i64 40, .int .i64 40, .slice (some ⟨gA, 0, none⟩) 40 40] 49)) := by (repeat' (first | exact Below.refl _ _ | exact Below.refl _ _ | refine balloc ?_ _ | refine Below.drew ?_ | refine below_drewN ?_ _ | refine bset ?_ (by first | omega | (simp <;> omega)) _))
      refine (HRC.out _).mono ?_
      rintro e_ w4 ⟨gR, hgR, rfl, qR, hb⟩
      clear hgR
      have hst : Below w3.heap.size w3 w4 := btrans hst0 hb
      replace Ka := (Ka.alloc (.cells #[.int .i64 40, .int .i64 40, .slice (some ⟨gA, 0, none⟩) 40 40] 49))
      replace Kk := (Kk.alloc (.cells #[.int .i64 40, .int .i64 40, .slice (some ⟨gA, 0, none⟩) 40 40] 49))
      replace Kl := (Kl.alloc (.cells #[.int .i64 40, .int .i64 40, .slice (some ⟨gA, 0, none⟩) 40 40] 49))
      replace Kn := (Kn.alloc (.cells #[.int .i64 40, .int .i64 40, .slice (some ⟨gA, 0, none⟩) 40 40] 49))
      have KA := (Blk.new w3 49 #[.int .i64 40, .int .i64 40, .slice (some ⟨gA, 0, none⟩) 40 40])
      replace Ka := Ka.below hb Ka.lt
      replace Kk := Kk.below hb Kk.lt
      replace Kl := Kl.below hb Kl.lt
      replace Kn := Kn.below hb Kn.lt
      replace KA := KA.below hb KA.lt
      replace hbw : Below w.heap.size w w4 := btrans hbw hst
      replace HhN := Lib.hid (HhN.out.below hst)
      replace HqA := Lib.hid (HqA.out.below hst)
      clear hst hst0 hb lKa cKa0 cKa1 cKa2 cKa3 lKk cKk0 cKk1 cKk2 cKk3 lKl cKl0 cKl1 cKl2 cKl3 lKn cKn0 cKn1 cKn2
      have HqR := Lib.hid qR
      clear qR
      have lKa := Ka.lt
      have cKa0 := Ka.cell 0
      have cKa1 := Ka.cell 1
      have cKa2 := Ka.cell 2
      have cKa3 := Ka.cell 3
      have lKk := Kk.lt
      have cKk0 := Kk.cell 0
      have cKk1 := Kk.cell 1
      have cKk2 := Kk.cell 2
      have cKk3 := Kk.cell 3
      have lKl := Kl.lt
      have cKl0 := Kl.cell 0
      have cKl1 := Kl.cell 1
      have cKl2 := Kl.cell 2
      have cKl3 := Kl.cell 3
      have lKn := Kn.lt
      have cKn0 := Kn.cell 0
      have cKn1 := Kn.cell 1
      have cKn2 := Kn.cell 2
      have lKA := KA.lt
      have cKA0 := KA.cell 0
      have cKA1 := KA.cell 1
      have cKA2 := KA.cell 2
      simp only [List.getElem?_toArray, List.getElem?_cons_succ, List.getElem?_cons_zero] at cKa0 cKa1 cKa2 cKa3 cKk0 cKk1 cKk2 cKk3 cKl0 cKl1 cKl2 cKl3 cKn0 cKn1 cKn2 cKA0 cKA1 cKA2
      go_wp2_with fail
      have hst0 : Below w4.heap.size w4 (w4.alloc (.cells #[.int .i64 40, .int .i64 40, .slice (some ⟨gR, 0, none⟩) 40 40] 49)) := by (repeat' (first | exact Below.refl _ _ | exact Below.refl _ _ | refine balloc ?_ _ | refine Below.drew ?_ | refine below_drewN ?_ _ | refine bset ?_ (by first | omega | (simp <;> omega)) _))
      refine (HPK.out _ _ _ _ _ _ _ (HhN.out.below hst0) (HqA.out.below hst0)).mono ?_
      rintro e_ w5 ⟨gd, fd, hgd, rfl, qd, hb⟩
      clear hgd
      have hst : Below w4.heap.size w4 w5 := btrans hst0 hb
      replace Ka := (Ka.alloc (.cells #[.int .i64 40, .int .i64 40, .slice (some ⟨gR, 0, none⟩) 40 40] 49))
      replace Kk := (Kk.alloc (.cells #[.int .i64 40, .int .i64 40, .slice (some ⟨gR, 0, none⟩) 40 40] 49))
      replace Kl := (Kl.alloc (.cells #[.int .i64 40, .int .i64 40, .slice (some ⟨gR, 0, none⟩) 40 40] 49))
      replace Kn := (Kn.alloc (.cells #[.int .i64 40, .int .i64 40, .slice (some ⟨gR, 0, none⟩) 40 40] 49))
      replace KA := (KA.alloc (.cells #[.int .i64 40, .int .i64 40, .slice (some ⟨gR, 0, none⟩) 40 40] 49))
      have KR := (Blk.new w4 49 #[.int .i64 40, .int .i64 40, .slice (some ⟨gR, 0, none⟩) 40 40])
      replace Ka := Ka.below hb Ka.lt
      replace Kk := Kk.below hb Kk.lt
      replace Kl := Kl.below hb Kl.lt
      replace Kn := Kn.below hb Kn.lt
      replace KA := KA.below hb KA.lt
      replace KR := KR.below hb KR.lt
      replace hbw : Below w.heap.size w w5 := btrans hbw hst
      replace HhN := Lib.hid (HhN.out.below hst)
      replace HqA := Lib.hid (HqA.out.below hst)
      replace HqR := Lib.hid (HqR.out.below hst)
      clear hst hst0 hb lKa cKa0 cKa1 cKa2 cKa3 lKk cKk0 cKk1 cKk2 cKk3 lKl cKl0 cKl1 cKl2 cKl3 lKn cKn0 cKn1 cKn2 lKA cKA0 cKA1 cKA2
      have Hqd := Lib.hid qd
      clear qd
      have lKa := Ka.lt
      have cKa0 := Ka.cell 0
      have cKa1 := Ka.cell 1
      have cKa2 := Ka.cell 2
      have cKa3 := Ka.cell 3
      have lKk := Kk.lt
      have cKk0 := Kk.cell 0
      have cKk1 := Kk.cell 1
      have cKk2 := Kk.cell 2
      have cKk3 := Kk.cell 3
      have lKl := Kl.lt
      have cKl0 := Kl.cell 0
      have cKl1 := Kl.cell 1
      have cKl2 := Kl.cell 2
      have cKl3 := Kl.cell 3
      have lKn := Kn.lt
      have cKn0 := Kn.cell 0
      have cKn1 := Kn.cell 1
      have cKn2 := Kn.cell 2
      have lKA := KA.lt
      have cKA0 := KA.cell 0
      have cKA1 := KA.cell 1
      have cKA2 := KA.cell 2
      have lKR := KR.lt
      have cKR0 := KR.cell 0
      have cKR1 := KR.cell 1
      have cKR2 := KR.cell 2
      simp only [List.getElem?_toArray, List.getElem?_cons_succ, List.getElem?_cons_zero] at cKa0 cKa1 cKa2 cKa3 cKk0 cKk1 cKk2 cKk3 cKl0 cKl1 cKl2 cKl3 cKn0 cKn1 cKn2 cKA0 cKA1 cKA2 cKR0 cKR1 cKR2
      go_wp2_with fail
      have hst0 : Below w5.heap.size w5 (w5.alloc (.cells #[.int .i64 40, .int .i64 40, .slice (some ⟨gd, 0, none⟩) N fd] 24)) := by (repeat' (first | exact Below.refl _ _ | exact Below.refl _ _ | refine balloc ?_ _ | refine Below.drew ?_ | refine below_drewN ?_ _ | refine bset ?_ (by first | omega | (simp <;> omega)) _))
      refine (HPL.out _ _ _ _ _ _ _ (Hqd.out.below hst0) (HqR.out.below hst0)).mono ?_
      rintro e_ w6 ⟨ge, fe, hge, rfl, qe, hb⟩
      clear hge
      have he := lf.Pg.lb qe
      have hlen := HBL.out _ (fun k _ => HBP.out k)
      generalize hl : listB N (putB 40 (rectSet q0 q1 q2 q3) l0 l1 l2 255 (putB 40 (fun _ _ => true) k0 k1 k2 255 (fun _ => 255))) = l at he hlen
      have HLL := Lib.hid (show l.length = N from he.len)
      clear qe hl
      have hst : Below w5.heap.size w5 w6 := btrans hst0 hb
      replace Ka := (Ka.alloc (.cells #[.int .i64 40, .int .i64 40, .slice (some ⟨gd, 0, none⟩) N fd] 24))
      replace Kk := (Kk.alloc (.cells #[.int .i64 40, .int .i64 40, .slice (some ⟨gd, 0, none⟩) N fd] 24))
      replace Kl := (Kl.alloc (.cells #[.int .i64 40, .int .i64 40, .slice (some ⟨gd, 0, none⟩) N fd] 24))
      replace Kn := (Kn.alloc (.cells #[.int .i64 40, .int .i64 40, .slice (some ⟨gd, 0, none⟩) N fd] 24))
      replace KA := (KA.alloc (.cells #[.int .i64 40, .int .i64 40, .slice (some ⟨gd, 0, none⟩) N fd] 24))
      replace KR := (KR.alloc (.cells #[.int .i64 40, .int .i64 40, .slice (some ⟨gd, 0, none⟩) N fd] 24))
      have Kd := (Blk.new w5 24 #[.int .i64 40, .int .i64 40, .slice (some ⟨gd, 0, none⟩) N fd])
      replace Ka := Ka.below hb Ka.lt
      replace Kk := Kk.below hb Kk.lt
      replace Kl := Kl.below hb Kl.lt
      replace Kn := Kn.below hb Kn.lt
      replace KA := KA.below hb KA.lt
      replace KR := KR.below hb KR.lt
      replace Kd := Kd.below hb Kd.lt
      replace hbw : Below w.heap.size w w6 := btrans hbw hst
      replace HhN := Lib.hid (HhN.out.below hst)
      replace HqA := Lib.hid (HqA.out.below hst)
      replace HqR := Lib.hid (HqR.out.below hst)
      replace Hqd := Lib.hid (Hqd.out.below hst)
      clear hst hst0 hb lKa cKa0 cKa1 cKa2 cKa3 lKk cKk0 cKk1 cKk2 cKk3 lKl cKl0 cKl1 cKl2 cKl3 lKn cKn0 cKn1 cKn2 lKA cKA0 cKA1 cKA2 lKR cKR0 cKR1 cKR2
      have Hhe := Lib.hid he
      clear he
      have lKa := Ka.lt
      have cKa0 := Ka.cell 0
      have cKa1 := Ka.cell 1
      have cKa2 := Ka.cell 2
      have cKa3 := Ka.cell 3
      have lKk := Kk.lt
      have cKk0 := Kk.cell 0
      have cKk1 := Kk.cell 1
      have cKk2 := Kk.cell 2
      have cKk3 := Kk.cell 3
      have lKl := Kl.lt
      have cKl0 := Kl.cell 0
      have cKl1 := Kl.cell 1
      have cKl2 := Kl.cell 2
      have cKl3 := Kl.cell 3
      have lKn := Kn.lt
      have cKn0 := Kn.cell 0
      have cKn1 := Kn.cell 1
      have cKn2 := Kn.cell 2
      have lKA := KA.lt
      have cKA0 := KA.cell 0
      have cKA1 := KA.cell 1
      have cKA2 := KA.cell 2
      have lKR := KR.lt
      have cKR0 := KR.cell 0
      have cKR1 := KR.cell 1
      have cKR2 := KR.cell 2
      have lKd := Kd.lt
      have cKd0 := Kd.cell 0
      have cKd1 := Kd.cell 1
      have cKd2 := Kd.cell 2
      simp only [List.getElem?_toArray, List.getElem?_cons_succ, List.getElem?_cons_zero] at cKa0 cKa1 cKa2 cKa3 cKk0 cKk1 cKk2 cKk3 cKl0 cKl1 cKl2 cKl3 cKn0 cKn1 cKn2 cKA0 cKA1 cKA2 cKR0 cKR1 cKR2 cKd0 cKd1 cKd2
      go_wp2_with fail
      have hst0 : Below w6.heap.size w6 (w6.alloc (.cells #[.int .i64 40, .int .i64 40, .slice (some ⟨ge, 0, none⟩) N fe] 24)) := by (repeat' (first | exact Below.refl _ _ | exact Below.refl _ _ | refine balloc ?_ _ | refine Below.drew ?_ | refine below_drewN ?_ _ | refine bset ?_ (by first | omega | (simp <;> omega)) _))
      refine (HPS.out _ _ _ _ (Hhe.out.below hst0)).mono ?_
      rintro e_ w7 ⟨Dc, mc, dc, rfl, hC, hmc, hb⟩
      replace hlen : mc ≤ 564 := by rw [← hC.len]; exact hlen
      have hst : Below w6.heap.size w6 w7 := btrans hst0 hb
      replace Ka := (Ka.alloc (.cells #[.int .i64 40, .int .i64 40, .slice (some ⟨ge, 0, none⟩) N fe] 24))
      replace Kk := (Kk.alloc (.cells #[.int .i64 40, .int .i64 40, .slice (some ⟨ge, 0, none⟩) N fe] 24))
      replace Kl := (Kl.alloc (.cells #[.int .i64 40, .int .i64 40, .slice (some ⟨ge, 0, none⟩) N fe] 24))
      replace Kn := (Kn.alloc (.cells #[.int .i64 40, .int .i64 40, .slice (some ⟨ge, 0, none⟩) N fe] 24))
      replace KA := (KA.alloc (.cells #[.int .i64 40, .int .i64 40, .slice (some ⟨ge, 0, none⟩) N fe] 24))
      replace KR := (KR.alloc (.cells #[.int .i64 40, .int .i64 40, .slice (some ⟨ge, 0, none⟩) N fe] 24))
      replace Kd := (Kd.alloc (.cells #[.int .i64 40, .int .i64 40, .slice (some ⟨ge, 0, none⟩) N fe] 24))
      have Ke := (Blk.new w6 24 #[.int .i64 40, .int .i64 40, .slice (some ⟨ge, 0, none⟩) N fe])
      replace Ka := Ka.below hb Ka.lt
      replace Kk := Kk.below hb Kk.lt
      replace Kl := Kl.below hb Kl.lt
      replace Kn := Kn.below hb Kn.lt
      replace KA := KA.below hb KA.lt
      replace KR := KR.below hb KR.lt
      replace Kd := Kd.below hb Kd.lt
      replace Ke := Ke.below hb Ke.lt
      replace hbw : Below w.heap.size w w7 := btrans hbw hst
      replace HhN := Lib.hid (HhN.out.below hst)
      replace HqA := Lib.hid (HqA.out.below hst)
      replace HqR := Lib.hid (HqR.out.below hst)
      replace Hqd := Lib.hid (Hqd.out.below hst)
      replace Hhe := Lib.hid (Hhe.out.below hst)
      clear hst hst0 hb lKa cKa0 cKa1 cKa2 cKa3 lKk cKk0 cKk1 cKk2 cKk3 lKl cKl0 cKl1 cKl2 cKl3 lKn cKn0 cKn1 cKn2 lKA cKA0 cKA1 cKA2 lKR cKR0 cKR1 cKR2 lKd cKd0 cKd1 cKd2
      have HhC := Lib.hid hC
      clear hC
      have lKa := Ka.lt
      have cKa0 := Ka.cell 0
      have cKa1 := Ka.cell 1
      have cKa2 := Ka.cell 2
      have cKa3 := Ka.cell 3
      have lKk := Kk.lt
      have cKk0 := Kk.cell 0
      have cKk1 := Kk.cell 1
      have cKk2 := Kk.cell 2
      have cKk3 := Kk.cell 3
      have lKl := Kl.lt
      have cKl0 := Kl.cell 0
      have cKl1 := Kl.cell 1
      have cKl2 := Kl.cell 2
      have cKl3 := Kl.cell 3
      have lKn := Kn.lt
      have cKn0 := Kn.cell 0
      have cKn1 := Kn.cell 1
      have cKn2 := Kn.cell 2
      have lKA := KA.lt
      have cKA0 := KA.cell 0
      have cKA1 := KA.cell 1
      have cKA2 := KA.cell 2
      have lKR := KR.lt
      have cKR0 := KR.cell 0
      have cKR1 := KR.cell 1
      have cKR2 := KR.cell 2
      have lKd := Kd.lt
      have cKd0 := Kd.cell 0
      have cKd1 := Kd.cell 1
      have cKd2 := Kd.cell 2
      have lKe := Ke.lt
      have cKe0 := Ke.cell 0
      have cKe1 := Ke.cell 1
      have cKe2 := Ke.cell 2
      simp only [List.getElem?_toArray, List.getElem?_cons_succ, List.getElem?_cons_zero] at cKa0 cKa1 cKa2 cKa3 cKk0 cKk1 cKk2 cKk3 cKl0 cKl1 cKl2 cKl3 cKn0 cKn1 cKn2 cKA0 cKA1 cKA2 cKR0 cKR1 cKR2 cKd0 cKd1 cKd2 cKe0 cKe1 cKe2
      obtain ⟨hmc0, hmc1⟩ := hmc
      go_wp2_with (at_builtin; refine Held.of ?_)
      unfold Held
      have hst0 : Below w7.heap.size w7 w7 := by (repeat' (first | exact Below.refl _ _ | exact Below.refl _ _ | refine balloc ?_ _ | refine Below.drew ?_ | refine below_drewN ?_ _ | refine bset ?_ (by first | omega | (simp <;> omega)) _))
      have hLn := LB.len ((HhC.out.below hst0) : LB _ _ mc _ _)
      refine wpList_copy (.tmp 77) (.tmp 78) _ _ _ _ rfl rfl (by first | rfl | (rw [size_alloc]; rfl) | (rw [size_alloc, size_alloc]; rfl)) rfl ((HhC.out.below hst0)).1 (by omega) ?_
      intro vcz w8 hO hb
      have hst : Below w7.heap.size w7 w8 := btrans hst0 hb
      replace Ka := Ka.below hb Ka.lt
      replace Kk := Kk.below hb Kk.lt
      replace Kl := Kl.below hb Kl.lt
      replace Kn := Kn.below hb Kn.lt
      replace KA := KA.below hb KA.lt
      replace KR := KR.below hb KR.lt
      replace Kd := Kd.below hb Kd.lt
      replace Ke := Ke.below hb Ke.lt
      replace hbw : Below w.heap.size w w8 := btrans hbw hst
      replace HhN := Lib.hid (HhN.out.below hst)
      replace HqA := Lib.hid (HqA.out.below hst)
      replace HqR := Lib.hid (HqR.out.below hst)
      replace Hqd := Lib.hid (Hqd.out.below hst)
      replace Hhe := Lib.hid (Hhe.out.below hst)
      replace HhC := Lib.hid (HhC.out.below hst)
      clear hst hst0 hb lKa cKa0 cKa1 cKa2 cKa3 lKk cKk0 cKk1 cKk2 cKk3 lKl cKl0 cKl1 cKl2 cKl3 lKn cKn0 cKn1 cKn2 lKA cKA0 cKA1 cKA2 lKR cKR0 cKR1 cKR2 lKd cKd0 cKd1 cKd2 lKe cKe0 cKe1 cKe2
      obtain ⟨Acz, ccz, rfl, hcz⟩ := hO.lbn hLn
      clear hO hLn
      have Hhcz := Lib.hid hcz
      clear hcz
      have lKa := Ka.lt
      have cKa0 := Ka.cell 0
      have cKa1 := Ka.cell 1
      have cKa2 := Ka.cell 2
      have cKa3 := Ka.cell 3
      have lKk := Kk.lt
      have cKk0 := Kk.cell 0
      have cKk1 := Kk.cell 1
      have cKk2 := Kk.cell 2
      have cKk3 := Kk.cell 3
      have lKl := Kl.lt
      have cKl0 := Kl.cell 0
      have cKl1 := Kl.cell 1
      have cKl2 := Kl.cell 2
      have cKl3 := Kl.cell 3
      have lKn := Kn.lt
      have cKn0 := Kn.cell 0
      have cKn1 := Kn.cell 1
      have cKn2 := Kn.cell 2
      have lKA := KA.lt
      have cKA0 := KA.cell 0
      have cKA1 := KA.cell 1
      have cKA2 := KA.cell 2
      have lKR := KR.lt
      have cKR0 := KR.cell 0
      have cKR1 := KR.cell 1
      have cKR2 := KR.cell 2
      have lKd := Kd.lt
      have cKd0 := Kd.cell 0
      have cKd1 := Kd.cell 1
      have cKd2 := Kd.cell 2
      have lKe := Ke.lt
      have cKe0 := Ke.cell 0
      have cKe1 := Ke.cell 1
      have cKe2 := Ke.cell 2
      simp only [List.getElem?_toArray, List.getElem?_cons_succ, List.getElem?_cons_zero] at cKa0 cKa1 cKa2 cKa3 cKk0 cKk1 cKk2 cKk3 cKl0 cKl1 cKl2 cKl3 cKn0 cKn1 cKn2 cKA0 cKA1 cKA2 cKR0 cKR1 cKR2 cKd0 cKd1 cKd2 cKe0 cKe1 cKe2
      go_wp2_with fail
      have hst0 : Below w8.heap.size w8 w8 := by (repeat' (first | exact Below.refl _ _ | exact Below.refl _ _ | refine balloc ?_ _ | refine Below.drew ?_ | refine below_drewN ?_ _ | refine bset ?_ (by first | omega | (simp <;> omega)) _))
      refine (HTK.out _ _ _ _ _ hmc1 HLL.out (Hhcz.out.below hst0)).mono ?_
      rintro e_ w9 ⟨Dt, ft, rfl, hT, hb⟩
      have hst : Below w8.heap.size w8 w9 := btrans hst0 hb
      replace Ka := Ka.below hb Ka.lt
      replace Kk := Kk.below hb Kk.lt
      replace Kl := Kl.below hb Kl.lt
      replace Kn := Kn.below hb Kn.lt
      replace KA := KA.below hb KA.lt
      replace KR := KR.below hb KR.lt
      replace Kd := Kd.below hb Kd.lt
      replace Ke := Ke.below hb Ke.lt
      replace hbw : Below w.heap.size w w9 := btrans hbw hst
      replace HhN := Lib.hid (HhN.out.below hst)
      replace HqA := Lib.hid (HqA.out.below hst)
      replace HqR := Lib.hid (HqR.out.below hst)
      replace Hqd := Lib.hid (Hqd.out.below hst)
      replace Hhe := Lib.hid (Hhe.out.below hst)
      replace HhC := Lib.hid (HhC.out.below hst)
      replace Hhcz := Lib.hid (Hhcz.out.below hst)
      clear hst hst0 hb lKa cKa0 cKa1 cKa2 cKa3 lKk cKk0 cKk1 cKk2 cKk3 lKl cKl0 cKl1 cKl2 cKl3 lKn cKn0 cKn1 cKn2 lKA cKA0 cKA1 cKA2 lKR cKR0 cKR1 cKR2 lKd cKd0 cKd1 cKd2 lKe cKe0 cKe1 cKe2
      have HhT := Lib.hid hT
      clear hT
      have lKa := Ka.lt
      have cKa0 := Ka.cell 0
      have cKa1 := Ka.cell 1
      have cKa2 := Ka.cell 2
      have cKa3 := Ka.cell 3
      have lKk := Kk.lt
      have cKk0 := Kk.cell 0
      have cKk1 := Kk.cell 1
      have cKk2 := Kk.cell 2
      have cKk3 := Kk.cell 3
      have lKl := Kl.lt
      have cKl0 := Kl.cell 0
      have cKl1 := Kl.cell 1
      have cKl2 := Kl.cell 2
      have cKl3 := Kl.cell 3
      have lKn := Kn.lt
      have cKn0 := Kn.cell 0
      have cKn1 := Kn.cell 1
      have cKn2 := Kn.cell 2
      have lKA := KA.lt
      have cKA0 := KA.cell 0
      have cKA1 := KA.cell 1
      have cKA2 := KA.cell 2
      have lKR := KR.lt
      have cKR0 := KR.cell 0
      have cKR1 := KR.cell 1
      have cKR2 := KR.cell 2
      have lKd := Kd.lt
      have cKd0 := Kd.cell 0
      have cKd1 := Kd.cell 1
      have cKd2 := Kd.cell 2
      have lKe := Ke.lt
      have cKe0 := Ke.cell 0
      have cKe1 := Ke.cell 1
      have cKe2 := Ke.cell 2
      simp only [List.getElem?_toArray, List.getElem?_cons_succ, List.getElem?_cons_zero] at cKa0 cKa1 cKa2 cKa3 cKk0 cKk1 cKk2 cKk3 cKl0 cKl1 cKl2 cKl3 cKn0 cKn1 cKn2 cKA0 cKA1 cKA2 cKR0 cKR1 cKR2 cKd0 cKd1 cKd2 cKe0 cKe1 cKe2
      have e5 : decide ((mc : Int) ≤ 564) = true := by simp; omega
      go_wp2_with fail
      have hst0 : Below w9.heap.size w9 (w9.alloc (.cells #[.int .i64 40, .int .i64 40, .slice Dt N ft] 24)) := by (repeat' (first | exact Below.refl _ _ | exact Below.refl _ _ | refine balloc ?_ _ | refine Below.drew ?_ | refine below_drewN ?_ _ | refine bset ?_ (by first | omega | (simp <;> omega)) _))
      refine (lsame_eq _ _ _ _ _ _ _ _ _ _ _ (HhT.out.below hst0) (Hhe.out.below hst0)).mono ?_
      rintro e_ w10 ⟨rfl, hb⟩
      have hst : Below w9.heap.size w9 w10 := btrans hst0 hb
      replace Ka := (Ka.alloc (.cells #[.int .i64 40, .int .i64 40, .slice Dt N ft] 24))
      replace Kk := (Kk.alloc (.cells #[.int .i64 40, .int .i64 40, .slice Dt N ft] 24))
      replace Kl := (Kl.alloc (.cells #[.int .i64 40, .int .i64 40, .slice Dt N ft] 24))
      replace Kn := (Kn.alloc (.cells #[.int .i64 40, .int .i64 40, .slice Dt N ft] 24))
      replace KA := (KA.alloc (.cells #[.int .i64 40, .int .i64 40, .slice Dt N ft] 24))
      replace KR := (KR.alloc (.cells #[.int .i64 40, .int .i64 40, .slice Dt N ft] 24))
      replace Kd := (Kd.alloc (.cells #[.int .i64 40, .int .i64 40, .slice Dt N ft] 24))
      replace Ke := (Ke.alloc (.cells #[.int .i64 40, .int .i64 40, .slice Dt N ft] 24))
      have Kt := (Blk.new w9 24 #[.int .i64 40, .int .i64 40, .slice Dt N ft])
      replace Ka := Ka.below hb Ka.lt
      replace Kk := Kk.below hb Kk.lt
      replace Kl := Kl.below hb Kl.lt
      replace Kn := Kn.below hb Kn.lt
      replace KA := KA.below hb KA.lt
      replace KR := KR.below hb KR.lt
      replace Kd := Kd.below hb Kd.lt
      replace Ke := Ke.below hb Ke.lt
      replace Kt := Kt.below hb Kt.lt
      replace hbw : Below w.heap.size w w10 := btrans hbw hst
      replace HhN := Lib.hid (HhN.out.below hst)
      replace HqA := Lib.hid (HqA.out.below hst)
      replace HqR := Lib.hid (HqR.out.below hst)
      replace Hqd := Lib.hid (Hqd.out.below hst)
      replace Hhe := Lib.hid (Hhe.out.below hst)
      replace HhC := Lib.hid (HhC.out.below hst)
      replace Hhcz := Lib.hid (Hhcz.out.below hst)
      replace HhT := Lib.hid (HhT.out.below hst)
      clear hst hst0 hb lKa cKa0 cKa1 cKa2 cKa3 lKk cKk0 cKk1 cKk2 cKk3 lKl cKl0 cKl1 cKl2 cKl3 lKn cKn0 cKn1 cKn2 lKA cKA0 cKA1 cKA2 lKR cKR0 cKR1 cKR2 lKd cKd0 cKd1 cKd2 lKe cKe0 cKe1 cKe2
      have lKa := Ka.lt
      have cKa0 := Ka.cell 0
      have cKa1 := Ka.cell 1
      have cKa2 := Ka.cell 2
      have cKa3 := Ka.cell 3
      have lKk := Kk.lt
      have cKk0 := Kk.cell 0
      have cKk1 := Kk.cell 1
      have cKk2 := Kk.cell 2
      have cKk3 := Kk.cell 3
      have lKl := Kl.lt
      have cKl0 := Kl.cell 0
      have cKl1 := Kl.cell 1
      have cKl2 := Kl.cell 2
      have cKl3 := Kl.cell 3
      have lKn := Kn.lt
      have cKn0 := Kn.cell 0
      have cKn1 := Kn.cell 1
      have cKn2 := Kn.cell 2
      have lKA := KA.lt
      have cKA0 := KA.cell 0
      have cKA1 := KA.cell 1
      have cKA2 := KA.cell 2
      have lKR := KR.lt
      have cKR0 := KR.cell 0
      have cKR1 := KR.cell 1
      have cKR2 := KR.cell 2
      have lKd := Kd.lt
      have cKd0 := Kd.cell 0
      have cKd1 := Kd.cell 1
      have cKd2 := Kd.cell 2
      have lKe := Ke.lt
      have cKe0 := Ke.cell 0
      have cKe1 := Ke.cell 1
      have cKe2 := Ke.cell 2
      have lKt := Kt.lt
      have cKt0 := Kt.cell 0
      have cKt1 := Kt.cell 1
      have cKt2 := Kt.cell 2
      simp only [List.getElem?_toArray, List.getElem?_cons_succ, List.getElem?_cons_zero] at cKa0 cKa1 cKa2 cKa3 cKk0 cKk1 cKk2 cKk3 cKl0 cKl1 cKl2 cKl3 cKn0 cKn1 cKn2 cKA0 cKA1 cKA2 cKR0 cKR1 cKR2 cKd0 cKd1 cKd2 cKe0 cKe1 cKe2 cKt0 cKt1 cKt2
      simp only [decide_true]
      go_wp2_with fail
      go_ret
      exact ⟨by first | rfl | (simp; done), by (repeat' (first | exact hbw | exact Below.refl _ _ | refine balloc ?_ _ | refine Below.drew ?_ | refine below_drewN ?_ _ | refine bset ?_ (by first | omega | (simp <;> omega)) _))⟩
end Go.Proofs.Ytfmkdccpgkbnoaa.lf
