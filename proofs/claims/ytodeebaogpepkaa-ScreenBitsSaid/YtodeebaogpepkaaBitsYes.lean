/-
  Bits of a page that May takes. 
-/
import Derived.Test.YtodeebaogpepkaaBitsRel
import Derived.Test.YtodeebaogpepkaaUp
import Derived.BigQuiet
namespace Go.Proofs.Ytodeebaogpepkaa.sc
set_option linter.unusedVariables false
set_option linter.unusedSimpArgs false
open Go.RowKit bs

set_option maxRecDepth 100000 in
set_option maxHeartbeats 1600000 in
theorem bits_yes (V G : Nat) (A : Option Addr) (n c q : Nat) (bs : List UInt8) (w : World) (hn : n ≤ 9223372036854775807) (hV : 1 ≤ V ∧ V ≤ 64) (hG : 1 ≤ G ∧ G ≤ 64) (hq : V * G = q) (h : ik.mayB V G n = true) (hr : Bytes w A n c bs) (hlo : ∀ a, A = some a → a.block < w.heap.size) :
    Calls Try.prog 16 #[.agg #[.int .i64 (V : Int), .int .i64 (G : Int), .slice A n c]] w fun e w' => ∃ B, e = .returned (.tuple #[.agg #[.int .i64 (V : Int), .int .i64 (G : Int), .slice (some ⟨B, 0, none⟩) q q], .int .i64 0]) ∧ Bytes w' (some ⟨B, 0, none⟩) q q (bitsL V bs q) ∧ Below w.heap.size w w' := by
  have hn3 : n = 3 * q := by
    have h' := h
    simp only [ik.mayB, Bool.and_eq_true, beq_iff_eq] at h'
    rw [Int.mul_assoc] at h'
    have : (V : Int) * (G : Int) = (q : Int) := by rw [← hq]; push_cast; rfl
    rw [this] at h'
    omega
  have HN3 := Lib.hid hn3
  have HLO := Lib.hid hlo
  have HR := Lib.hid hr
  clear hn3 hlo hr
  have hq1 : q ≤ 4096 := by rw [← hq]; exact Nat.mul_le_mul (show V ≤ 64 by omega) (show G ≤ 64 by omega)
  have hm : (V : Int) * (G : Int) = (q : Int) := by rw [← hq]; push_cast; rfl
  clear hq
  obtain ⟨i0, hi, hz0, hz1, hz2⟩ := info_parts (show (Try.prog.info? 5).map (fun i => (i.zero, i.size, i.bytes)) = some (some (.int .u8 0), 1, 1) by kernel_rfl)
  have hmk := fun W => run_make_rowN (P := Try.prog) 32 5 i0 (.int .u8 0) Try.underlying32 hi hz0 .i64 .i64 q q (Nat.le_refl _) (by rw [hz2]; omega) (by omega) W
  simp only [hz1, Nat.mul_one] at hmk
  have K := (Blk.new w 34 #[.int .i64 V, .int .i64 G, .slice A n c]).alloc (.cells #[.int .i64 0, .int .i64 0, .slice none 0 0] 36)
  have L := (Blk.new (w.alloc (.cells #[.int .i64 V, .int .i64 G, .slice A n c] 34)) 36 #[.int .i64 0, .int .i64 0, .slice none 0 0])
  have hs1 : (w.alloc (.cells #[.int .i64 V, .int .i64 G, .slice A n c] 34)).heap.size = w.heap.size + 1 := by simp
  rw [hs1] at L
  have hwq : IntKind.i64.wrap (q : Int) = (q : Int) := by
    simp only [IntKind.wrap, IntKind.signed, IntKind.bits]
    simp
    omega
  go_enter Try.func16, Try.ntmps16
  go_wp2_with fail
  refine (ik.may_any V G A n c _ (by omega)).mono ?_
  rw [h]
  rintro e w1 ⟨rfl, hb1⟩
  have hz : w.heap.size + 2 ≤ w1.heap.size := by have := hb1.size; simpa using this
  have hlt0 : w.heap.size < w1.heap.size := by omega
  have hlt1 : w.heap.size + 1 < w1.heap.size := by omega
  have hne0 : ¬ w.heap.size = w1.heap.size := by omega
  have K3 := K.below hb1 (by simp; omega)
  have L3 := L.below hb1 (by simp)
  have hbw : Below w.heap.size w w1 := btrans (by (repeat' (first | exact Below.refl _ _ | exact Below.refl _ _ | refine balloc ?_ _ | refine Below.drew ?_ | refine below_drewN ?_ _ | refine bset ?_ (by first | omega | (simp <;> omega)) _))) hb1
  have hr1 := HR.out.below hbw
  clear K L hs1
  obtain ⟨c0, c1, c2⟩ : w1.cell? ⟨w.heap.size, 0, none⟩ = some (.int .i64 V) ∧ w1.cell? ⟨w.heap.size, 1, none⟩ = some (.int .i64 G) ∧ w1.cell? ⟨w.heap.size, 2, none⟩ = some (.slice A n c) := ⟨by rw [K3.cell]; rfl, by rw [K3.cell]; rfl, by rw [K3.cell]; rfl⟩
  have hstart1 := BRel.start1 (f := bitOf V bs) (q := q) hz hbw hr1 K3 L3
  have hstart2 := BRel.start2 (f := bitOf V bs) (q := q) hz hbw hr1 K3 L3
  have HB1 := Lib.hid hstart1
  have HB2 := Lib.hid hstart2
  have HK3 := Lib.hid K3
  clear hstart1 hstart2 hr1 K3 L3
  go_upto_region 3 with fail
  go_cut [4] from 11 (fun s4 wx => ∃ g p : Nat, s4 = .pointer (some ⟨p, 0, none⟩) ∧ BRel w g p q 0 V G (bitOf V bs) A n c bs wx)
  case first =>
    go_region
    all_goals (go_wp2_with fail; go_meet)
    · exact ⟨_, _, rfl, HB1.out⟩
    · exact ⟨_, _, rfl, HB2.out⟩
  case rest =>
    obtain ⟨g, p, rfl, hB⟩ := hcut
    clear HB1 HB2 HK3 hmk hz hlt0 hlt1 hne0 hbw c0 c1 c2 hb1
    have hB' := hB
    obtain ⟨cs, h1, h2, h3, h4, h5, h6, h7, h8, h9, h10, h11, h12⟩ := hB'
    have m2 : wc.cell? ⟨p, 2, none⟩ = some (.slice (some ⟨g, 0, none⟩) q q) := by rw [h5.cell]; rfl
    clear h1 h2 h3 h4 h5 h6 h7 h8 h9 h12
    go_wp2_with fail
    go_loopw [25] (fun s wr => ∃ k : Nat, k ≤ q ∧ s = .int .i64 k ∧ BRel w g p q k V G (bitOf V bs) A n c bs wr) (fun s _ => q - (intOf s).toNat)
    case atStart => exact ⟨0, by omega, rfl, hB⟩
    case round =>
      obtain ⟨k, hk, rfl, hR⟩ := hrel
      by_cases hlt : k < q
      · have hR' := hR
        obtain ⟨b, o, rfl, hbl, hpx⟩ := hR.pix (by have := HN3.out; omega)
        obtain ⟨cs, h1, h2, h3, h4, h5, h6, h7, h8, h9, h10, h11, h12⟩ := hR'
        obtain ⟨c0, c1, c2⟩ : wr.cell? ⟨w.heap.size, 0, none⟩ = some (.int .i64 V) ∧ wr.cell? ⟨w.heap.size, 1, none⟩ = some (.int .i64 G) ∧ wr.cell? ⟨w.heap.size, 2, none⟩ = some (.slice (some ⟨b, o, none⟩) n c) := ⟨by rw [h6.cell]; rfl, by rw [h6.cell]; rfl, by rw [h6.cell]; rfl⟩
        have hl6 := h6.lt
        have w0 : IntKind.i64.wrap (3 * (k : Int)) = ((3 * k : Nat) : Int) := by simp only [IntKind.wrap, IntKind.signed, IntKind.bits]; simp; omega
        have hn9 : 3 * k + 2 < n := by have := HN3.out; omega
        have x0 := hpx (3 * k) (by omega)
        have x1 := hpx (3 * k + 1) (by omega)
        have x2 := hpx (3 * k + 2) (by omega)
        obtain ⟨v0, hv0⟩ : ∃ v, bs.getD (3 * k) 0 = v := ⟨_, rfl⟩
        obtain ⟨v1, hv1⟩ : ∃ v, bs.getD (3 * k + 1) 0 = v := ⟨_, rfl⟩
        obtain ⟨v2, hv2⟩ : ∃ v, bs.getD (3 * k + 2) 0 = v := ⟨_, rfl⟩
        have hf : bitOf V bs k = tone (grey (v0.toNat : Int) (v1.toNat : Int) (v2.toNat : Int)) ((k : Int) % V) ((k : Int) / V) := by unfold bitOf; rw [hv0, hv1, hv2]
        rw [hv0] at x0
        rw [hv1] at x1
        rw [hv2] at x2
        have HF := Lib.hid hf
        have HH := Lib.hid hR
        have HPX := Lib.hid hpx
        obtain ⟨m, hm3⟩ : ∃ m, m = 3 * k := ⟨_, rfl⟩
        rw [← hm3] at w0 x0 x1 x2 hn9
        have w1' : IntKind.i64.wrap ((m : Int) + 1) = ((m + 1 : Nat) : Int) := by simp only [IntKind.wrap, IntKind.signed, IntKind.bits]; simp; omega
        have w2' : IntKind.i64.wrap ((m : Int) + 2) = ((m + 2 : Nat) : Int) := by simp only [IntKind.wrap, IntKind.signed, IntKind.bits]; simp; omega
        have HM := Lib.hid hm3
        clear hf hv0 hv1 hv2 h1 h2 h3 h4 h5 h6 h7 h8 h9 hpx hm3 hR hB
        have j0 : (0 : Int) ≤ (m : Int) := by omega
        have j1 : (m : Int) < (n : Int) := by omega
        have j2 : (0 : Int) ≤ (m : Int) + 1 := by omega
        have j3 : (m : Int) + 1 < (n : Int) := by omega
        have j4 : (0 : Int) ≤ (m : Int) + 2 := by omega
        have j5 : (m : Int) + 2 < (n : Int) := by omega
        have j6 : ((m : Int) + 2).toNat = m + 2 := by omega
        go_wp2_with fail
        go_region
        have hink := (Blk.new wr 29 #[.int .u8 (v0.toNat : Int), .int .u8 (v1.toNat : Int), .int .u8 (v2.toNat : Int), .int .u8 0]).drew
        have hR3 := HH.out.below (w' := (wr.alloc (.cells #[.int .u8 (v0.toNat : Int), .int .u8 (v1.toNat : Int), .int .u8 (v2.toNat : Int), .int .u8 0] 29)).drew) (by (repeat' (first | exact Below.refl _ _ | exact Below.refl _ _ | refine balloc ?_ _ | refine Below.drew ?_ | refine below_drewN ?_ _ | refine bset ?_ (by first | omega | (simp <;> omega)) _)))
        have c03 : (wr.alloc (.cells #[.int .u8 (v0.toNat : Int), .int .u8 (v1.toNat : Int), .int .u8 (v2.toNat : Int), .int .u8 0] 29)).drew.cell? ⟨w.heap.size, 0, none⟩ = some (.int .i64 V) := by
          obtain ⟨cs, h1, h2, h3, h4, h5, h6, h7, h8⟩ := hR3
          rw [h6.cell]; rfl
        have hg3 : g < (wr.alloc (.cells #[.int .u8 (v0.toNat : Int), .int .u8 (v1.toNat : Int), .int .u8 (v2.toNat : Int), .int .u8 0] 29)).drew.heap.size := by
          obtain ⟨cs, h1, h2, h3, h4, h5, h6, h7, h8⟩ := hR3
          exact h1.lt
        have hl3 : w.heap.size < (wr.alloc (.cells #[.int .u8 (v0.toNat : Int), .int .u8 (v1.toNat : Int), .int .u8 (v2.toNat : Int), .int .u8 0] 29)).drew.heap.size := by
          obtain ⟨cs, h1, h2, h3, h4, h5, h6, h7, h8⟩ := hR3
          exact h6.lt
        obtain ⟨B, hB0⟩ : ∃ B, wr.heap.size = B := ⟨_, rfl⟩
        generalize hw3 : (wr.alloc (.cells #[.int .u8 (v0.toNat : Int), .int .u8 (v1.toNat : Int), .int .u8 (v2.toNat : Int), .int .u8 0] 29)).drew = w3 at *
        rw [hB0] at hink ⊢
        clear hw3 hB0 c0 c1 c2 x0 x1 x2 w0 w1' w2' hbl
        have i0 := hink.cell 0
        have i1 := hink.cell 1
        have i2 := hink.cell 2
        have i3 := hink.cell 3
        simp only [List.getElem?_toArray, List.getElem?_cons_succ, List.getElem?_cons_zero] at i0 i1 i2 i3
        have hl4 := hink.lt
        clear hink
        have hV0 : ((V : Int) == 0) = false := by simp; omega
        have hV1 : ¬ (V : Int) = 0 := by omega
        have hV2 : ¬ V = 0 := by omega
        obtain ⟨M, hM⟩ : ∃ M, k % V = M := ⟨_, rfl⟩
        obtain ⟨D, hD⟩ : ∃ D, k / V = D := ⟨_, rfl⟩
        have hmod : (k : Int).tmod (V : Int) = (M : Int) := by rw [Int.tmod_eq_emod_of_nonneg (by omega), ← hM]; push_cast; rfl
        have hdiv : (k : Int).tdiv (V : Int) = (D : Int) := by rw [Int.tdiv_eq_ediv_of_nonneg (by omega), ← hD]; push_cast; rfl
        have hkm : M < 64 := by rw [← hM]; exact Nat.lt_of_lt_of_le (Nat.mod_lt _ (by omega)) (by omega)
        have hkd : D ≤ 4096 := by rw [← hD]; exact Nat.le_trans (Nat.div_le_self _ _) (by omega)
        have hwm : IntKind.i64.wrap (M : Int) = (M : Int) := by simp only [IntKind.wrap, IntKind.signed, IntKind.bits]; simp; omega
        have hwd : IntKind.i64.wrap (D : Int) = (D : Int) := by simp only [IntKind.wrap, IntKind.signed, IntKind.bits]; simp; omega
        have HM2 := Lib.hid hM
        have HD2 := Lib.hid hD
        clear hM hD
        have b0 := u8_lt v0
        have b1 := u8_lt v1
        have b2 := u8_lt v2
        obtain ⟨Y, hY⟩ : ∃ Y, grey (v0.toNat : Int) (v1.toNat : Int) (v2.toNat : Int) = Y := ⟨_, rfl⟩
        have hY2 : 0 ≤ Y ∧ Y ≤ 255 := by rw [← hY]; exact grey_bd _ _ _ (by omega) (by omega) (by omega)
        have HY := Lib.hid hY
        have hT : tone Y (M : Int) (D : Int) = bitOf V bs k := by
          rw [HF.out, HY.out, ← HM2.out, ← HD2.out]; push_cast; rfl
        have HT := Lib.hid hT
        clear hY hT
        have hcG : ∀ W : World, Calls Try.prog 15 #[.agg #[.int .u8 (v0.toNat : Int), .int .u8 (v1.toNat : Int), .int .u8 (v2.toNat : Int), .int .u8 0]] W fun e w' => e = .returned (.int .u8 Y) ∧ Below W.heap.size W w' := fun W => by rw [← HY.out]; exact grey_any _ _ _ _ _ (by omega) (by omega) (by omega)
        have HCG := Lib.hid hcG
        clear hcG
        have u0 : ∀ u : Up w3, u.val.cell? ⟨B, 0, none⟩ = some (.int .u8 (v0.toNat : Int)) := fun u => (u.cell hl4).trans i0
        have u1 : ∀ u : Up w3, u.val.cell? ⟨B, 1, none⟩ = some (.int .u8 (v1.toNat : Int)) := fun u => (u.cell hl4).trans i1
        have u2 : ∀ u : Up w3, u.val.cell? ⟨B, 2, none⟩ = some (.int .u8 (v2.toNat : Int)) := fun u => (u.cell hl4).trans i2
        have u3 : ∀ u : Up w3, u.val.cell? ⟨B, 3, none⟩ = some (.int .u8 0) := fun u => (u.cell hl4).trans i3
        have u4 : ∀ u : Up w3, u.val.cell? ⟨w.heap.size, 0, none⟩ = some (.int .i64 V) := fun u => (u.cell hl3).trans c03
        have HR3 := Lib.hid hR3
        clear hR3 i0 i1 i2 i3 c03
        obtain ⟨t, ht⟩ : ∃ t, bitOf V bs k = t := ⟨_, rfl⟩
        have HB := Lib.hid ht
        rw [ht] at HT
        clear ht
        have hcT : ∀ W : World, Calls Try.prog 14 #[.int .u8 Y, .int .i64 (M : Int), .int .i64 (D : Int)] W fun e w' => e = .returned (.bool t) ∧ ∃ n, W.drewN n = w' := fun W => by rw [← HT.out]; exact tone_any _ _ _ _ (by omega) (by omega)
        have HCT := Lib.hid hcT
        clear hcT
        go_upto_region 8 with fail
        go_cut [59] from 49 to 64 (fun s wx => s = .bool t ∧ BRel w g p q k V G (bitOf V bs) (some ⟨b, o, none⟩) n c bs wx)
        case first =>
          clear HN3 HLO HR m2 HPX HM j0 j1 j2 j3 j4 j5 j6 hn9 HF HM2 HD2 HT HB HH b0 b1 b2 hY2
          (refine wp_region_up (by kernel_rfl) (by kernel_rfl) ?_; (repeat (go_big_quiet_step (first | exact up_of (HCG.out _) | exact up_drew (HCT.out _)))); refine wpQuiet_nil ?_; rintro _ ⟨uq, rfl⟩)
          go_wp2_with fail
          go_meet
          exact ⟨rfl, HR3.out.below uq.ok⟩
        case rest =>
          obtain ⟨rfl, hR4⟩ := hcut
          clear HN3 HR HPX HM j0 j1 j2 j3 j4 j5 j6 hn9 HF HM2 HD2 HT HH b0 b1 b2 hY2 HCT HCG HR3 u0 u1 u2 u3 u4 HY hV0 hV1 hV2 hmod hdiv hkm hkd hwm hwd hl3 hl4
          have hR4' := hR4
          obtain ⟨cs, h1, h2, h3, h4, h5, h6, h7, h8, h9, h10, h11, h12⟩ := hR4'
          have e2 := h5.cell 2
          simp only [List.getElem?_toArray, List.getElem?_cons_succ, List.getElem?_cons_zero] at e2
          have e3 := (h1.cell k).trans (h4 k (Nat.le_refl _) hlt)
          have e4 := h1.frozen k
          clear h1 h2 h3 h4 h5 h6 h7 h8 h9
          cases t with
          | true =>
            have HP := Lib.hid (hR4.put hlt HB.out HLO.out)
            clear hR4
            go_wp2_with fail
            go_roundw
            case rel => first | exact ⟨k + 1, by omega, by go_num, HP.out⟩ | ((repeat apply Exists.intro); exact ⟨(show k + 1 ≤ q by omega), by go_num, HP.out⟩)
            case measure => simp [intOf]; omega
          | false =>
            have HP := Lib.hid (hR4.skip hlt HB.out)
            clear hR4
            go_wp2_with fail
            go_roundw
            case rel => first | exact ⟨k + 1, by omega, by go_num, HP.out⟩ | ((repeat apply Exists.intro); exact ⟨(show k + 1 ≤ q by omega), by go_num, HP.out⟩)
            case measure => simp [intOf]; omega
      · obtain rfl : k = q := by omega
        have hR' := hR
        obtain ⟨cs, h1, h2, h3, h4, h5, h6, h7, h8, h9, h10, h11, h12⟩ := hR'
        have p0 := h5.cell 0
        have p1 := h5.cell 1
        have p2 := h5.cell 2
        have r0 := h7.cell 0
        have r1 := h7.cell 1
        have r2 := h7.cell 2
        have q0 := h7.frozen 0
        have q1 := h7.frozen 1
        have q2 := h7.frozen 2
        have hg0 : g ≠ w.heap.size + 1 := by omega
        have HBy := Lib.hid (hR.bytes (w' := (((wr.setCell ⟨w.heap.size + 1, 0, none⟩ (.int .i64 V)).setCell ⟨w.heap.size + 1, 1, none⟩ (.int .i64 G)).setCell ⟨w.heap.size + 1, 2, none⟩ (.slice (some ⟨g, 0, none⟩) k k))) (fun cs hc => ((hc.far hg0 _).far hg0 _).far hg0 _))
        have HKr := Lib.hid (((h7.set_ 0 (.int .i64 V)).set_ 1 (.int .i64 G)).set_ 2 (.slice (some ⟨g, 0, none⟩) k k))
        have HBl := Lib.hid h9
        simp only [List.getElem?_toArray, List.getElem?_cons_succ, List.getElem?_cons_zero] at p0 p1 p2 r0 r1 r2
        clear h1 h2 h3 h4 h5 h6 h7 h8 h9 hR hB
        go_wp2_with fail
        refine ret_struct2 (g := w.heap.size + 1) (t := 36) (cs := #[.int .i64 V, .int .i64 G, .slice (some ⟨g, 0, none⟩) k k]) rfl rfl ?_ Try.underlying36 rfl rfl rfl ?_
        · exact HKr.out
        · exact ⟨_, rfl, HBy.out, by (repeat' (first | exact HBl.out | exact Below.refl _ _ | refine balloc ?_ _ | refine Below.drew ?_ | refine below_drewN ?_ _ | refine bset ?_ (by first | omega | (simp <;> omega)) _))⟩
end Go.Proofs.Ytodeebaogpepkaa.sc
