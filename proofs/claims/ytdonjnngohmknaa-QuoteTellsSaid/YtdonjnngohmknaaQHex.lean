/-
  Layer 7: the contract of quote's hex.
-/
import Derived.Test.YtdonjnngohmknaaQParen
namespace Go.Proofs.Ytdonjnngohmknaa.qt
set_option linter.unusedVariables false
set_option linter.unusedSimpArgs false
open Go.RowKit bs lf ch

theorem value_bd (c : Int) (h0 : 0 ≤ c ∧ c ≤ 255) : -1 ≤ value c ∧ value c ≤ 35 := by
  unfold value
  split
  · omega
  split
  · omega
  split <;> omega
theorem hx_blank (c : UInt8) (r : List UInt8) (h : Int) (b : List UInt8) (n : Nat) (hk : kind (c.toNat : Int) = 1) : hexR (c :: r) h b n = hexR r h b (n + 1) := by rw [hexR, if_pos hk]
theorem hx_end (r : List UInt8) (h : Int) (b : List UInt8) (n : Nat) (h0 : h < 0) : hexR (62 :: r) h b n = (b, ((n + 1 : Nat) : Int), 0) := by rw [hexR, if_neg (by decide), if_pos rfl, if_neg (by omega)]
theorem hx_half (r : List UInt8) (h : Int) (b : List UInt8) (n : Nat) (h0 : 0 ≤ h) : hexR (62 :: r) h b n = if 4000 ≤ b.length then bad 5 else (b ++ [UInt8.ofNat (16 * h).toNat], ((n + 1 : Nat) : Int), 0) := by rw [hexR, if_neg (by decide), if_pos rfl, if_pos h0]
theorem hx_bad (c : UInt8) (r : List UInt8) (h : Int) (b : List UInt8) (n : Nat) (hk : kind (c.toNat : Int) ≠ 1) (hc : c ≠ 62) (hv : value (c.toNat : Int) < 0 ∨ 15 < value (c.toNat : Int)) : hexR (c :: r) h b n = bad 3 := by rw [hexR, if_neg hk, if_neg hc, if_pos hv]
theorem hx_first (c : UInt8) (r : List UInt8) (h : Int) (b : List UInt8) (n : Nat) (hk : kind (c.toNat : Int) ≠ 1) (hc : c ≠ 62) (hv : ¬ (value (c.toNat : Int) < 0 ∨ 15 < value (c.toNat : Int))) (h0 : h < 0) : hexR (c :: r) h b n = hexR r (value (c.toNat : Int)) b (n + 1) := by rw [hexR, if_neg hk, if_neg hc, if_neg hv, if_pos h0]
theorem hx_second (c : UInt8) (r : List UInt8) (h : Int) (b : List UInt8) (n : Nat) (hk : kind (c.toNat : Int) ≠ 1) (hc : c ≠ 62) (hv : ¬ (value (c.toNat : Int) < 0 ∨ 15 < value (c.toNat : Int))) (h0 : ¬ h < 0) :
    hexR (c :: r) h b n = if 4000 ≤ b.length then bad 5 else hexR r (-1) (b ++ [UInt8.ofNat (16 * h + value (c.toNat : Int)).toNat]) (n + 1) := by rw [hexR, if_neg hk, if_neg hc, if_neg hv, if_neg h0]

set_option maxRecDepth 100000 in
set_option maxHeartbeats 6400000 in
theorem hex_any (s : ByteArray) (T : Nat) (w : World) (hs : s.size ≤ 20000) (h0 : 1 ≤ s.size) (ht : TK w T [] 0) :
    Calls Try.prog 23 #[.pointer (some ⟨T, 0, none⟩), .string s] w (TkPost T (hexR (s.data.toList.drop 1) (-1) [] 1) w) := by
  obtain ⟨R, hR⟩ : ∃ R, hexR (s.data.toList.drop 1) (-1) [] 1 = R := ⟨_, rfl⟩
  rw [hR]
  have HR := Lib.hid hR
  have HT0 := Lib.hid ht
  have HADD := Lib.hid (fun b A m c k W h1 h2 h3 => add_yes T b 0 A m c k W h1 h2 h3)
  have HADN := Lib.hid (fun b A m c k W h1 h2 h3 h4 h5 => add_no T b 0 A m c k W h1 h2 h3 h4 h5)
  have HBAD := Lib.hid (fun b x W h => bad_any T b 0 x W h)
  have HDS := Lib.hid (dropS s)
  clear hR ht
  go_enter Try.func23, Try.ntmps23
  go_wp2_with fail
  go_loopw [5, 6] (fun hv iv wr => ∃ k : Nat, ∃ h : Int, ∃ b : List UInt8, k ≤ s.size ∧ iv = .int .i64 (k : Int) ∧ hv = .int .i64 h ∧ -1 ≤ h ∧ h ≤ 15 ∧ b.length ≤ k ∧ Hid (TK wr T b 0) ∧ Hid (Below T w wr) ∧ Hid (R = hexR (s.data.toList.drop k) h b k)) (fun _ iv _ => s.size - (intOf iv).toNat)
  case atStart => exact ⟨1, -1, [], h0, rfl, rfl, by omega, by omega, Nat.zero_le _, HT0, Lib.hid (Below.refl _ _), Lib.hid HR.out.symm⟩
  case round =>
    obtain ⟨k, h, b, hk, rfl, rfl, hh0, hh1, hbl, HT, HB, HRR⟩ := hrel
    obtain ⟨wo, rfl⟩ : ∃ wo, wo = wr := ⟨_, rfl⟩
    by_cases hlt : k < s.size
    · have HTW := Lib.hid HT.out.lt
      have hr0 := HRR.out
      rw [HDS.out k hlt] at hr0
      replace HRR := Lib.hid hr0
      clear hr0
      have hc255 : (s[k].toNat : Int) ≤ 255 := by have := s[k].toNat_lt; omega
      have hvb := value_bd (s[k].toNat : Int) ⟨by omega, hc255⟩
      have hkk := fun W => kind_any (s[k].toNat : Int) W
      have hvv := fun W => value_any (s[k].toNat : Int) W (by omega) hc255
      obtain ⟨kd, hkd⟩ : ∃ kd, kind (s[k].toNat : Int) = kd := ⟨_, rfl⟩
      obtain ⟨vd, hvd⟩ : ∃ vd, value (s[k].toNat : Int) = vd := ⟨_, rfl⟩
      rw [hkd] at hkk
      rw [hvd] at hvv hvb
      obtain ⟨hv0, hv1⟩ := hvb
      have HKD := Lib.hid hkd
      have HVD := Lib.hid hvd
      have HVV := Lib.hid hvv
      have HKK := Lib.hid hkk
      clear hkd hvd hkk hvv
      by_cases hb : kd = 1
      · subst hb
        go_wp2_with (first | (go_at_call 37; refine (HVV.out _).mono ?_; rintro e_ w_ ⟨rfl, rfl⟩) | (go_at_call 34; refine (HKK.out _).mono ?_; rintro e_ w_ ⟨rfl, rfl⟩))
        go_roundw
        case rel => exact ⟨k + 1, h, b, by omega, by go_num, rfl, hh0, hh1, by omega, HT, HB, Lib.hid (by rw [HRR.out, hx_blank _ _ _ _ _ HKD.out])⟩
        case measure => simp [intOf]; omega
      · have hkb : (kd == 1) = false := by simpa using hb
        have HKB := Lib.hid (show kind (s[k].toNat : Int) ≠ 1 by rw [HKD.out]; exact hb)
        clear hb
        by_cases hc : s[k] = 62
        · have hv : (s[k].toNat : Int) = 62 := by rw [hc]; rfl
          rw [hc] at HRR
          have HCC := Lib.hid hc
          have d1 : (kind 62 == 1) = false := by decide
          have hvv2 := HVV.out
          have hkk2 := HKK.out
          rw [hv] at hvv2 hkk2
          replace HVV := Lib.hid hvv2
          replace HKK := Lib.hid hkk2
          clear hc hc255 hvv2 hkk2
          by_cases hhn : 0 ≤ h
          · have dh : decide (0 ≤ h) = true := by simpa using hhn
            have hh16 : 0 ≤ 16 * h ∧ 16 * h ≤ 240 := by omega
            go_wp2_with (first | (go_at_call 37; refine (HVV.out _).mono ?_; rintro e_ w_ ⟨rfl, rfl⟩) | (go_at_call 34; refine (HKK.out _).mono ?_; rintro e_ w_ ⟨rfl, rfl⟩))
            by_cases hl : b.length + 1 ≤ 4000
            · refine (HADD.out b (some ⟨_, 0, none⟩) 1 1 [UInt8.ofNat (16 * h).toNat] _ (HT.out.below (balloc (Below.refl _ _) _)) (LB.new _ _ 1 [UInt8.ofNat (16 * h).toNat] (by simp [vals]; omega) rfl) hl).mono ?_
              rintro e_ w1 ⟨rfl, ht1, hb1⟩
              have HT1 := Lib.hid ht1
              have HB1 := Lib.hid ((HB.out.alloc (Nat.le_of_lt HTW.out) _).trans hb1)
              clear ht1 hb1
              go_wp2_with fail
              go_ret
              exact TkPost.ok HB1.out HT1.out (by rw [HRR.out, hx_half _ _ _ _ hhn, if_neg (by omega)]; rfl)
            · refine (HADN.out b (some ⟨_, 0, none⟩) 1 1 [UInt8.ofNat (16 * h).toNat] _ (HT.out.below (balloc (Below.refl _ _) _)) (LB.new _ _ 1 [UInt8.ofNat (16 * h).toNat] (by simp [vals]; omega) rfl) (by omega) (by omega) (by omega)).mono ?_
              rintro e_ w1 ⟨rfl, ht1, hb1⟩
              have HT1 := Lib.hid ht1
              have HB1 := Lib.hid ((HB.out.alloc (Nat.le_of_lt HTW.out) _).trans hb1)
              clear ht1 hb1
              go_wp2_with fail
              go_ret
              exact TkPost.no HB1.out HT1.out (by decide) (by rw [HRR.out, hx_half _ _ _ _ hhn, if_pos (by omega)])
          · have dh : decide (0 ≤ h) = false := by simp; omega
            go_wp2_with (first | (go_at_call 37; refine (HVV.out _).mono ?_; rintro e_ w_ ⟨rfl, rfl⟩) | (go_at_call 34; refine (HKK.out _).mono ?_; rintro e_ w_ ⟨rfl, rfl⟩))
            go_ret
            exact TkPost.ok HB.out HT.out (by rw [HRR.out, hx_end _ _ _ _ (by omega)]; rfl)
        · have v62 : ((s[k].toNat : Int) == 62) = false := by rw [beq_eq_false_iff_ne]; exact fun e => hc ((u8e _ 62).2 e)
          have HC := Lib.hid hc
          clear hc
          by_cases hvx : vd < 0 ∨ 15 < vd
          · have HVX := Lib.hid (show value (s[k].toNat : Int) < 0 ∨ 15 < value (s[k].toNat : Int) by rw [HVD.out]; exact hvx)
            rcases hvx with hvx | hvx
            · have dh : decide (vd < 0) = true := by simpa using hvx
              go_wp2_with (first | (go_at_call 37; refine (HVV.out _).mono ?_; rintro e_ w_ ⟨rfl, rfl⟩) | (go_at_call 34; refine (HKK.out _).mono ?_; rintro e_ w_ ⟨rfl, rfl⟩))
              refine (HBAD.out b 3 _ HT.out).mono ?_
              rintro e_ w1 ⟨rfl, ht1, hb1⟩
              have HT1 := Lib.hid ht1
              have HB1 := Lib.hid (HB.out.trans hb1)
              clear ht1 hb1
              go_wp2_with fail
              go_ret
              exact TkPost.no HB1.out HT1.out (by decide) (by rw [HRR.out, hx_bad _ _ _ _ _ HKB.out HC.out HVX.out])
            · have dh : decide (vd < 0) = false := by simp; omega
              have dh2 : decide (15 < vd) = true := by simpa using hvx
              go_wp2_with (first | (go_at_call 37; refine (HVV.out _).mono ?_; rintro e_ w_ ⟨rfl, rfl⟩) | (go_at_call 34; refine (HKK.out _).mono ?_; rintro e_ w_ ⟨rfl, rfl⟩))
              refine (HBAD.out b 3 _ HT.out).mono ?_
              rintro e_ w1 ⟨rfl, ht1, hb1⟩
              have HT1 := Lib.hid ht1
              have HB1 := Lib.hid (HB.out.trans hb1)
              clear ht1 hb1
              go_wp2_with fail
              go_ret
              exact TkPost.no HB1.out HT1.out (by decide) (by rw [HRR.out, hx_bad _ _ _ _ _ HKB.out HC.out HVX.out])
          · have HVX := Lib.hid (show ¬ (value (s[k].toNat : Int) < 0 ∨ 15 < value (s[k].toNat : Int)) by rw [HVD.out]; exact hvx)
            have w0 : 0 ≤ vd := by omega
            have w1 : vd ≤ 15 := by omega
            have dh : decide (vd < 0) = false := by simp; omega
            have dh2 : decide (15 < vd) = false := by simp; omega
            clear hvx
            by_cases hhn : h < 0
            · have dh3 : decide (h < 0) = true := by simpa using hhn
              go_wp2_with (first | (go_at_call 37; refine (HVV.out _).mono ?_; rintro e_ w_ ⟨rfl, rfl⟩) | (go_at_call 34; refine (HKK.out _).mono ?_; rintro e_ w_ ⟨rfl, rfl⟩))
              go_roundw
              case rel => exact ⟨k + 1, vd, b, by omega, by go_num, rfl, by omega, by omega, by omega, HT, HB, Lib.hid (by rw [HRR.out, hx_first _ _ _ _ _ HKB.out HC.out HVX.out hhn, HVD.out])⟩
              case measure => simp [intOf]; omega
            · have dh3 : decide (h < 0) = false := by simp; omega
              have hh16 : 0 ≤ 16 * h + vd ∧ 16 * h + vd ≤ 255 := by omega
              have HST := Lib.hid (hx_second _ (s.data.toList.drop (k + 1)) _ b k HKB.out HC.out HVX.out hhn)
              rw [HVD.out] at HST
              go_wp2_with (first | (go_at_call 37; refine (HVV.out _).mono ?_; rintro e_ w_ ⟨rfl, rfl⟩) | (go_at_call 34; refine (HKK.out _).mono ?_; rintro e_ w_ ⟨rfl, rfl⟩))
              by_cases hl : b.length + 1 ≤ 4000
              · refine (HADD.out b (some ⟨_, 0, none⟩) 1 1 [UInt8.ofNat (16 * h + vd).toNat] _ (HT.out.below (balloc (Below.refl _ _) _)) (LB.new _ _ 1 [UInt8.ofNat (16 * h + vd).toNat] (by simp [vals]; omega) rfl) hl).mono ?_
                rintro e_ w1 ⟨rfl, ht1, hb1⟩
                have HT1 := Lib.hid ht1
                have HB1 := Lib.hid ((HB.out.alloc (Nat.le_of_lt HTW.out) _).trans hb1)
                clear ht1 hb1
                go_wp2_with fail
                go_roundw
                case rel => exact ⟨k + 1, -1, b ++ [UInt8.ofNat (16 * h + vd).toNat], by omega, by go_num, rfl, by omega, by omega, by simp; omega, HT1, HB1, Lib.hid (by rw [HRR.out, HST.out, if_neg (by omega)])⟩
                case measure => simp [intOf]; omega
              · refine (HADN.out b (some ⟨_, 0, none⟩) 1 1 [UInt8.ofNat (16 * h + vd).toNat] _ (HT.out.below (balloc (Below.refl _ _) _)) (LB.new _ _ 1 [UInt8.ofNat (16 * h + vd).toNat] (by simp [vals]; omega) rfl) (by omega) (by omega) (by omega)).mono ?_
                rintro e_ w1 ⟨rfl, ht1, hb1⟩
                have HT1 := Lib.hid ht1
                have HB1 := Lib.hid ((HB.out.alloc (Nat.le_of_lt HTW.out) _).trans hb1)
                clear ht1 hb1
                go_wp2_with fail
                go_ret
                exact TkPost.no HB1.out HT1.out (by decide) (by rw [HRR.out, HST.out, if_pos (by omega)])
    · obtain rfl : k = s.size := by omega
      have HE := Lib.hid (dropE s s.size (Nat.le_refl _))
      go_wp2_with fail
      refine (HBAD.out b 4 _ HT.out).mono ?_
      rintro e_ w1 ⟨rfl, ht1, hb1⟩
      have HT1 := Lib.hid ht1
      have HB1 := Lib.hid (HB.out.trans hb1)
      clear ht1 hb1
      go_wp2_with fail
      go_ret
      exact TkPost.no HB1.out HT1.out (by decide) (by rw [HRR.out, HE.out]; rfl)
end Go.Proofs.Ytdonjnngohmknaa.qt
