/-
  Layer 7, the reference: paren, hex.
-/
import Derived.Test.YtdonjnngohmknaaQRef2
namespace Go.Proofs.Ytdonjnngohmknaa.qt
set_option linter.unusedVariables false
set_option linter.unusedSimpArgs false
open Go.RowKit bs lf ch

def RPost (T : Nat) (R : Res) (w : World) (e : Ending) (w' : World) : Prop := Below T w w' ∧ ∃ b n er, e = .returned (.int .i64 n) ∧ RK w' T b er ∧ ((er = 0 ∧ R = (b, n, 0)) ∨ (er ≠ 0 ∧ R = bad er))
theorem RPost.ok {T : Nat} {R : Res} {w w' : World} {b : List UInt8} {n : Int} (hb : Below T w w') (ht : RK w' T b 0) (h : R = (b, n, 0)) : RPost T R w (.returned (.int .i64 n)) w' := ⟨hb, b, n, 0, rfl, ht, .inl ⟨rfl, h⟩⟩
theorem RPost.no {T : Nat} {R : Res} {w w' : World} {b : List UInt8} {n er : Int} (hb : Below T w w') (ht : RK w' T b er) (he : er ≠ 0) (h : R = bad er) : RPost T R w (.returned (.int .i64 n)) w' := ⟨hb, b, n, er, rfl, ht, .inr ⟨he, h⟩⟩
theorem rescape_end (s : ByteArray) (T : Nat) (w : World) (hs : s.size ≤ 20000) :
    Calls Try.prog 38 #[.pointer (some ⟨T, 0, none⟩), .string s, .int .i64 (s.size : Int)] w fun e w' => e = .returned (.int .i64 0) ∧ w = w' := by
  go_enter Try.func38, Try.ntmps38
  go_wp2_with fail
  go_ret
  exact ⟨rfl, rfl⟩

set_option maxRecDepth 100000 in
set_option maxHeartbeats 3200000 in
theorem rparen_any (s : ByteArray) (T : Nat) (w : World) (hs : s.size ≤ 600) (h0 : 1 ≤ s.size) (ht : RK w T [] 0) :
    Calls Try.prog 24 #[.pointer (some ⟨T, 0, none⟩), .string s] w (RPost T (parenR s.size (s.data.toList.drop 1) 1 [] 1) w) := by
  obtain ⟨R, hR⟩ : ∃ R, parenR s.size (s.data.toList.drop 1) 1 [] 1 = R := ⟨_, rfl⟩
  rw [hR]
  have HR := Lib.hid hR
  have HT0 := Lib.hid ht
  have HPUT := Lib.hid (fun b x c W h hb hx => rput_any T b x c W h hb hx)
  have HESC := Lib.hid (fun i b W hi h hb => rescape_any s i T b W (by omega) hi h hb)
  have HESE := Lib.hid (fun W => rescape_end s T W (by omega))
  have HDS := Lib.hid (dropS s)
  clear hR ht
  go_enter Try.func24, Try.ntmps24
  go_wp2_with fail
  go_loopw [5, 6] (fun dv iv wr => ∃ k f d : Nat, ∃ b : List UInt8, k ≤ s.size ∧ iv = .int .i64 (k : Int) ∧ dv = .int .i64 (d : Int) ∧ 1 ≤ d ∧ d ≤ k ∧ b.length ≤ k ∧ Hid (RK wr T b 0) ∧ Hid (Below T w wr) ∧ s.size - k < f + 1 ∧ Hid (R = parenR f (s.data.toList.drop k) d b k)) (fun _ iv _ => s.size - (intOf iv).toNat)
  case atStart => exact ⟨1, s.size, 1, [], h0, rfl, rfl, Nat.le_refl _, Nat.le_refl _, Nat.zero_le _, HT0, Lib.hid (Below.refl _ _), by omega, Lib.hid HR.out.symm⟩
  case round =>
    obtain ⟨k, f, d, b, hk, rfl, rfl, hd1, hd2, hbl, HT, HB, hf, HRR⟩ := hrel
    obtain ⟨wo, rfl⟩ : ∃ wo, wo = wr := ⟨_, rfl⟩
    have hb4 : b.length < 4000 := by omega
    by_cases hlt : k < s.size
    · obtain ⟨f, rfl⟩ : ∃ g, f = g + 1 := ⟨f - 1, by omega⟩
      have HTW := Lib.hid HT.out.lt
      have hr0 := HRR.out
      rw [HDS.out k hlt] at hr0
      replace HRR := Lib.hid hr0
      clear hr0
      have hc255 : (s[k].toNat : Int) ≤ 255 := by have := s[k].toNat_lt; omega
      by_cases hc : s[k] = 40
      · have hv : (s[k].toNat : Int) = 40 := by rw [hc]; rfl
        rw [hc] at HRR
        have HCC := Lib.hid hc
        clear hc hc255
        go_wp2_with fail
        refine (HPUT.out b _ 40 _ HT.out hb4 rfl).mono ?_
        rintro e_ w1 ⟨rfl, hr1, hb1⟩
        have q1 := hr1.cell1
        have HR1 := Lib.hid hr1
        have HB1 := Lib.hid (HB.out.trans hb1)
        clear hr1 hb1
        go_wp2_with fail
        go_roundw
        case rel => exact ⟨k + 1, f, d + 1, b ++ [40], by omega, by go_num, by go_num, by omega, by omega, by simp; omega, HR1, HB1, by omega, Lib.hid (by rw [HRR.out, pr_open, if_neg (by omega)])⟩
        case measure => simp [intOf]; omega
      by_cases hc2 : s[k] = 41
      · replace hc := hc2
        clear hc2
        have hv : (s[k].toNat : Int) = 41 := by rw [hc]; rfl
        rw [hc] at HRR
        have HCC := Lib.hid hc
        clear hc hc255
        by_cases hd : d = 1
        · subst hd
          go_wp2_with fail
          go_ret
          exact RPost.ok HB.out HT.out (by rw [HRR.out, pr_end]; rfl)
        · have d9 : ((d : Int) - 1 == 0) = false := by simp; omega
          go_wp2_with fail
          refine (HPUT.out b _ 41 _ HT.out hb4 rfl).mono ?_
          rintro e_ w1 ⟨rfl, hr1, hb1⟩
          have q1 := hr1.cell1
          have HR1 := Lib.hid hr1
          have HB1 := Lib.hid (HB.out.trans hb1)
          clear hr1 hb1
          go_wp2_with fail
          go_roundw
          case rel => exact ⟨k + 1, f, d - 1, b ++ [41], by omega, by go_num, by go_num, by omega, by omega, by simp; omega, HR1, HB1, by omega, Lib.hid (by rw [HRR.out, pr_close _ _ _ _ _ hd, if_neg (by omega)])⟩
          case measure => simp [intOf]; omega
      by_cases hc3 : s[k] = 13
      · replace hc := hc3
        clear hc3 hc2
        have hv : (s[k].toNat : Int) = 13 := by rw [hc]; rfl
        rw [hc] at HRR
        have HCC := Lib.hid hc
        clear hc hc255
        by_cases hk1 : k + 1 < s.size
        · have HD1 := Lib.hid (HDS.out (k + 1) hk1)
          by_cases hn : s[k + 1] = 10
          · have hv1 : (s[k + 1].toNat : Int) = 10 := by rw [hn]; rfl
            have hr0 := HRR.out
            rw [HD1.out, hn] at hr0
            replace HRR := Lib.hid hr0
            clear hr0 hn
            go_wp2_with fail
            refine (HPUT.out b _ 10 _ HT.out hb4 rfl).mono ?_
            rintro e_ w1 ⟨rfl, hr1, hb1⟩
            have q1 := hr1.cell1
            have HR1 := Lib.hid hr1
            have HB1 := Lib.hid (HB.out.trans hb1)
            clear hr1 hb1
            go_wp2_with fail
            go_roundw
            case rel => exact ⟨k + 1 + 1, f, d, b ++ [10], by omega, by go_num, by go_num, by omega, by omega, by simp; omega, HR1, HB1, by omega, Lib.hid (by rw [HRR.out, pr_crlf, if_neg (by omega)])⟩
            case measure => simp [intOf]; omega
          · have hv1 : ((s[k + 1].toNat : Int) == 10) = false := by
              rw [beq_eq_false_iff_ne]
              exact fun e => hn ((u8e _ 10).2 e)
            have HN := Lib.hid (show (s.data.toList.drop (k + 1)).head? ≠ some 10 by rw [HD1.out]; simpa using hn)
            clear hn
            go_wp2_with fail
            refine (HPUT.out b _ 10 _ HT.out hb4 rfl).mono ?_
            rintro e_ w1 ⟨rfl, hr1, hb1⟩
            have q1 := hr1.cell1
            have HR1 := Lib.hid hr1
            have HB1 := Lib.hid (HB.out.trans hb1)
            clear hr1 hb1
            go_wp2_with fail
            go_roundw
            case rel => exact ⟨k + 1, f, d, b ++ [10], by omega, by go_num, by go_num, by omega, by omega, by simp; omega, HR1, HB1, by omega, Lib.hid (by rw [HRR.out, pr_cr _ _ _ _ _ HN.out, if_neg (by omega)])⟩
            case measure => simp [intOf]; omega
        · have HN := Lib.hid (show (s.data.toList.drop (k + 1)).head? ≠ some 10 by rw [dropE s _ (by omega)]; simp)
          go_wp2_with fail
          refine (HPUT.out b _ 10 _ HT.out hb4 rfl).mono ?_
          rintro e_ w1 ⟨rfl, hr1, hb1⟩
          have q1 := hr1.cell1
          have HR1 := Lib.hid hr1
          have HB1 := Lib.hid (HB.out.trans hb1)
          clear hr1 hb1
          go_wp2_with fail
          go_roundw
          case rel => exact ⟨k + 1, f, d, b ++ [10], by omega, by go_num, by go_num, by omega, by omega, by simp; omega, HR1, HB1, by omega, Lib.hid (by rw [HRR.out, pr_cr _ _ _ _ _ HN.out, if_neg (by omega)])⟩
          case measure => simp [intOf]; omega
      by_cases hc4 : s[k] = 92
      · replace hc := hc4
        clear hc4 hc3 hc2
        have hv : (s[k].toNat : Int) = 92 := by rw [hc]; rfl
        rw [hc] at HRR
        have HCC := Lib.hid hc
        clear hc hc255
        by_cases hk1 : k + 1 < s.size
        · have HD1 := Lib.hid (HDS.out (k + 1) hk1)
          have HNE := Lib.hid (show s.data.toList.drop (k + 1) ≠ [] by rw [HD1.out]; simp)
          have hel := esc_len s[k + 1] (s.data.toList.drop (k + 1 + 1))
          rw [← HD1.out] at hel
          have hdl : (s.data.toList.drop (k + 1)).length = s.size - (k + 1) := by simp
          rw [hdl] at hel
          clear hdl
          obtain ⟨x, hx⟩ : ∃ x, esc (s.data.toList.drop (k + 1)) = x := ⟨_, rfl⟩
          have HX := Lib.hid hx
          rw [hx] at hel
          clear hx
          obtain ⟨x1, m⟩ := x
          obtain ⟨hm1, hm2⟩ := hel
          simp only at hm1 hm2
          have hdd : (s.data.toList.drop (k + 1)).drop m = s.data.toList.drop (k + 1 + m) := by rw [List.drop_drop]
          have HDD := Lib.hid hdd
          have dm : ((m : Int) == 0) = false := by rw [beq_eq_false_iff_ne]; omega
          clear hdd
          go_wp2_with fail
          refine (HESC.out (k + 1) b _ hk1 HT.out hb4).mono ?_
          rw [HX.out]
          rintro e_ w1 ⟨rfl, hr1, hb1⟩
          have q1 := hr1.cell1
          have HR1 := Lib.hid hr1
          have HB1 := Lib.hid (HB.out.trans hb1)
          clear hr1 hb1
          go_wp2_with fail
          go_roundw
          case rel =>
            cases x1 with
            | none => exact ⟨k + 1 + m, f, d, b, by omega, by go_num, rfl, by omega, by omega, by omega, Lib.hid (by have := HR1.out; simpa using this), HB1, by omega, Lib.hid (by rw [HRR.out, pr_skip _ _ _ _ _ HNE.out (by rw [HX.out]), HX.out, HDD.out])⟩
            | some x => exact ⟨k + 1 + m, f, d, b ++ [x], by omega, by go_num, rfl, by omega, by omega, by simp; omega, Lib.hid (by have := HR1.out; simpa using this), HB1, by omega, Lib.hid (by rw [HRR.out, pr_esc _ _ _ _ _ HNE.out x (by rw [HX.out]), HX.out, HDD.out, if_neg (by omega)])⟩
          case measure => simp [intOf]; omega
        · have hk9 : (k : Int) + 1 = (s.size : Int) := by omega
          have HE := Lib.hid (dropE s (k + 1) (by omega))
          have q1 := HT.out.cell1
          have f1 := HT.out.free1
          go_wp2_with fail
          refine (HESE.out _).mono ?_
          rintro e_ w_ ⟨rfl, rfl⟩
          go_wp2_with fail
          go_ret
          exact RPost.no (HB.out.setCell (p := ⟨T, 1, none⟩) (Nat.le_refl T) _) (HT.out.seterr 4) (by decide) (by rw [HRR.out, HE.out, pr_bsend])
      have v1 : ((s[k].toNat : Int) == 40) = false := by rw [beq_eq_false_iff_ne]; exact fun e => hc ((u8e _ 40).2 e)
      have v2 : ((s[k].toNat : Int) == 41) = false := by rw [beq_eq_false_iff_ne]; exact fun e => hc2 ((u8e _ 41).2 e)
      have v3 : ((s[k].toNat : Int) == 13) = false := by rw [beq_eq_false_iff_ne]; exact fun e => hc3 ((u8e _ 13).2 e)
      have v4 : ((s[k].toNat : Int) == 92) = false := by rw [beq_eq_false_iff_ne]; exact fun e => hc4 ((u8e _ 92).2 e)
      have HST := Lib.hid (pr_other f s[k] (s.data.toList.drop (k + 1)) d b k hc hc2 hc3 hc4)
      clear hc hc2 hc3 hc4
      go_wp2_with fail
      refine (HPUT.out b _ s[k] _ HT.out hb4 rfl).mono ?_
      rintro e_ w1 ⟨rfl, hr1, hb1⟩
      have q1 := hr1.cell1
      have HR1 := Lib.hid hr1
      have HB1 := Lib.hid (HB.out.trans hb1)
      clear hr1 hb1
      go_wp2_with fail
      go_roundw
      case rel => exact ⟨k + 1, f, d, b ++ [s[k]], by omega, by go_num, by go_num, by omega, by omega, by simp; omega, HR1, HB1, by omega, Lib.hid (by rw [HRR.out, HST.out, if_neg (by omega)])⟩
      case measure => simp [intOf]; omega
    · obtain rfl : k = s.size := by omega
      have HE := Lib.hid (dropE s s.size (Nat.le_refl _))
      have q1 := HT.out.cell1
      have f1 := HT.out.free1
      go_wp2_with fail
      go_ret
      exact RPost.no (HB.out.setCell (p := ⟨T, 1, none⟩) (Nat.le_refl T) _) (HT.out.seterr 4) (by decide) (by rw [HRR.out, HE.out]; cases f <;> rfl)

set_option maxRecDepth 100000 in
set_option maxHeartbeats 3200000 in
theorem rhex_any (s : ByteArray) (T : Nat) (w : World) (hs : s.size ≤ 600) (h0 : 1 ≤ s.size) (ht : RK w T [] 0) :
    Calls Try.prog 26 #[.pointer (some ⟨T, 0, none⟩), .string s] w (RPost T (hexR (s.data.toList.drop 1) (-1) [] 1) w) := by
  obtain ⟨R, hR⟩ : ∃ R, hexR (s.data.toList.drop 1) (-1) [] 1 = R := ⟨_, rfl⟩
  rw [hR]
  have HR := Lib.hid hR
  have HT0 := Lib.hid ht
  have HPUT := Lib.hid (fun b x c W h hb hx => rput_any T b x c W h hb hx)
  have HDS := Lib.hid (dropS s)
  clear hR ht
  go_enter Try.func26, Try.ntmps26
  go_wp2_with fail
  go_loopw [5, 6] (fun hv iv wr => ∃ k : Nat, ∃ h er : Int, ∃ b : List UInt8, k ≤ s.size ∧ iv = .int .i64 (k : Int) ∧ hv = .int .i64 h ∧ -1 ≤ h ∧ h ≤ 15 ∧ b.length ≤ k ∧ Hid (RK wr T b er) ∧ Hid (Below T w wr) ∧ Hid ((er = 0 ∧ R = hexR (s.data.toList.drop k) h b k) ∨ (er = 3 ∧ R = bad 3))) (fun _ iv _ => s.size - (intOf iv).toNat)
  case atStart => exact ⟨1, -1, 0, [], h0, rfl, rfl, by omega, by omega, Nat.zero_le _, HT0, Lib.hid (Below.refl _ _), Lib.hid (.inl ⟨rfl, HR.out.symm⟩)⟩
  case round =>
    obtain ⟨k, h, er, b, hk, rfl, rfl, hh0, hh1, hbl, HT, HB, HRR⟩ := hrel
    obtain ⟨wo, rfl⟩ : ∃ wo, wo = wr := ⟨_, rfl⟩
    have hb4 : b.length < 4000 := by omega
    have q1 := HT.out.cell1
    have f1 := HT.out.free1
    rcases HRR.out with ⟨rfl, hrr⟩ | ⟨rfl, hrr⟩
    · replace HRR := Lib.hid hrr
      clear hrr
      by_cases hlt : k < s.size
      · have hr0 := HRR.out
        rw [HDS.out k hlt] at hr0
        replace HRR := Lib.hid hr0
        clear hr0
        have hc255 : (s[k].toNat : Int) ≤ 255 := by have := s[k].toNat_lt; omega
        have hvb := value_bd (s[k].toNat : Int) ⟨by omega, hc255⟩
        have hkk := fun W => refkind_any (s[k].toNat : Int) W
        have hvv := fun W => refvalue_any (s[k].toNat : Int) W (by omega) hc255
        obtain ⟨kd, hkd⟩ : ∃ kd, kind (s[k].toNat : Int) = kd := ⟨_, rfl⟩
        obtain ⟨vd, hvd⟩ : ∃ vd, value (s[k].toNat : Int) = vd := ⟨_, rfl⟩
        rw [hkd] at hkk
        rw [hvd] at hvv hvb
        obtain ⟨hv0, hv1⟩ := hvb
        have HKD := Lib.hid hkd
        have HVD := Lib.hid hvd
        have HVV := Lib.hid hvv
        have HKK := Lib.hid hkk
        clear hkd hvd hkk hvv
        by_cases hc : s[k] = 62
        · have hv : (s[k].toNat : Int) = 62 := by rw [hc]; rfl
          rw [hc] at HRR
          have HCC := Lib.hid hc
          have hvv2 := HVV.out
          rw [hv] at hvv2
          replace HVV := Lib.hid hvv2
          clear hc hc255 hvv2
          by_cases hhn : 0 ≤ h
          · have dh : decide (0 ≤ h) = true := by simpa using hhn
            have hh16 : 0 ≤ 16 * h ∧ 16 * h ≤ 240 := by omega
            go_wp2_with (first | (go_at_call 42; refine (HVV.out _).mono ?_; rintro e_ w_ ⟨rfl, rfl⟩) | (go_at_call 41; refine (HKK.out _).mono ?_; rintro e_ w_ ⟨rfl, rfl⟩))
            refine (HPUT.out b _ (UInt8.ofNat (16 * h).toNat) _ HT.out hb4 (by rw [nat_of_ofNat]; omega)).mono ?_
            rintro e_ w1 ⟨rfl, hr1, hb1⟩
            have q2 := hr1.cell1
            have HR1 := Lib.hid hr1
            have HB1 := Lib.hid (HB.out.trans hb1)
            clear hr1 hb1 q1 f1
            go_wp2_with fail
            go_ret
            exact RPost.ok HB1.out HR1.out (by rw [HRR.out, hx_half _ _ _ _ hhn, if_neg (by omega)]; rfl)
          · have dh : decide (0 ≤ h) = false := by simp; omega
            go_wp2_with (first | (go_at_call 42; refine (HVV.out _).mono ?_; rintro e_ w_ ⟨rfl, rfl⟩) | (go_at_call 41; refine (HKK.out _).mono ?_; rintro e_ w_ ⟨rfl, rfl⟩))
            go_ret
            exact RPost.ok HB.out HT.out (by rw [HRR.out, hx_end _ _ _ _ (by omega)]; rfl)
        · have v62 : ((s[k].toNat : Int) == 62) = false := by rw [beq_eq_false_iff_ne]; exact fun e => hc ((u8e _ 62).2 e)
          have HC := Lib.hid hc
          clear hc
          by_cases hb : kd = 1
          · subst hb
            go_wp2_with (first | (go_at_call 42; refine (HVV.out _).mono ?_; rintro e_ w_ ⟨rfl, rfl⟩) | (go_at_call 41; refine (HKK.out _).mono ?_; rintro e_ w_ ⟨rfl, rfl⟩))
            go_roundw
            case rel => exact ⟨k + 1, h, 0, b, by omega, by go_num, rfl, hh0, hh1, by omega, HT, HB, Lib.hid (.inl ⟨rfl, by rw [HRR.out, hx_blank _ _ _ _ _ HKD.out]⟩)⟩
            case measure => simp [intOf]; omega
          · have hkb : (kd == 1) = false := by simpa using hb
            have HKB := Lib.hid (show kind (s[k].toNat : Int) ≠ 1 by rw [HKD.out]; exact hb)
            clear hb
            by_cases hvx : vd < 0 ∨ 15 < vd
            · have HVX := Lib.hid (show value (s[k].toNat : Int) < 0 ∨ 15 < value (s[k].toNat : Int) by rw [HVD.out]; exact hvx)
              rcases hvx with hvx | hvx
              · have dh : decide (vd < 0) = true := by simpa using hvx
                go_wp2_with (first | (go_at_call 42; refine (HVV.out _).mono ?_; rintro e_ w_ ⟨rfl, rfl⟩) | (go_at_call 41; refine (HKK.out _).mono ?_; rintro e_ w_ ⟨rfl, rfl⟩))
                go_roundw
                case rel => exact ⟨k + 1, h, 3, b, by omega, by go_num, rfl, hh0, hh1, by omega, Lib.hid (HT.out.seterr 3), Lib.hid (HB.out.setCell (p := ⟨T, 1, none⟩) (Nat.le_refl T) _), Lib.hid (.inr ⟨rfl, by rw [HRR.out, hx_bad _ _ _ _ _ HKB.out HC.out HVX.out]⟩)⟩
                case measure => simp [intOf]; omega
              · have dh : decide (vd < 0) = false := by simp; omega
                have dh2 : decide (15 < vd) = true := by simpa using hvx
                go_wp2_with (first | (go_at_call 42; refine (HVV.out _).mono ?_; rintro e_ w_ ⟨rfl, rfl⟩) | (go_at_call 41; refine (HKK.out _).mono ?_; rintro e_ w_ ⟨rfl, rfl⟩))
                go_roundw
                case rel => exact ⟨k + 1, h, 3, b, by omega, by go_num, rfl, hh0, hh1, by omega, Lib.hid (HT.out.seterr 3), Lib.hid (HB.out.setCell (p := ⟨T, 1, none⟩) (Nat.le_refl T) _), Lib.hid (.inr ⟨rfl, by rw [HRR.out, hx_bad _ _ _ _ _ HKB.out HC.out HVX.out]⟩)⟩
                case measure => simp [intOf]; omega
            · have HVX := Lib.hid (show ¬ (value (s[k].toNat : Int) < 0 ∨ 15 < value (s[k].toNat : Int)) by rw [HVD.out]; exact hvx)
              have w0 : 0 ≤ vd := by omega
              have w1 : vd ≤ 15 := by omega
              have dh : decide (vd < 0) = false := by simp; omega
              have dh2 : decide (15 < vd) = false := by simp; omega
              clear hvx
              by_cases hhn : h < 0
              · have dh3 : decide (h < 0) = true := by simpa using hhn
                go_wp2_with (first | (go_at_call 42; refine (HVV.out _).mono ?_; rintro e_ w_ ⟨rfl, rfl⟩) | (go_at_call 41; refine (HKK.out _).mono ?_; rintro e_ w_ ⟨rfl, rfl⟩))
                go_roundw
                case rel => exact ⟨k + 1, vd, 0, b, by omega, by go_num, rfl, by omega, by omega, by omega, HT, HB, Lib.hid (.inl ⟨rfl, by rw [HRR.out, hx_first _ _ _ _ _ HKB.out HC.out HVX.out hhn, HVD.out]⟩)⟩
                case measure => simp [intOf]; omega
              · have dh3 : decide (h < 0) = false := by simp; omega
                have hh16 : 0 ≤ 16 * h + vd ∧ 16 * h + vd ≤ 255 := by omega
                have HST := Lib.hid (hx_second _ (s.data.toList.drop (k + 1)) _ b k HKB.out HC.out HVX.out hhn)
                rw [HVD.out] at HST
                go_wp2_with (first | (go_at_call 42; refine (HVV.out _).mono ?_; rintro e_ w_ ⟨rfl, rfl⟩) | (go_at_call 41; refine (HKK.out _).mono ?_; rintro e_ w_ ⟨rfl, rfl⟩))
                refine (HPUT.out b _ (UInt8.ofNat (16 * h + vd).toNat) _ HT.out hb4 (by rw [nat_of_ofNat]; omega)).mono ?_
                rintro e_ w1 ⟨rfl, hr1, hb1⟩
                have q2 := hr1.cell1
                have HR1 := Lib.hid hr1
                have HB1 := Lib.hid (HB.out.trans hb1)
                clear hr1 hb1 q1 f1
                go_wp2_with fail
                go_roundw
                case rel => exact ⟨k + 1, -1, 0, b ++ [UInt8.ofNat (16 * h + vd).toNat], by omega, by go_num, rfl, by omega, by omega, by simp; omega, HR1, HB1, Lib.hid (.inl ⟨rfl, by rw [HRR.out, HST.out, if_neg (by omega)]⟩)⟩
                case measure => simp [intOf]; omega
      · obtain rfl : k = s.size := by omega
        have HE := Lib.hid (dropE s s.size (Nat.le_refl _))
        go_wp2_with fail
        go_ret
        exact RPost.no (HB.out.setCell (p := ⟨T, 1, none⟩) (Nat.le_refl T) _) (HT.out.seterr 4) (by decide) (by rw [HRR.out, HE.out]; rfl)
    · replace HRR := Lib.hid hrr
      clear hrr
      by_cases hlt : k < s.size
      · go_wp2_with fail
        go_ret
        exact RPost.no HB.out HT.out (by decide) HRR.out
      · obtain rfl : k = s.size := by omega
        go_wp2_with fail
        go_ret
        exact RPost.no HB.out HT.out (by decide) HRR.out
end Go.Proofs.Ytdonjnngohmknaa.qt
