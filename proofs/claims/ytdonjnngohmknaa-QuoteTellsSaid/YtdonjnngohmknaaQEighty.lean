/-
  Layer 7: the contract of quote's eighty.
-/
import Derived.Test.YtdonjnngohmknaaQLast
namespace Go.Proofs.Ytdonjnngohmknaa.qt
set_option linter.unusedVariables false
set_option linter.unusedSimpArgs false
open Go.RowKit bs lf ch

theorem TK.cell1 {w : World} {T : Nat} {b : List UInt8} {e : Int} (h : TK w T b e) : w.cell? ⟨T, 1, none⟩ = some (.int .i64 e) := by obtain ⟨A, c, h1, _⟩ := h; rw [h1.cell]; rfl
theorem TK.free1 {w : World} {T : Nat} {b : List UInt8} {e : Int} (h : TK w T b e) : w.frozen? ⟨T, 1, none⟩ = false := by obtain ⟨A, c, h1, _⟩ := h; exact h1.frozen 1
theorem TK.seterr {w : World} {T : Nat} {b : List UInt8} {e : Int} (h : TK w T b e) (x : Int) : TK (w.setCell ⟨T, 1, none⟩ (.int .i64 x)) T b x := by
  obtain ⟨A, c, h1, h2⟩ := h
  exact ⟨A, c, h1.set_ 1 _, own_setFar h2 (by simp) _⟩
theorem ey_blank (c : UInt8) (r g b : List UInt8) (n : Nat) (hk : kind (c.toNat : Int) = 1) : eightyR (c :: r) g b n = eightyR r g b (n + 1) := by rw [eightyR, if_pos hk]
theorem ey_cut (g b : List UInt8) (n : Nat) : eightyR [126] g b n = bad 4 := by rw [eightyR, if_neg (by decide), if_pos rfl, if_pos rfl]
theorem ey_other (c : UInt8) (r g b : List UInt8) (n : Nat) (h : c ≠ 62) : eightyR (126 :: c :: r) g b n = bad 3 := by rw [eightyR, if_neg (by decide), if_pos rfl, if_neg (by simp), if_pos (by simpa using h)]
theorem ey_last (r g b : List UInt8) (n : Nat) : eightyR (126 :: 62 :: r) g b n = lastR g b (n + 2) := by rw [eightyR, if_neg (by decide), if_pos rfl, if_neg (by simp), if_neg (by simp)]
theorem ey_z (r b : List UInt8) (n : Nat) : eightyR (122 :: r) [] b n = if 4000 < b.length + 4 then bad 5 else eightyR r [] (b ++ [0, 0, 0, 0]) (n + 1) := by rw [eightyR, if_neg (by decide), if_neg (by decide), if_pos ⟨rfl, rfl⟩]
theorem u8le (a b : UInt8) : a ≤ b ↔ (a.toNat : Int) ≤ (b.toNat : Int) := by rw [UInt8.le_iff_toNat_le]; omega
theorem ey_more (c : UInt8) (r g b : List UInt8) (n : Nat) (hk : kind (c.toNat : Int) ≠ 1) (h0 : 33 ≤ (c.toNat : Int)) (h1 : (c.toNat : Int) ≤ 117) : eightyR (c :: r) g b n = (if g.length < 4 then eightyR r (g ++ [c]) b (n + 1)
      else if 4294967296 ≤ number (g ++ [c]) then bad 3
      else if 4000 < b.length + 4 then bad 5
      else eightyR r [] (b ++ bytes4 (number (g ++ [c]))) (n + 1)) := by
  have e1 : c ≠ 126 := fun e => by rw [e] at h1; exact absurd h1 (by decide)
  have e2 : c ≠ 122 := fun e => by rw [e] at h1; exact absurd h1 (by decide)
  rw [eightyR, if_neg hk, if_neg e1, if_neg (fun h => e2 h.1), if_pos ⟨(u8le 33 c).2 h0, (u8le c 117).2 h1⟩]
theorem ey_bad (c : UInt8) (r g b : List UInt8) (n : Nat) (hk : kind (c.toNat : Int) ≠ 1) (h1 : c ≠ 126) (h2 : ¬ (c = 122 ∧ g = [])) (h3 : (c.toNat : Int) < 33 ∨ 117 < (c.toNat : Int)) : eightyR (c :: r) g b n = bad 3 := by
  rw [eightyR, if_neg hk, if_neg h1, if_neg h2, if_neg (fun h => by
    have a := (u8le 33 c).1 h.1
    have b := (u8le c 117).1 h.2
    have e : ((33 : UInt8).toNat : Int) = 33 := rfl
    have e2 : ((117 : UInt8).toNat : Int) = 117 := rfl
    omega)]
theorem getD_snoc {g : List UInt8} {c : UInt8} (hd : ∀ j, j < g.length → 33 ≤ ((g.getD j 0).toNat : Int)) (hc : 33 ≤ (c.toNat : Int)) : ∀ j, j < (g ++ [c]).length → 33 ≤ (((g ++ [c]).getD j 0).toNat : Int) := by
  intro j hj
  by_cases h : j < g.length
  · rw [show (g ++ [c]).getD j 0 = g.getD j 0 by simp [List.getD, List.getElem?_append_left h]]
    exact hd j h
  · have e : j = g.length := by simp at hj; omega
    subst e
    simp [List.getD]
    omega

set_option maxRecDepth 100000 in
set_option maxHeartbeats 6400000 in
theorem eighty_any (s : ByteArray) (T : Nat) (w : World) (hs : s.size ≤ 20000) (h0 : 2 ≤ s.size) (ht : TK w T [] 0) :
    Calls Try.prog 22 #[.pointer (some ⟨T, 0, none⟩), .string s] w (TkPost T (eightyR (s.data.toList.drop 2) [] [] 2) w) := by
  obtain ⟨R, hR⟩ : ∃ R, eightyR (s.data.toList.drop 2) [] [] 2 = R := ⟨_, rfl⟩
  rw [hR]
  have HR := Lib.hid hR
  have HT0 := Lib.hid ht
  have HADD := Lib.hid (fun b A m c k W h1 h2 h3 => add_yes T b 0 A m c k W h1 h2 h3)
  have HADN := Lib.hid (fun b A m c k W h1 h2 h3 h4 h5 => add_no T b 0 A m c k W h1 h2 h3 h4 h5)
  have HBAD := Lib.hid (fun b x W h => bad_any T b 0 x W h)
  have HDS := Lib.hid (dropS s)
  clear hR ht
  go_enter Try.func22, Try.ntmps22
  go_wp2_with fail
  go_loopw [5, 6] (fun gv iv wr => ∃ k n : Nat, ∃ b g : List UInt8, ∃ A c, ∃ w0 : World, k ≤ s.size ∧ iv = .int .i64 (k : Int) ∧ gv = .slice A n c ∧ n ≤ 4 ∧ b.length ≤ 4000 ∧ Hid (g.length = n) ∧ Hid (TK w0 T b 0) ∧ Hid (Below w0.heap.size w0 wr) ∧ Hid (OwnB wr w0.heap.size (.slice A n c) g) ∧ Hid (Below T w wr) ∧ Hid (∀ j, j < g.length → 33 ≤ ((g.getD j 0).toNat : Int)) ∧ Hid (R = eightyR (s.data.toList.drop k) g b k) ∧ Hid (n = 0 → A = none ∧ c = 0)) (fun _ iv _ => s.size - (intOf iv).toNat)
  case atStart => exact ⟨2, 0, [], [], none, 0, w, h0, rfl, rfl, by omega, Nat.zero_le _, Lib.hid rfl, HT0, Lib.hid (Below.refl _ _), Lib.hid (OwnB.none_ _ _), Lib.hid (Below.refl _ _), Lib.hid (fun j h => absurd h (by simp)), Lib.hid HR.out.symm, Lib.hid (fun _ => ⟨rfl, rfl⟩)⟩
  case round =>
    obtain ⟨k, n, b, g, A, c, w0, hk, rfl, rfl, hn4, hbl, HN, HT, HB, HO, HBT, HD, HRR, HNIL⟩ := hrel
    obtain ⟨wo, rfl⟩ : ∃ wo, wo = wr := ⟨_, rfl⟩
    have HTW := Lib.hid (HT.out.below HB.out)
    have HTL := Lib.hid HTW.out.lt
    by_cases hlt : k < s.size
    · have hr0 := HRR.out
      rw [HDS.out k hlt] at hr0
      replace HRR := Lib.hid hr0
      clear hr0
      have hc255 : (s[k].toNat : Int) ≤ 255 := by have := s[k].toNat_lt; omega
      have hkk := fun W => kind_any (s[k].toNat : Int) W
      obtain ⟨kd, hkd⟩ : ∃ kd, kind (s[k].toNat : Int) = kd := ⟨_, rfl⟩
      rw [hkd] at hkk
      have HKD := Lib.hid hkd
      have HKK := Lib.hid hkk
      clear hkd hkk
      by_cases hb : kd = 1
      · subst hb
        go_wp2_with (go_at_call 34; refine (HKK.out _).mono ?_; rintro e_ w_ ⟨rfl, rfl⟩)
        go_roundw
        case rel => exact ⟨k + 1, n, b, g, A, c, w0, by omega, by go_num, rfl, hn4, hbl, HN, HT, HB, HO, HBT, HD, Lib.hid (by rw [HRR.out, ey_blank _ _ _ _ _ HKD.out]), HNIL⟩
        case measure => simp [intOf]; omega
      · have hkb : (kd == 1) = false := by simpa using hb
        have HKB := Lib.hid (show kind (s[k].toNat : Int) ≠ 1 by rw [HKD.out]; exact hb)
        clear hb
        by_cases hc : s[k] = 126
        · have hv : (s[k].toNat : Int) = 126 := by rw [hc]; rfl
          rw [hc] at HRR
          have HCC := Lib.hid hc
          have hkk2 := HKK.out
          rw [hv] at hkk2
          replace HKK := Lib.hid hkk2
          clear hc hc255 hkk2
          by_cases hk1 : k + 1 < s.size
          · have HD1 := Lib.hid (HDS.out (k + 1) hk1)
            have d9 : ((k : Int) + 1 == (s.size : Int)) = false := by simp; omega
            by_cases hn9 : s[k + 1] = 62
            · have hv1 : (s[k + 1].toNat : Int) = 62 := by rw [hn9]; rfl
              have hv2 : ((s[k + 1].toNat : Int) != 62) = false := by rw [hv1]; rfl
              have hr0 := HRR.out
              rw [HD1.out, hn9, ey_last] at hr0
              replace HRR := Lib.hid hr0
              clear hr0 hn9
              go_wp2_with (go_at_call 34; refine (HKK.out _).mono ?_; rintro e_ w_ ⟨rfl, rfl⟩)
              refine (last_any T b g A n c w0 _ HN.out hn4 HT.out HB.out HO.out HD.out hbl).mono ?_
              rintro e_ w1 ⟨hb1, ⟨rfl, b2, ht1, hl1⟩ | ⟨rfl, ⟨ht1, hl1⟩ | ⟨ht1, hl1⟩⟩⟩
              · have HT1 := Lib.hid ht1
                have HL1 := Lib.hid hl1
                have HB1 := Lib.hid (HBT.out.trans hb1)
                clear ht1 hl1 hb1
                go_wp2_with fail
                go_ret
                exact TkPost.ok HB1.out HT1.out (by rw [HRR.out, HL1.out]; rfl)
              · have q1 := ht1.cell1
                have f1 := ht1.free1
                have HT1 := Lib.hid ht1
                have HL1 := Lib.hid hl1
                have HB1 := Lib.hid (HBT.out.trans hb1)
                clear ht1 hl1 hb1
                go_wp2_with fail
                go_ret
                exact TkPost.no (HB1.out.setCell (p := ⟨T, 1, none⟩) (Nat.le_refl T) _) (HT1.out.seterr 3) (by decide) (by rw [HRR.out, HL1.out])
              · have q1 := ht1.cell1
                have HT1 := Lib.hid ht1
                have HL1 := Lib.hid hl1
                have HB1 := Lib.hid (HBT.out.trans hb1)
                clear ht1 hl1 hb1
                go_wp2_with fail
                go_ret
                exact TkPost.no HB1.out HT1.out (by decide) (by rw [HRR.out, HL1.out])
            · have hv2 : ((s[k + 1].toNat : Int) != 62) = true := by
                rw [bne_iff_ne]
                exact fun e => hn9 ((u8e _ 62).2 e)
              have hr0 := HRR.out
              rw [HD1.out, ey_other _ _ _ _ _ hn9] at hr0
              replace HRR := Lib.hid hr0
              have q1 := HTW.out.cell1
              have f1 := HTW.out.free1
              clear hr0 hn9
              go_wp2_with (go_at_call 34; refine (HKK.out _).mono ?_; rintro e_ w_ ⟨rfl, rfl⟩)
              go_ret
              exact TkPost.no (HBT.out.setCell (p := ⟨T, 1, none⟩) (Nat.le_refl T) _) (HTW.out.seterr 3) (by decide) (by rw [HRR.out])
          · have d9 : ((k : Int) + 1 == (s.size : Int)) = true := by simp; omega
            have HE := Lib.hid (dropE s (k + 1) (by omega))
            go_wp2_with (go_at_call 34; refine (HKK.out _).mono ?_; rintro e_ w_ ⟨rfl, rfl⟩)
            refine (HBAD.out b 4 _ HTW.out).mono ?_
            rintro e_ w1 ⟨rfl, ht1, hb1⟩
            have HT1 := Lib.hid ht1
            have HB1 := Lib.hid (HBT.out.trans hb1)
            clear ht1 hb1
            go_wp2_with fail
            go_ret
            exact TkPost.no HB1.out HT1.out (by decide) (by rw [HRR.out, HE.out, ey_cut])
        · have v126 : ((s[k].toNat : Int) == 126) = false := by rw [beq_eq_false_iff_ne]; exact fun e => hc ((u8e _ 126).2 e)
          have HC126 := Lib.hid hc
          clear hc
          by_cases hz : s[k] = 122 ∧ n = 0
          · obtain ⟨hc, rfl⟩ := hz
            obtain ⟨rfl, rfl⟩ := HNIL.out rfl
            have hg0 : g = [] := List.eq_nil_of_length_eq_zero HN.out
            have hr0 := HRR.out
            rw [hg0] at hr0
            replace HRR := Lib.hid hr0
            clear hr0 hg0
            have hv : (s[k].toNat : Int) = 122 := by rw [hc]; rfl
            rw [hc] at HRR
            have HCC := Lib.hid hc
            have hkk2 := HKK.out
            rw [hv] at hkk2
            replace HKK := Lib.hid hkk2
            clear hc hc255 hkk2
            clear v126
            go_wp2_with (go_at_call 34; refine (HKK.out _).mono ?_; rintro e_ w_ ⟨rfl, rfl⟩)
            by_cases hl : b.length + 4 ≤ 4000
            · refine (HADD.out b (some ⟨_, 0, none⟩) 4 4 [0, 0, 0, 0] _ (HTW.out.below (balloc (Below.refl _ _) _)) (LB.new _ _ 4 [0, 0, 0, 0] rfl rfl) hl).mono ?_
              rintro e_ w1 ⟨rfl, ht1, hb1⟩
              have HT1 := Lib.hid ht1
              have HB1 := Lib.hid ((HBT.out.alloc (Nat.le_of_lt HTL.out) _).trans hb1)
              clear ht1 hb1
              go_wp2_with fail
              go_roundw
              case rel => exact ⟨k + 1, 0, b ++ [0, 0, 0, 0], [], none, 0, w1, by omega, by go_num, rfl, by omega, by simp; omega, Lib.hid rfl, HT1, Lib.hid (Below.refl _ _), Lib.hid (OwnB.none_ _ _), HB1, Lib.hid (fun j h => absurd h (by simp)), Lib.hid (by rw [HRR.out, ey_z, if_neg (by omega)]), Lib.hid (fun _ => ⟨rfl, rfl⟩)⟩
              case measure => simp [intOf]; omega
            · refine (HADN.out b (some ⟨_, 0, none⟩) 4 4 [0, 0, 0, 0] _ (HTW.out.below (balloc (Below.refl _ _) _)) (LB.new _ _ 4 [0, 0, 0, 0] rfl rfl) (by omega) (by omega) (by omega)).mono ?_
              rintro e_ w1 ⟨rfl, ht1, hb1⟩
              have HT1 := Lib.hid ht1
              have HB1 := Lib.hid ((HBT.out.alloc (Nat.le_of_lt HTL.out) _).trans hb1)
              clear ht1 hb1
              go_wp2_with fail
              go_ret
              exact TkPost.no HB1.out HT1.out (by decide) (by rw [HRR.out, ey_z, if_pos (by omega)])
          · have HZ := Lib.hid (show ¬ (s[k] = 122 ∧ g = []) by
              rintro ⟨h1, h2⟩
              have := HN.out
              rw [h2] at this
              exact hz ⟨h1, this.symm⟩)
            by_cases hr : 33 ≤ (s[k].toNat : Int) ∧ (s[k].toNat : Int) ≤ 117
            · obtain ⟨r0, r1⟩ := hr
              have v122 : ((s[k].toNat : Int) == 122) = false := by rw [beq_eq_false_iff_ne]; omega
              have HST := Lib.hid (ey_more s[k] (s.data.toList.drop (k + 1)) g b k HKB.out r0 r1)
              have hsw := HB.out.size
              have HSN := Lib.hid (getD_snoc HD.out r0)
              clear hz
              go_wp2_with (go_at_call 34; refine (HKK.out _).mono ?_; rintro e_ w_ ⟨rfl, rfl⟩)
              refine (put_any w0.heap.size _ g (some ⟨_, 0, none⟩) 1 1 [s[k]] _ (HO.out.below (balloc (Below.refl _ _) _)) (LB.new _ _ 1 [s[k]] rfl rfl) (by simp; omega) (by have := HN.out; omega)).mono ?_
              rintro e_ w1 ⟨v', rfl, ho1, hb1⟩
              obtain ⟨A2, c2, rfl, hl2⟩ := ho1.lb
              have hlen : (g ++ [s[k]]).length = n + 1 := by rw [List.length_append, HN.out]; rfl
              rw [hlen] at ho1 hl2
              rw [hlen]
              have HO1 := Lib.hid ho1
              have HB1 := Lib.hid ((HB.out.alloc hsw _).trans hb1)
              have HBT1 := Lib.hid ((HBT.out.alloc (Nat.le_of_lt HTL.out) _).trans (hb1.mono (Nat.le_of_lt HT.out.lt)))
              have HL2 := Lib.hid hl2
              have HLEN := Lib.hid hlen
              clear ho1 hb1 hl2 hlen
              by_cases hn3 : n < 4
              · have d5 : decide ((n : Int) + 1 < 5) = true := by simp; omega
                go_wp2_with fail
                go_roundw
                case rel => exact ⟨k + 1, n + 1, b, g ++ [s[k]], A2, c2, w0, by omega, by go_num, rfl, by omega, hbl, HLEN, HT, HB1, HO1, HBT1, HSN, Lib.hid (by rw [HRR.out, HST.out, if_pos (by rw [HN.out]; exact hn3)]), Lib.hid (fun h => absurd h (by omega))⟩
                case measure => simp [intOf]; omega
              · obtain rfl : n = 4 := by omega
                have HTW1 := Lib.hid (HT.out.below HB1.out)
                have HTL1 := Lib.hid HTW1.out.lt
                have hnu := number_any A2 5 c2 (g ++ [s[k]]) w1 HL2.out (by omega) (by omega) (fun j hj => HSN.out j (by rw [HLEN.out]; exact hj))
                have hnb := number_bound (g ++ [s[k]]) (by rw [HLEN.out]; omega)
                obtain ⟨v, hv⟩ : ∃ v, number (g ++ [s[k]]) = v := ⟨_, rfl⟩
                rw [hv] at hnu hnb
                have HV := Lib.hid hv
                have hst := HST.out
                rw [hv, if_neg (by rw [HN.out]; omega)] at hst
                replace HST := Lib.hid hst
                clear hv hst
                by_cases hok : v < 4294967296
                · have d3 : decide (v < 4294967296) = true := by simpa using hok
                  rw [d3] at hnu
                  have HNU := Lib.hid hnu
                  have hvv : (v : Int) ≤ 4294967295 := by omega
                  have hst := HST.out
                  rw [if_neg (by omega)] at hst
                  replace HST := Lib.hid hst
                  clear hnu hst d3
                  have hcs : ∀ (W : World), LB (W.alloc (.cells #[.int .u8 ((v : Int) / 16777216), .int .u8 ((v : Int) / 65536 % 256), .int .u8 ((v : Int) / 256 % 256), .int .u8 ((v : Int) % 256)] 5)) (some ⟨W.heap.size, 0, none⟩) 4 4 (bytes4 v) := fun W => LB.new W _ 4 (bytes4 v) (by simp [vals, bytes4]; omega) rfl
                  have HCS := Lib.hid hcs
                  clear hcs hok
                  go_wp2_with (go_at_call 36; refine (HNU.out).mono ?_; rintro e_ w_ ⟨rfl, rfl⟩)
                  by_cases hl : b.length + 4 ≤ 4000
                  · refine (HADD.out b (some ⟨_, 0, none⟩) 4 4 (bytes4 v) _ (HTW1.out.below (balloc (Below.refl _ _) _)) (HCS.out _) hl).mono ?_
                    rintro e_ w2 ⟨rfl, ht2, hb2⟩
                    have HT2 := Lib.hid ht2
                    have HB2 := Lib.hid ((HBT1.out.alloc (Nat.le_of_lt HTL1.out) _).trans hb2)
                    clear ht2 hb2
                    go_wp2_with fail
                    go_roundw
                    case rel => exact ⟨k + 1, 0, b ++ bytes4 v, [], none, 0, w2, by omega, by go_num, rfl, by omega, by simp [bytes4]; omega, Lib.hid rfl, HT2, Lib.hid (Below.refl _ _), Lib.hid (OwnB.none_ _ _), HB2, Lib.hid (fun j h => absurd h (by simp)), Lib.hid (by rw [HRR.out, HST.out, if_neg (by omega)]), Lib.hid (fun _ => ⟨rfl, rfl⟩)⟩
                    case measure => simp [intOf]; omega
                  · refine (HADN.out b (some ⟨_, 0, none⟩) 4 4 (bytes4 v) _ (HTW1.out.below (balloc (Below.refl _ _) _)) (HCS.out _) (by omega) (by omega) (by omega)).mono ?_
                    rintro e_ w2 ⟨rfl, ht2, hb2⟩
                    have HT2 := Lib.hid ht2
                    have HB2 := Lib.hid ((HBT1.out.alloc (Nat.le_of_lt HTL1.out) _).trans hb2)
                    clear ht2 hb2
                    go_wp2_with fail
                    go_ret
                    exact TkPost.no HB2.out HT2.out (by decide) (by rw [HRR.out, HST.out, if_pos (by omega)])
                · have d3 : decide (v < 4294967296) = false := by simpa using hok
                  rw [d3] at hnu
                  have HNU := Lib.hid hnu
                  have hst := HST.out
                  rw [if_pos (by omega)] at hst
                  replace HST := Lib.hid hst
                  clear hnu hst d3 hok
                  go_wp2_with (go_at_call 36; refine (HNU.out).mono ?_; rintro e_ w_ ⟨rfl, rfl⟩)
                  refine (HBAD.out b 3 _ HTW1.out).mono ?_
                  rintro e_ w2 ⟨rfl, ht2, hb2⟩
                  have HT2 := Lib.hid ht2
                  have HB2 := Lib.hid (HBT1.out.trans hb2)
                  clear ht2 hb2
                  go_wp2_with fail
                  go_ret
                  exact TkPost.no HB2.out HT2.out (by decide) (by rw [HRR.out, HST.out])
            · have HRX := Lib.hid (show (s[k].toNat : Int) < 33 ∨ 117 < (s[k].toNat : Int) by omega)
              have HZ2 := Lib.hid hz
              clear hz
              by_cases hz1 : s[k] = 122
              · have hc := hz1
                clear hz1
                have hr0 := HRR.out
                rw [ey_bad _ _ _ _ _ HKB.out HC126.out HZ.out HRX.out] at hr0
                replace HRR := Lib.hid hr0
                have hv : (s[k].toNat : Int) = 122 := by rw [hc]; rfl
                have dn : ((n : Int) == 0) = false := by
                  rw [beq_eq_false_iff_ne]
                  exact fun e => HZ2.out ⟨hc, by omega⟩
                have hkk2 := HKK.out
                rw [hv] at hkk2
                replace HKK := Lib.hid hkk2
                clear hc hc255 hkk2 v126 hr0 hr
                go_wp2_with (go_at_call 34; refine (HKK.out _).mono ?_; rintro e_ w_ ⟨rfl, rfl⟩)
                refine (HBAD.out b 3 _ HTW.out).mono ?_
                rintro e_ w1 ⟨rfl, ht1, hb1⟩
                have HT1 := Lib.hid ht1
                have HB1 := Lib.hid (HBT.out.trans hb1)
                clear ht1 hb1
                go_wp2_with fail
                go_ret
                exact TkPost.no HB1.out HT1.out (by decide) (by rw [HRR.out])
              · have v122 : ((s[k].toNat : Int) == 122) = false := by rw [beq_eq_false_iff_ne]; exact fun e => hz1 ((u8e _ 122).2 e)
                have hr0 := HRR.out
                rw [ey_bad _ _ _ _ _ HKB.out HC126.out HZ.out HRX.out] at hr0
                replace HRR := Lib.hid hr0
                clear hz1 hr0
                by_cases r0 : 33 ≤ (s[k].toNat : Int)
                · have r1 : 117 < (s[k].toNat : Int) := by omega
                  clear hr
                  go_wp2_with (go_at_call 34; refine (HKK.out _).mono ?_; rintro e_ w_ ⟨rfl, rfl⟩)
                  refine (HBAD.out b 3 _ HTW.out).mono ?_
                  rintro e_ w1 ⟨rfl, ht1, hb1⟩
                  have HT1 := Lib.hid ht1
                  have HB1 := Lib.hid (HBT.out.trans hb1)
                  clear ht1 hb1
                  go_wp2_with fail
                  go_ret
                  exact TkPost.no HB1.out HT1.out (by decide) (by rw [HRR.out])
                · have r1 : (s[k].toNat : Int) < 33 := by omega
                  clear hr r0
                  go_wp2_with (go_at_call 34; refine (HKK.out _).mono ?_; rintro e_ w_ ⟨rfl, rfl⟩)
                  refine (HBAD.out b 3 _ HTW.out).mono ?_
                  rintro e_ w1 ⟨rfl, ht1, hb1⟩
                  have HT1 := Lib.hid ht1
                  have HB1 := Lib.hid (HBT.out.trans hb1)
                  clear ht1 hb1
                  go_wp2_with fail
                  go_ret
                  exact TkPost.no HB1.out HT1.out (by decide) (by rw [HRR.out])
    · obtain rfl : k = s.size := by omega
      have HE := Lib.hid (dropE s s.size (Nat.le_refl _))
      go_wp2_with fail
      refine (HBAD.out b 4 _ HTW.out).mono ?_
      rintro e_ w1 ⟨rfl, ht1, hb1⟩
      have HT1 := Lib.hid ht1
      have HB1 := Lib.hid (HBT.out.trans hb1)
      clear ht1 hb1
      go_wp2_with fail
      go_ret
      exact TkPost.no HB1.out HT1.out (by decide) (by rw [HRR.out, HE.out]; rfl)
end Go.Proofs.Ytdonjnngohmknaa.qt
