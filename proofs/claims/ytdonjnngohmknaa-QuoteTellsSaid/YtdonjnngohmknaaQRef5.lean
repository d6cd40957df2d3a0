/-
  Layer 7, the reference: eighty, Take.
-/
import Derived.Test.YtdonjnngohmknaaQRef4
import Derived.BigQuiet
namespace Go.Proofs.Ytdonjnngohmknaa.qt
set_option linter.unusedVariables false
set_option linter.unusedSimpArgs false
open Go.RowKit bs lf ch

theorem ownG_zeros (w : World) : OwnG (w.alloc (.cells #[.int .i64 0, .int .i64 0, .int .i64 0, .int .i64 0, .int .i64 0] 3)) w.heap.size (.slice (some ⟨w.heap.size, 0, none⟩) 5 5) [33, 33, 33, 33, 33] :=
  ⟨rfl, .inr ⟨w.heap.size, 5, _, rfl, Nat.le_refl _, Blk.new w _ _, Nat.le_refl _, by decide, rfl, rfl⟩⟩
/-- the group that is open, its bytes and what was taken ahead of it -/
def GSt (T : Nat) (s : ByteArray) (R : Res) (gv : Value) (wr : World) (k : Nat) : Prop :=
  (∃ (n : Nat) (b g : List UInt8) (A : Option Addr) (c : Nat) (w0 : World), gv = .slice A n c ∧ n ≤ 4 ∧ b.length ≤ 4 * k ∧ g.length = n ∧ RK w0 T b 0 ∧ Below w0.heap.size w0 wr ∧ OwnG wr w0.heap.size (.slice A n c) g ∧ (∀ j, j < g.length → 33 ≤ ((g.getD j 0).toNat : Int)) ∧ (n = 0 → A = none ∧ c = 0) ∧ R = eightyR (s.data.toList.drop k) g b k) ∨ (∃ b, RK wr T b 3 ∧ R = bad 3)

set_option maxRecDepth 100000 in
set_option maxHeartbeats 3200000 in
theorem reighty_any (s : ByteArray) (T : Nat) (w : World) (hs : s.size ≤ 600) (h0 : 2 ≤ s.size) (ht : RK w T [] 0) :
    Calls Try.prog 25 #[.pointer (some ⟨T, 0, none⟩), .string s] w (RPost T (eightyR (s.data.toList.drop 2) [] [] 2) w) := by
  obtain ⟨R, hR⟩ : ∃ R, eightyR (s.data.toList.drop 2) [] [] 2 = R := ⟨_, rfl⟩
  rw [hR]
  have HR := Lib.hid hR
  have HT0 := Lib.hid ht
  have HDS := Lib.hid (dropS s)
  obtain ⟨i0, hi, hz0, hz1, hz2⟩ := info_parts (show (Try.prog.info? 3).map (fun i => (i.zero, i.size, i.bytes)) = some (some (.int .i64 0), 1, 8) by kernel_rfl)
  clear hR ht
  go_enter Try.func25, Try.ntmps25
  go_wp2_with fail
  go_loopw [5, 6] (fun gv iv wr => ∃ k : Nat, k ≤ s.size ∧ iv = .int .i64 (k : Int) ∧ Hid (Below T w wr) ∧ Hid (GSt T s R gv wr k)) (fun _ iv _ => s.size - (intOf iv).toNat)
  case atStart => exact ⟨2, h0, rfl, Lib.hid (Below.refl _ _), Lib.hid (.inl ⟨0, [], [], none, 0, w, rfl, by omega, Nat.zero_le _, rfl, HT0.out, Below.refl _ _, OwnG.none_ _ _, fun j h => absurd h (by simp), fun _ => ⟨rfl, rfl⟩, HR.out.symm⟩)⟩
  case round =>
    obtain ⟨k, hk, rfl, HBT, HST⟩ := hrel
    obtain ⟨wo, rfl⟩ : ∃ wo, wo = wr := ⟨_, rfl⟩
    rcases HST.out with ⟨n, b, g, A, c, w0, rfl, hn4, hbl, hN, hT, hB, hO, hD, hNIL, hRR⟩ | ⟨b, hT, hRR⟩
    · have HN := Lib.hid hN
      have HT := Lib.hid hT
      have HB := Lib.hid hB
      have HO := Lib.hid hO
      have HD := Lib.hid hD
      have HNIL := Lib.hid hNIL
      have HRR := Lib.hid hRR
      have HTW := Lib.hid (HT.out.below HB.out)
      have HTL := Lib.hid HTW.out.lt
      have q1 := HTW.out.cell1
      have f1 := HTW.out.free1
      clear hN hT hB hO hD hNIL hRR HST
      by_cases hlt : k < s.size
      · have hr0 := HRR.out
        rw [HDS.out k hlt] at hr0
        replace HRR := Lib.hid hr0
        clear hr0
        have hc255 : (s[k].toNat : Int) ≤ 255 := by have := s[k].toNat_lt; omega
        have hkk := fun W => refkind_any (s[k].toNat : Int) W
        obtain ⟨kd, hkd⟩ : ∃ kd, kind (s[k].toNat : Int) = kd := ⟨_, rfl⟩
        rw [hkd] at hkk
        have HKD := Lib.hid hkd
        have HKK := Lib.hid hkk
        clear hkd hkk
        by_cases hc : s[k] = 126
        · have hv : (s[k].toNat : Int) = 126 := by rw [hc]; rfl
          rw [hc] at HRR
          have HCC := Lib.hid hc
          clear hc hc255
          by_cases hk1 : k + 1 < s.size
          · have HD1 := Lib.hid (HDS.out (k + 1) hk1)
            have d9 : decide ((s.size : Int) ≤ (k : Int) + 1) = false := by simp; omega
            by_cases hn9 : s[k + 1] = 62
            · have hv1 : (s[k + 1].toNat : Int) = 62 := by rw [hn9]; rfl
              have hv2 : ((s[k + 1].toNat : Int) != 62) = false := by rw [hv1]; rfl
              have hr0 := HRR.out
              rw [HD1.out, hn9, ey_last] at hr0
              replace HRR := Lib.hid hr0
              clear hr0 hn9
              rcases (show n = 0 ∨ n = 1 ∨ n = 2 ∨ n = 3 ∨ n = 4 by omega) with rfl | rfl | hn2
              · go_wp2_with fail
                go_ret
                exact RPost.ok HBT.out HTW.out (by rw [HRR.out, lastR, if_pos (List.eq_nil_of_length_eq_zero HN.out)]; rfl)
              · go_wp2_with fail
                go_ret
                exact RPost.no (HBT.out.setCell (p := ⟨T, 1, none⟩) (Nat.le_refl T) _) (HTW.out.seterr 3) (by decide) (by rw [HRR.out, lastR, if_neg (by intro e; have := HN.out; rw [e] at this; simp at this), if_pos (.inr HN.out)])
              · have hn23 : n = 2 ∨ n = 3 ∨ n = 4 := hn2
                have HLV := Lib.hid (fun (h : number (fill g) < 4294967296) => show lastR g b (k + 2) = (b ++ (bytes4 (number (fill g))).take (n - 1), ((k + 2 : Nat) : Int), 0) by
                  rw [lastR, if_neg (by intro e; have := HN.out; rw [e] at this; simp at this; omega), if_neg (by have := HN.out; omega), if_neg (by have := HN.out; omega), HN.out])
                have HLB := Lib.hid (fun (h : 4294967296 ≤ number (fill g)) => show lastR g b (k + 2) = bad 3 by
                  rw [lastR, if_neg (by intro e; have := HN.out; rw [e] at this; simp at this; omega), if_pos (.inl h)])
                clear hn2
                rcases hn23 with rfl | rfl | rfl
                · go_wp2_with fail
                  refine (rgroup_any T b g A 2 c 1 w0 _ HN.out (by omega) (by omega) (by omega) (by omega) HT.out HB.out HO.out HD.out (by omega)).mono ?_
                  rintro e_ w1 ⟨rfl, hb1, ⟨h9, hr1⟩ | ⟨h9, hr1⟩⟩
                  · have HR1 := Lib.hid hr1
                    have HB1 := Lib.hid (HBT.out.trans hb1)
                    have H9 := Lib.hid h9
                    clear hr1 hb1 h9 q1 f1
                    go_wp2_with fail
                    go_ret
                    exact RPost.ok HB1.out HR1.out (by rw [HRR.out, HLV.out H9.out]; rfl)
                  · have HR1 := Lib.hid hr1
                    have HB1 := Lib.hid (HBT.out.trans hb1)
                    have H9 := Lib.hid h9
                    clear hr1 hb1 h9 q1 f1
                    go_wp2_with fail
                    go_ret
                    exact RPost.no HB1.out HR1.out (by decide) (by rw [HRR.out, HLB.out H9.out])
                · go_wp2_with fail
                  refine (rgroup_any T b g A 3 c 2 w0 _ HN.out (by omega) (by omega) (by omega) (by omega) HT.out HB.out HO.out HD.out (by omega)).mono ?_
                  rintro e_ w1 ⟨rfl, hb1, ⟨h9, hr1⟩ | ⟨h9, hr1⟩⟩
                  · have HR1 := Lib.hid hr1
                    have HB1 := Lib.hid (HBT.out.trans hb1)
                    have H9 := Lib.hid h9
                    clear hr1 hb1 h9 q1 f1
                    go_wp2_with fail
                    go_ret
                    exact RPost.ok HB1.out HR1.out (by rw [HRR.out, HLV.out H9.out]; rfl)
                  · have HR1 := Lib.hid hr1
                    have HB1 := Lib.hid (HBT.out.trans hb1)
                    have H9 := Lib.hid h9
                    clear hr1 hb1 h9 q1 f1
                    go_wp2_with fail
                    go_ret
                    exact RPost.no HB1.out HR1.out (by decide) (by rw [HRR.out, HLB.out H9.out])
                · go_wp2_with fail
                  refine (rgroup_any T b g A 4 c 3 w0 _ HN.out (by omega) (by omega) (by omega) (by omega) HT.out HB.out HO.out HD.out (by omega)).mono ?_
                  rintro e_ w1 ⟨rfl, hb1, ⟨h9, hr1⟩ | ⟨h9, hr1⟩⟩
                  · have HR1 := Lib.hid hr1
                    have HB1 := Lib.hid (HBT.out.trans hb1)
                    have H9 := Lib.hid h9
                    clear hr1 hb1 h9 q1 f1
                    go_wp2_with fail
                    go_ret
                    exact RPost.ok HB1.out HR1.out (by rw [HRR.out, HLV.out H9.out]; rfl)
                  · have HR1 := Lib.hid hr1
                    have HB1 := Lib.hid (HBT.out.trans hb1)
                    have H9 := Lib.hid h9
                    clear hr1 hb1 h9 q1 f1
                    go_wp2_with fail
                    go_ret
                    exact RPost.no HB1.out HR1.out (by decide) (by rw [HRR.out, HLB.out H9.out])
            · have hv2 : ((s[k + 1].toNat : Int) != 62) = true := by
                rw [bne_iff_ne]
                exact fun e => hn9 ((u8e _ 62).2 e)
              have hr0 := HRR.out
              rw [HD1.out, ey_other _ _ _ _ _ hn9] at hr0
              replace HRR := Lib.hid hr0
              clear hr0 hn9
              go_wp2_with fail
              go_ret
              exact RPost.no (HBT.out.setCell (p := ⟨T, 1, none⟩) (Nat.le_refl T) _) (HTW.out.seterr 3) (by decide) (by rw [HRR.out])
          · have d9 : decide ((s.size : Int) ≤ (k : Int) + 1) = true := by simp; omega
            have HE := Lib.hid (dropE s (k + 1) (by omega))
            go_wp2_with fail
            go_ret
            exact RPost.no (HBT.out.setCell (p := ⟨T, 1, none⟩) (Nat.le_refl T) _) (HTW.out.seterr 4) (by decide) (by rw [HRR.out, HE.out, ey_cut])
        · have v126 : ((s[k].toNat : Int) == 126) = false := by rw [beq_eq_false_iff_ne]; exact fun e => hc ((u8e _ 126).2 e)
          have HC126 := Lib.hid hc
          clear hc
          by_cases hb : kd = 1
          · subst hb
            go_wp2_with (go_at_call 41; refine (HKK.out _).mono ?_; rintro e_ w_ ⟨rfl, rfl⟩)
            go_roundw
            case rel => exact ⟨k + 1, by omega, by go_num, HBT, Lib.hid (.inl ⟨n, b, g, A, c, w0, rfl, hn4, by omega, HN.out, HT.out, HB.out, HO.out, HD.out, HNIL.out, by rw [HRR.out, ey_blank _ _ _ _ _ HKD.out]⟩)⟩
            case measure => simp [intOf]; omega
          · have hkb : (kd == 1) = false := by simpa using hb
            have HKB := Lib.hid (show kind (s[k].toNat : Int) ≠ 1 by rw [HKD.out]; exact hb)
            clear hb
            by_cases hz : s[k] = 122 ∧ n = 0
            · obtain ⟨hc, rfl⟩ := hz
              obtain ⟨rfl, rfl⟩ := HNIL.out rfl
              have hg0 : g = [] := List.eq_nil_of_length_eq_zero HN.out
              have hr0 := HRR.out
              rw [hg0, hc, ey_z, if_neg (by omega)] at hr0
              replace HRR := Lib.hid hr0
              have hv : (s[k].toNat : Int) = 122 := by rw [hc]; rfl
              have hkk2 := HKK.out
              rw [hv] at hkk2
              replace HKK := Lib.hid hkk2
              clear hr0 hg0 hc hc255 hkk2 v126
              go_wp2_with (go_at_call 41; refine (HKK.out _).mono ?_; rintro e_ w_ ⟨rfl, rfl⟩)
              refine (rgroup_any T b [33, 33, 33, 33, 33] _ 5 5 4 wo _ rfl (by omega) (by omega) (by omega) (by omega) HTW.out (balloc (Below.refl _ _) _) (ownG_zeros wo) (by decide) (by omega)).mono ?_
              rintro e_ w1 ⟨rfl, hb1, ⟨_, hr1⟩ | ⟨h9, _⟩⟩
              · have q2 := hr1.cell1
                have HR1 := Lib.hid (show RK w1 T (b ++ [0, 0, 0, 0]) 0 from hr1)
                have HB1 := Lib.hid ((HBT.out.alloc (Nat.le_of_lt HTL.out) _).trans hb1)
                clear hr1 hb1 q1 f1
                go_wp2_with fail
                go_roundw
                case rel => exact ⟨k + 1, by omega, by go_num, HB1, Lib.hid (.inl ⟨0, b ++ [0, 0, 0, 0], [], none, 0, w1, rfl, by omega, by simp; omega, rfl, HR1.out, Below.refl _ _, OwnG.none_ _ _, fun j h => absurd h (by simp), fun _ => ⟨rfl, rfl⟩, HRR.out⟩)⟩
                case measure => simp [intOf]; omega
              · exact absurd h9 (by decide)
            · have HZ := Lib.hid (show ¬ (s[k] = 122 ∧ g = []) by
                rintro ⟨h1, h2⟩
                have := HN.out
                rw [h2] at this
                exact hz ⟨h1, this.symm⟩)
              by_cases hr : 33 ≤ (s[k].toNat : Int) ∧ (s[k].toNat : Int) ≤ 117
              · obtain ⟨r0, r1⟩ := hr
                have v122 : ((s[k].toNat : Int) == 122) = false := by rw [beq_eq_false_iff_ne]; omega
                have HSTP := Lib.hid (ey_more s[k] (s.data.toList.drop (k + 1)) g b k HKB.out r0 r1)
                have hsw := HB.out.size
                have HSN := Lib.hid (getD_snoc HD.out r0)
                clear hz
                go_wp2_with (first | (go_at_call 41; refine (HKK.out _).mono ?_; rintro e_ w_ ⟨rfl, rfl⟩) | (at_builtin; refine HeldQ.of ?_))
                unfold HeldQ
                refine wpList_append_any _ rfl (.tmp 24) (.tmp 28) 63 rfl w0.heap.size 3 i0 (.int .i64 0) 1 8 Try.underlying63 hi hz0 hz1 hz2 rfl (by omega) (.slice A n c) g.length (numV g) rfl (HO.out.below (balloc (Below.refl _ _) _)) _ (some ⟨wo.heap.size, 0, none⟩) 1 1 (numV [s[k]]) rfl (num_reads _ _ s[k] rfl) (numV_one _) (by simp [maxLen, HN.out]; omega) (by simp [HN.out]; omega) (by simp; omega) ?_
                intro v' w1 hown' hg _
                have ho1 : OwnG w1 w0.heap.size v' (g ++ [s[k]]) := OwnG.push hown'
                have hbl1 : Below w0.heap.size wo w1 := ((Below.refl w0.heap.size wo).alloc hsw _).grown hg (by simp; omega) (fun k e => (HO.out.ge k e).1)
                obtain ⟨A2, c2, rfl, hc2, _, _⟩ := ho1.form
                have hlen : (g ++ [s[k]]).length = n + 1 := by rw [List.length_append, HN.out]; rfl
                rw [hlen] at ho1
                rw [hlen]
                have HO1 := Lib.hid ho1
                have HB1 := Lib.hid (HB.out.trans hbl1)
                have HBT1 := Lib.hid (HBT.out.trans (hbl1.mono (Nat.le_of_lt HT.out.lt)))
                have HLEN := Lib.hid hlen
                clear ho1 hbl1 hc2 hlen hown' hg
                by_cases hn3 : n < 4
                · have d5 : ((n : Int) + 1 == 5) = false := by rw [beq_eq_false_iff_ne]; omega
                  go_wp2_with fail
                  go_roundw
                  case rel => exact ⟨k + 1, by omega, by go_num, HBT1, Lib.hid (.inl ⟨n + 1, b, g ++ [s[k]], A2, c2, w0, rfl, by omega, by omega, HLEN.out, HT.out, HB1.out, HO1.out, HSN.out, fun h => absurd h (by omega), by rw [HRR.out, HSTP.out, if_pos (by rw [HN.out]; exact hn3)]⟩)⟩
                  case measure => simp [intOf]; omega
                · obtain rfl : n = 4 := by omega
                  have HFL := Lib.hid (show fill (g ++ [s[k]]) = g ++ [s[k]] by unfold fill; rw [HLEN.out]; simp)
                  go_wp2_with fail
                  refine (rgroup_any T b (g ++ [s[k]]) A2 5 c2 4 w0 _ HLEN.out (by omega) (by omega) (by omega) (by omega) HT.out HB1.out HO1.out HSN.out (by omega)).mono ?_
                  rw [HFL.out]
                  rintro e_ w2 ⟨rfl, hb2, ⟨h9, hr1⟩ | ⟨h9, hr1⟩⟩
                  · have q2 := hr1.cell1
                    have HR1 := Lib.hid (show RK w2 T (b ++ bytes4 (number (g ++ [s[k]]))) 0 from hr1)
                    have HB2 := Lib.hid (HBT1.out.trans hb2)
                    have H9 := Lib.hid h9
                    clear hr1 hb2 q1 f1 h9
                    go_wp2_with fail
                    go_roundw
                    case rel => exact ⟨k + 1, by omega, by go_num, HB2, Lib.hid (.inl ⟨0, b ++ bytes4 (number (g ++ [s[k]])), [], none, 0, w2, rfl, by omega, by simp [bytes4]; omega, rfl, HR1.out, Below.refl _ _, OwnG.none_ _ _, fun j h => absurd h (by simp), fun _ => ⟨rfl, rfl⟩, by rw [HRR.out, HSTP.out, if_neg (by rw [HN.out]; omega), if_neg (by have := H9.out; omega), if_neg (by omega)]⟩)⟩
                    case measure => simp [intOf]; omega
                  · have HR1 := Lib.hid hr1
                    have HB2 := Lib.hid (HBT1.out.trans hb2)
                    have H9 := Lib.hid h9
                    clear hr1 hb2 q1 f1 h9
                    go_wp2_with fail
                    go_roundw
                    case rel => exact ⟨k + 1, by omega, by go_num, HB2, Lib.hid (.inr ⟨b, HR1.out, by rw [HRR.out, HSTP.out, if_neg (by rw [HN.out]; omega), if_pos (by have := H9.out; omega)]⟩)⟩
                    case measure => simp [intOf]; omega
              · have HRX := Lib.hid (show (s[k].toNat : Int) < 33 ∨ 117 < (s[k].toNat : Int) by omega)
                have HZ2 := Lib.hid hz
                have hr0 := HRR.out
                rw [ey_bad _ _ _ _ _ HKB.out HC126.out HZ.out HRX.out] at hr0
                replace HRR := Lib.hid hr0
                clear hz hr0
                by_cases hz1 : s[k] = 122
                · have hc := hz1
                  clear hz1
                  have hv : (s[k].toNat : Int) = 122 := by rw [hc]; rfl
                  have dn : ((n : Int) == 0) = false := by
                    rw [beq_eq_false_iff_ne]
                    exact fun e => HZ2.out ⟨hc, by omega⟩
                  have hkk2 := HKK.out
                  rw [hv] at hkk2
                  replace HKK := Lib.hid hkk2
                  clear hc hc255 hkk2 v126 hr
                  go_wp2_with (go_at_call 41; refine (HKK.out _).mono ?_; rintro e_ w_ ⟨rfl, rfl⟩)
                  go_roundw
                  case rel => exact ⟨k + 1, by omega, by go_num, Lib.hid (HBT.out.setCell (p := ⟨T, 1, none⟩) (Nat.le_refl T) _), Lib.hid (.inr ⟨b, HTW.out.seterr 3, HRR.out⟩)⟩
                  case measure => simp [intOf]; omega
                · have v122 : ((s[k].toNat : Int) == 122) = false := by rw [beq_eq_false_iff_ne]; exact fun e => hz1 ((u8e _ 122).2 e)
                  clear hz1
                  by_cases r0 : 33 ≤ (s[k].toNat : Int)
                  · have r1 : 117 < (s[k].toNat : Int) := by omega
                    clear hr
                    go_wp2_with (go_at_call 41; refine (HKK.out _).mono ?_; rintro e_ w_ ⟨rfl, rfl⟩)
                    go_roundw
                    case rel => exact ⟨k + 1, by omega, by go_num, Lib.hid (HBT.out.setCell (p := ⟨T, 1, none⟩) (Nat.le_refl T) _), Lib.hid (.inr ⟨b, HTW.out.seterr 3, HRR.out⟩)⟩
                    case measure => simp [intOf]; omega
                  · have r1 : (s[k].toNat : Int) < 33 := by omega
                    clear hr r0
                    go_wp2_with (go_at_call 41; refine (HKK.out _).mono ?_; rintro e_ w_ ⟨rfl, rfl⟩)
                    go_roundw
                    case rel => exact ⟨k + 1, by omega, by go_num, Lib.hid (HBT.out.setCell (p := ⟨T, 1, none⟩) (Nat.le_refl T) _), Lib.hid (.inr ⟨b, HTW.out.seterr 3, HRR.out⟩)⟩
                    case measure => simp [intOf]; omega
      · obtain rfl : k = s.size := by omega
        have HE := Lib.hid (dropE s s.size (Nat.le_refl _))
        go_wp2_with fail
        go_ret
        exact RPost.no (HBT.out.setCell (p := ⟨T, 1, none⟩) (Nat.le_refl T) _) (HTW.out.seterr 4) (by decide) (by rw [HRR.out, HE.out]; rfl)
    · have HT := Lib.hid hT
      have HRR := Lib.hid hRR
      have q1 := HT.out.cell1
      clear hT hRR HST
      by_cases hlt : k < s.size
      · go_wp2_with fail
        go_ret
        exact RPost.no HBT.out HT.out (by decide) HRR.out
      · obtain rfl : k = s.size := by omega
        go_wp2_with fail
        go_ret
        exact RPost.no HBT.out HT.out (by decide) HRR.out

set_option maxRecDepth 100000 in
set_option maxHeartbeats 3200000 in
theorem rtake_any (s : ByteArray) (w : World) (hs : s.size ≤ 600) :
    Calls Try.prog 11 #[.string s] w (TakePost (takeL s.data.toList) w) := by
  have hT := RK.new w
  have hb0 : Below w.heap.size w (w.alloc (.cells #[.slice none 0 0, .int .i64 0] 46)) := balloc (Below.refl _ _) _
  have HT := Lib.hid hT
  have HB := Lib.hid hb0
  clear hT hb0
  obtain ⟨R, hR⟩ : ∃ R, takeL s.data.toList = R := ⟨_, rfl⟩
  rw [hR]
  have HR := Lib.hid hR
  clear hR
  by_cases h0 : s.size = 0
  · have hl : s = { data := #[] } := by
      obtain ⟨d⟩ := s
      have : d = #[] := by
        apply Array.eq_empty_of_size_eq_zero
        exact h0
      rw [this]
    subst hl
    clear h0 hs
    go_enter Try.func11, Try.ntmps11
    go_wp2_with fail
    go_quiet (fail)
    go_wp2_with fail
    go_ret3
    exact TakePost.mk [] rfl (by rw [← HR.out]; rfl) (by first | exact below_drewN (balloc (Below.refl _ _) _) _ | exact Below.drew (balloc (Below.refl _ _) _))
  · have hlt : 0 < s.size := by omega
    have hd := dropS s 0 hlt
    simp only [List.drop_zero, Nat.zero_add] at hd
    have HD := Lib.hid hd
    have ne1 : ¬ s.toList = [] := by
      rw [ByteArray.toList_eq, hd]; simp
    have ne2 : (!s.toList.isEmpty) = true := by
      rw [ByteArray.toList_eq, hd]; rfl
    have hlen : s.data.toList.length = s.size := by simp
    have HLN := Lib.hid hlen
    clear hd h0 hlen
    by_cases h40 : s[0] = 40
    · have hv : (s[0].toNat : Int) = 40 := by rw [h40]; rfl
      have HTL := Lib.hid (show takeL s.data.toList = parenR s.size (s.data.toList.drop 1) 1 [] 1 by
        rw [takeL, if_pos (by rw [HD.out, h40]; rfl), HLN.out])
      clear h40
      go_enter Try.func11, Try.ntmps11
      go_wp2_with fail
      refine (rparen_any s w.heap.size _ hs hlt HT.out).mono ?_
      rintro e_ w1 ⟨hb1, b, n, er, rfl, ht1, ⟨rfl, hR1⟩ | ⟨hne1, hR1⟩⟩
      · obtain ⟨A, c, q0, hlb⟩ := ht1.cell0
        have q1 := ht1.cell1
        have hcv := hlb.str
        have HR1 := Lib.hid hR1
        have HB1 := Lib.hid (HB.out.trans hb1)
        clear hR1 hb1 ht1 hlb
        go_wp2_with fail
        go_ret3
        exact TakePost.mk b rfl (by rw [← HR.out, HTL.out, HR1.out]) HB1.out
      · have q1 := ht1.cell1
        have hq : (er != 0) = true := by simpa using hne1
        have HR1 := Lib.hid hR1
        have HB1 := Lib.hid (HB.out.trans hb1)
        clear hR1 hb1 ht1 hne1
        go_wp2_with fail
        go_quiet (fail)
        go_wp2_with fail
        go_ret3
        exact TakePost.mk [] rfl (by rw [← HR.out, HTL.out, HR1.out]; rfl) (by first | exact below_drewN HB1.out _ | exact Below.drew HB1.out | exact HB1.out)
    · have v40 : ((s[0].toNat : Int) == 40) = false := by rw [beq_eq_false_iff_ne]; exact fun e => h40 ((u8e _ 40).2 e)
      have HN40 := Lib.hid (show ¬ s.data.toList.head? = some 40 by rw [HD.out]; simpa using h40)
      clear h40
      by_cases h60 : s[0] = 60
      · have hv : (s[0].toNat : Int) = 60 := by rw [h60]; rfl
        have H60 := Lib.hid (show s.data.toList.head? = some 60 by rw [HD.out, h60]; rfl)
        clear h60 v40
        by_cases hl1 : 1 < s.size
        · have hd1 := dropS s 1 hl1
          have HD1 := Lib.hid hd1
          have dl : decide ((1 : Int) < (s.size : Int)) = true := by simp; omega
          clear hd1
          by_cases h126 : s[1] = 126
          · have hv1 : (s[1].toNat : Int) = 126 := by rw [h126]; rfl
            have HTL := Lib.hid (show takeL s.data.toList = eightyR (s.data.toList.drop 2) [] [] 2 by
              rw [takeL, if_neg HN40.out, if_pos ⟨H60.out, by rw [HD1.out, h126]; rfl⟩])
            clear h126
            go_enter Try.func11, Try.ntmps11
            go_wp2_with fail
            refine (reighty_any s w.heap.size _ hs (by omega) HT.out).mono ?_
            rintro e_ w1 ⟨hb1, b, n, er, rfl, ht1, ⟨rfl, hR1⟩ | ⟨hne1, hR1⟩⟩
            · obtain ⟨A, c, q0, hlb⟩ := ht1.cell0
              have q1 := ht1.cell1
              have hcv := hlb.str
              have HR1 := Lib.hid hR1
              have HB1 := Lib.hid (HB.out.trans hb1)
              clear hR1 hb1 ht1 hlb
              go_wp2_with fail
              go_ret3
              exact TakePost.mk b rfl (by rw [← HR.out, HTL.out, HR1.out]) HB1.out
            · have q1 := ht1.cell1
              have hq : (er != 0) = true := by simpa using hne1
              have HR1 := Lib.hid hR1
              have HB1 := Lib.hid (HB.out.trans hb1)
              clear hR1 hb1 ht1 hne1
              go_wp2_with fail
              go_quiet (fail)
              go_wp2_with fail
              go_ret3
              exact TakePost.mk [] rfl (by rw [← HR.out, HTL.out, HR1.out]; rfl) (by first | exact below_drewN HB1.out _ | exact Below.drew HB1.out | exact HB1.out)
          · have v126 : ((s[1].toNat : Int) == 126) = false := by rw [beq_eq_false_iff_ne]; exact fun e => h126 ((u8e _ 126).2 e)
            have HTL := Lib.hid (show takeL s.data.toList = hexR (s.data.toList.drop 1) (-1) [] 1 by
              rw [takeL, if_neg HN40.out, if_neg (by rw [HD1.out]; rintro ⟨_, h⟩; exact h126 (by simpa using h)), if_pos H60.out])
            clear h126
            go_enter Try.func11, Try.ntmps11
            go_wp2_with fail
            refine (rhex_any s w.heap.size _ hs hlt HT.out).mono ?_
            rintro e_ w1 ⟨hb1, b, n, er, rfl, ht1, ⟨rfl, hR1⟩ | ⟨hne1, hR1⟩⟩
            · obtain ⟨A, c, q0, hlb⟩ := ht1.cell0
              have q1 := ht1.cell1
              have hcv := hlb.str
              have HR1 := Lib.hid hR1
              have HB1 := Lib.hid (HB.out.trans hb1)
              clear hR1 hb1 ht1 hlb
              go_wp2_with fail
              go_ret3
              exact TakePost.mk b rfl (by rw [← HR.out, HTL.out, HR1.out]) HB1.out
            · have q1 := ht1.cell1
              have hq : (er != 0) = true := by simpa using hne1
              have HR1 := Lib.hid hR1
              have HB1 := Lib.hid (HB.out.trans hb1)
              clear hR1 hb1 ht1 hne1
              go_wp2_with fail
              go_quiet (fail)
              go_wp2_with fail
              go_ret3
              exact TakePost.mk [] rfl (by rw [← HR.out, HTL.out, HR1.out]; rfl) (by first | exact below_drewN HB1.out _ | exact Below.drew HB1.out | exact HB1.out)
        · have dl : decide ((1 : Int) < (s.size : Int)) = false := by simp; omega
          have HTL := Lib.hid (show takeL s.data.toList = hexR (s.data.toList.drop 1) (-1) [] 1 by
            rw [takeL, if_neg HN40.out, if_neg (by rw [dropE s 1 (by omega)]; simp), if_pos H60.out])
          go_enter Try.func11, Try.ntmps11
          go_wp2_with fail
          refine (rhex_any s w.heap.size _ hs hlt HT.out).mono ?_
          rintro e_ w1 ⟨hb1, b, n, er, rfl, ht1, ⟨rfl, hR1⟩ | ⟨hne1, hR1⟩⟩
          · obtain ⟨A, c, q0, hlb⟩ := ht1.cell0
            have q1 := ht1.cell1
            have hcv := hlb.str
            have HR1 := Lib.hid hR1
            have HB1 := Lib.hid (HB.out.trans hb1)
            clear hR1 hb1 ht1 hlb
            go_wp2_with fail
            go_ret3
            exact TakePost.mk b rfl (by rw [← HR.out, HTL.out, HR1.out]) HB1.out
          · have q1 := ht1.cell1
            have hq : (er != 0) = true := by simpa using hne1
            have HR1 := Lib.hid hR1
            have HB1 := Lib.hid (HB.out.trans hb1)
            clear hR1 hb1 ht1 hne1
            go_wp2_with fail
            go_quiet (fail)
            go_wp2_with fail
            go_ret3
            exact TakePost.mk [] rfl (by rw [← HR.out, HTL.out, HR1.out]; rfl) (by first | exact below_drewN HB1.out _ | exact Below.drew HB1.out | exact HB1.out)
      · have v60 : ((s[0].toNat : Int) == 60) = false := by rw [beq_eq_false_iff_ne]; exact fun e => h60 ((u8e _ 60).2 e)
        have HTL := Lib.hid (show takeL s.data.toList = bad 3 by
          have e : ¬ s.data.toList.head? = some 60 := by rw [HD.out]; simpa using h60
          rw [takeL, if_neg HN40.out, if_neg (fun h => e h.1), if_neg e])
        clear h60
        by_cases hl1 : 1 < s.size
        · have dl : decide ((1 : Int) < (s.size : Int)) = true := by simp; omega
          go_enter Try.func11, Try.ntmps11
          go_wp2_with fail
          go_quiet (fail)
          go_wp2_with fail
          go_ret3
          exact TakePost.mk [] rfl (by rw [← HR.out, HTL.out]; rfl) (by first | exact below_drewN (balloc (Below.refl _ _) _) _ | exact Below.drew (balloc (Below.refl _ _) _))
        · have dl : decide ((1 : Int) < (s.size : Int)) = false := by simp; omega
          go_enter Try.func11, Try.ntmps11
          go_wp2_with fail
          go_quiet (fail)
          go_wp2_with fail
          go_ret3
          exact TakePost.mk [] rfl (by rw [← HR.out, HTL.out]; rfl) (by first | exact below_drewN (balloc (Below.refl _ _) _) _ | exact Below.drew (balloc (Below.refl _ _) _))
end Go.Proofs.Ytdonjnngohmknaa.qt
