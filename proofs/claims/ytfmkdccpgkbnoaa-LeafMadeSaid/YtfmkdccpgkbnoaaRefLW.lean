/-
  Layer 39's reference: a row of the form 0, a row of the form 1.
-/
import Derived.Test.YtfmkdccpgkbnoaaRefLP
import Derived.Test.YtfmkdccpgkbnoaaLeafRowA
import Derived.Test.YtfmkdccpgkbnoaaUpTail
namespace Go.Proofs.Ytfmkdccpgkbnoaa.lr
set_option linter.unusedVariables false
set_option linter.unusedSimpArgs false
open Go.RowKit bs rg
open lf (S tkV tkS wt failS hd tkV_len OwnB LB putL headL encs encRow runsB runsB_len rle pxs px enc enc_len pxs_len rle_len rowOf Held vals vals_one plainL rowedL runsL runOk rep rep_len rep_snoc wt_ok tkS_ok wt_false runs_next RdB bytes_eq ofNat_toNat)

theorem St.row {N base : Nat} {w w' : World} {g : Nat} {s : S} {row : Option Nat} (h : St N w g s) (hw : w.grownBy w' row) (hr : ∀ j, row = some j → base ≤ j) (hg : g < base) (hN : N ≤ base) : St N w' g s := by
  obtain ⟨A, n, c, h1, h2, h3, h4⟩ := h
  refine ⟨A, n, c, h1.grown hw (fun e => ?_), ?_, h3, h4⟩
  · have := hr g e.symm; omega
  · rcases Nat.eq_zero_or_pos n with h0 | h0
    · exact ⟨h2.1, h2.2.1, fun h => absurd h (by omega)⟩
    · exact lf.Bytes.row h2 hw (fun a ha e => by have := hr _ e.symm; have := h4 h0 a ha; omega)

set_option maxRecDepth 100000 in
set_option maxHeartbeats 1600000 in
theorem plain_any {N : Nat} (g W : Nat) (s1 : S) (w : World) (h : St N w g s1) (hW : 1 ≤ W ∧ W ≤ 64) :
    Calls Try.prog 41 #[.pointer (some ⟨g, 0, none⟩), .int .i64 (W : Int)] w fun en w' => ∃ A c, en = .returned (.slice A (3 * W) c) ∧ Bytes w' A (3 * W) c (plainL W s1).1 ∧ St N w' g (plainL W s1).2 ∧ w.grownBy w' (some g) := by
  have HS2 := Lib.hid h
  clear h
  obtain ⟨hW0, hW1⟩ := hW
  obtain ⟨r, hr⟩ : ∃ r, 3 * W = r := ⟨_, rfl⟩
  obtain ⟨row, hrow⟩ : ∃ row, tkV r s1 = row := ⟨_, rfl⟩
  obtain ⟨q, hq⟩ : ∃ q, (enc (rle (pxs row 0 W))).length = q := ⟨_, rfl⟩
  have hql : q ≤ 300 := by
    have h2 := rle_len (pxs row 0 W)
    rw [pxs_len] at h2
    rw [enc_len] at hq
    omega
  have hP : plainL W s1 = (row, wt (decide (1 + r ≤ 2 + q)) (tkS r s1)) := by unfold plainL; rw [hr, hrow, runsB_len, ← hq, enc_len]
  rw [hP, hr]
  have e0 : 3 * (W : Int) = (r : Int) := by omega
  have hr192 : 1 ≤ r ∧ r ≤ 192 := by omega
  have hqd : decide (1 + r ≤ 2 + q) = decide (1 + (r : Int) ≤ 2 + (q : Int)) := by simp; omega
  have HRR := Lib.hid hr
  have HQD := Lib.hid hqd
  have HQ := Lib.hid hq
  clear hr hP hqd hq
  go_enter Try.func41, Try.ntmps41
  go_wp2_with (first | (go_at_call 38; refine (next_any g r _ _ HS2.out (by omega)).mono ?_; rintro e w3 ⟨A3, c3, rfl, hb3, hs3, hg3, _⟩; rw [hrow] at hb3; have HB3 := Lib.hid hb3; have HS3 := Lib.hid hs3; have HG3 := Lib.hid hg3; clear hb3 hs3 hg3) | (go_at_call 32; refine (rruns_any W r c3 A3 row _ (by have := HRR.out; omega) hW1 HB3.out).mono ?_; rintro e w4 ⟨v4, rfl, hv4, hbw4⟩; obtain ⟨A4, c4, rfl, _⟩ := lf.OwnB.lbn hv4 HQ.out; have HB4 := Lib.hid (HB3.out.below hbw4); have HS4 := Lib.hid (HS3.out.below hbw4); have HG4 := Lib.hid (only_of_below hbw4 (some g)); clear hv4 hbw4) | (go_at_call 39; refine (must_any g _ _ _ HS4.out).mono ?_; rintro e w5 ⟨rfl, hs5, hg5⟩; have HS5 := Lib.hid hs5; have HG5 := Lib.hid hg5; clear hs5 hg5))
  go_ret
  refine ⟨_, _, rfl, HS4.out.only_bytes HB4.out HG5.out, ?_, (HG3.out.trans HG4.out).trans HG5.out⟩
  rw [HQD.out]
  exact HS5.out

/-- ahead of run i -/
def ROAt (N : Nat) (w : World) (g W : Nat) (tot : List UInt8 × S) (n i : Nat) (row last : List UInt8) (s : S) (rv : Value) (wr : World) : Prop :=
  runsL W (n - i) row last s = tot ∧ row.length ≤ 3 * W ∧ row.length % 3 = 0 ∧ (s.2 = 0 → (row = [] ∧ last = []) ∨ ∃ r0, row = r0 ++ last ∧ last.length = 3) ∧ OwnB wr w.heap.size rv row ∧ St N wr g s ∧ w.grownBy wr (some g)
/-- within a run -/
def InAt (N : Nat) (w : World) (g b o c : Nat) (row x : List UInt8) (k : Nat) (st : S) (rv : Value) (wr : World) : Prop :=
  OwnB wr w.heap.size rv (row ++ rep (x.drop 1) k) ∧ St N wr g st ∧ Bytes wr (some ⟨b, o, none⟩) 4 c x ∧ w.grownBy wr (some g) ∧ (st.2 ≠ 0 → k = 0)
theorem rep_last (y : List UInt8) (row : List UInt8) (k : Nat) : row ++ rep y (k + 1) = (row ++ rep y k) ++ y := by rw [rep_snoc, List.append_assoc]

set_option maxRecDepth 100000 in
set_option maxHeartbeats 3200000 in
theorem rowed_any {N : Nat} (g W : Nat) (s : S) (w : World) (h : St N w g s) (hNw : N ≤ w.heap.size) (hW : 1 ≤ W ∧ W ≤ 64) :
    Calls Try.prog 42 #[.pointer (some ⟨g, 0, none⟩), .int .i64 (W : Int)] w fun en w' => ∃ v, en = .returned v ∧ RdB w' v (rowedL W s).1 ∧ St N w' g (rowedL W s).2 ∧ w.grownBy w' (some g) := by
  have hgw := h.lt
  have HS := Lib.hid h
  clear h
  obtain ⟨hW0, hW1⟩ := hW
  obtain ⟨r, hr⟩ : ∃ r, 3 * W = r := ⟨_, rfl⟩
  have e0 : 3 * (W : Int) = (r : Int) := by omega
  have hr192 : 1 ≤ r ∧ r ≤ 192 := by omega
  obtain ⟨n, hn⟩ : ∃ n, hd 1 s = n := ⟨_, rfl⟩
  have hni : (((tkV 1 s).getD 0 0).toNat : Int) = (n : Int) := by rw [← hn]; rfl
  have hn255 : n ≤ 255 := by have := ((tkV 1 s).getD 0 0).toNat_lt; rw [← hn]; unfold hd; omega
  obtain ⟨s2, hs2⟩ : ∃ s2, wt (decide (0 < n) && decide (2 + 4 * n < 1 + r)) (tkS 1 s) = s2 := ⟨_, rfl⟩
  obtain ⟨tot, htot⟩ : ∃ t, runsL W n [] [] s2 = t := ⟨_, rfl⟩
  have hR : rowedL W s = (tot.1, wt (decide (tot.1.length = r)) tot.2) := by unfold rowedL; simp only [hn, hr, hs2, htot]
  rw [hR]
  have HRR := Lib.hid hr
  have HTOT := Lib.hid htot
  clear hr htot hR hn
  obtain ⟨i0, hi, hz0, hz1, hz2⟩ := info_parts (show (Try.prog.info? 5).map (fun i => (i.zero, i.size, i.bytes)) = some (some (.int .u8 0), 1, 1) by kernel_rfl)
  go_enter Try.func42, Try.ntmps42
  by_cases hn0 : 0 < n
  · have hpp : (decide (0 < n) && decide (2 + 4 * n < 1 + r)) = decide (2 + 4 * (n : Int) < 1 + (r : Int)) := by simp [hn0]; omega
    go_wp2_with (first | (go_at_call 38; refine (next_any g 1 _ _ HS.out (by omega)).mono ?_; rintro e w3 ⟨A3, c3, rfl, hb3, hs3, hg3, _⟩; obtain ⟨b3, o3, rfl, hlt3, hc3⟩ := hb3.at_ (by omega); have c0 := hc3 0 (by omega); simp only [Nat.add_zero] at c0; rw [hni] at c0; have HS3 := Lib.hid hs3; have HG3 := Lib.hid hg3; clear hb3 hs3 hg3 hc3) | (go_at_call 39; refine (must_any g (decide (2 + 4 * (n : Int) < 1 + (r : Int))) _ _ HS3.out).mono ?_; rintro e w4 ⟨rfl, hs4, hg4⟩; have HS4 := Lib.hid hs4; have HG4 := Lib.hid hg4; clear hs4 hg4))
    have HS4b := Lib.hid (show St N w4 g s2 by rw [← hs2, hpp]; exact HS4.out)
    have HG := Lib.hid (HG3.out.trans HG4.out)
    clear HS4 HS3 HG3 HG4 c0 hs2 hni
    go_loopw [6, 7] (fun rv iv wr => ∃ (i : Nat) (row last : List UInt8) (s : S), i ≤ n ∧ iv = .int .i64 (i : Int) ∧ Hid (ROAt N w g W tot n i row last s rv wr)) (fun _ iv _ => 255 - (intOf iv).toNat)
    case atStart => exact ⟨0, [], [], s2, Nat.zero_le _, rfl, Lib.hid ⟨HTOT.out, Nat.zero_le _, rfl, fun _ => .inl ⟨rfl, rfl⟩, lf.OwnB.none_ _ _, HS4b.out, HG.out⟩⟩
    case round =>
      obtain ⟨i, row, last, st, him, rfl, hR⟩ := hrel
      obtain ⟨wo, rfl⟩ : ∃ wo, wo = wr := ⟨_, rfl⟩
      obtain ⟨hT, hrl, hr3, hla, hO, hSt, hGr⟩ := hR.out
      obtain ⟨A6, n6, c6, hbx, _, _⟩ := id hSt
      have k1 := hbx.cell 1
      simp only [List.getElem?_toArray, List.getElem?_cons_succ, List.getElem?_cons_zero] at k1
      obtain ⟨ec, hec⟩ : ∃ e, st.2 = e := ⟨_, rfl⟩
      rw [hec] at k1
      have hrl2 : row.length ≤ r := by have := HRR.out; omega
      have HT := Lib.hid hT
      have HO := Lib.hid hO
      have HLA := Lib.hid hla
      have HST := Lib.hid hSt
      have HGR := Lib.hid hGr
      have HEC := Lib.hid hec
      have HR3 := Lib.hid hr3
      clear hT hO hla hSt hGr hbx hec hR hr3 hrl
      by_cases hm0 : i = n
      · subst hm0
        have hin : decide ((i : Int) < (i : Int)) = false := by simp
        obtain ⟨A9, c9, rfl, hb9, _⟩ := lf.OwnB.bytes HO.out
        have HB9 := Lib.hid hb9
        clear hb9
        go_wp2_with (go_at_call 39; refine (must_any g (decide ((row.length : Int) = (r : Int))) _ _ HST.out).mono ?_; rintro e w9 ⟨rfl, hs9, hg9⟩; have HS9 := Lib.hid hs9; have HG9 := Lib.hid hg9; clear hs9 hg9)
        go_ret
        have hTT : tot = (row, st) := by rw [← HT.out]; rw [Nat.sub_self]; rfl
        rw [hTT]
        refine ⟨_, rfl, ⟨A9, c9, rfl, HST.out.only_bytes HB9.out HG9.out⟩, ?_, HGR.out.trans HG9.out⟩
        have hq : decide (row.length = r) = decide ((row.length : Int) = (r : Int)) := by simp; omega
        simp only [hq]
        exact HS9.out
      · have hm1 : i < n := by omega
        by_cases he0 : ec = 0
        · subst he0
          obtain ⟨x, hx⟩ : ∃ x, tkV 4 st = x := ⟨_, rfl⟩
          have hxl : x.length = 4 := by rw [← hx, tkV_len]
          obtain ⟨x0, hx0⟩ : ∃ x0, (x.getD 0 0).toNat = x0 := ⟨_, rfl⟩
          have hx255 : x0 ≤ 255 := by have := (x.getD 0 0).toNat_lt; omega
          have hxi : (((tkV 4 st).getD 0 0).toNat : Int) = (x0 : Int) := by rw [hx, hx0]
          obtain ⟨lr, hlr⟩ : ∃ lr, row.length = lr := ⟨_, rfl⟩
          obtain ⟨A9, c9, rfl, hb9⟩ := lf.OwnB.lbn HO.out hlr
          have HA9 := Lib.hid (show lr = 0 ∨ ∃ g9, A9 = some ⟨g9, 0, none⟩ ∧ w.heap.size ≤ g9 from by
            rcases Nat.eq_zero_or_pos lr with h | h
            · exact .inl h
            · obtain ⟨g9, c8, e8, h8, _⟩ := lf.OwnB.slot HO.out hlr h
              injection e8 with e9
              exact .inr ⟨g9, e9, h8⟩)
          clear hb9
          have hin : decide ((i : Int) < (n : Int)) = true := by simp; omega
          go_wp2_with (go_at_call 38; refine (next_any g 4 _ _ HST.out (by omega)).mono ?_; rintro e w5 ⟨A5, c5, rfl, hb5, hs5, hg5, hn5⟩; obtain ⟨b5, o5, rfl, hlt5, hc5⟩ := hb5.at_ (by omega); have c0 := hc5 0 (by omega); simp only [Nat.add_zero] at c0; rw [hxi] at c0; have hc54 := hb5.2.1; rw [hx] at hb5; have HB5 := Lib.hid hb5; have HS5 := Lib.hid hs5; have HG5 := Lib.hid hg5; have HN5 := Lib.hid hn5; clear hb5 hs5 hg5 hc5 hn5)
          clear k1 hxi
          have hc51 : ¬ c5 = 1 := by omega
          obtain ⟨y, hy⟩ : ∃ y, x.drop 1 = y := ⟨_, rfl⟩
          have hy3 : y.length = 3 := by rw [← hy]; simp; omega
          have HX := Lib.hid hx
          have HX0 := Lib.hid hx0
          have HYE := Lib.hid hy
          have HLR := Lib.hid hlr
          have HO5 := Lib.hid (lf.OwnB.grown HO.out HG5.out hgw)
          obtain ⟨kk, hkk⟩ : ∃ kk, lr = 3 * kk := ⟨lr / 3, by have := HR3.out; rw [hlr] at this; omega⟩
          have hquo : ((lr : Nat) : Int).tdiv 3 = (kk : Int) := by rw [Int.tdiv_eq_ediv_of_nonneg (by omega)]; omega
          have hquo2 : (lr : Int) / 3 = (kk : Int) := by omega
          rw [hlr] at hrl2
          have HKK := Lib.hid hkk
          have hkk64 : kk ≤ 64 := by omega
          have C0 : ∀ u : Up w5, u.val.cell? ⟨b5, o5, none⟩ = some (.int .u8 (x0 : Int)) := fun u => (u.cell hlt5).trans c0
          clear hx hx0 hy hlr hkk
          by_cases ht : lr + 3 * (x0 + 1) ≤ r
          · have ht1 : decide ((kk : Int) + (x0 : Int) + 1 ≤ (W : Int)) = true := by have := HKK.out; have := HRR.out; simp; omega
            by_cases hk0 : lr = 0
            · have hl0 : ((lr : Int) == 0) = true := by simp; omega
              have hok : runOk W row last x = true := by
                unfold runOk
                rw [HX0.out, HYE.out, HLR.out, HRR.out, decide_eq_true ht, Bool.true_and]
                rcases HLA.out HEC.out with ⟨_, h⟩ | ⟨r0, h, h3⟩
                · rw [h]; exact decide_eq_true (fun e => by rw [e] at hy3; simp at hy3)
                · have := HLR.out; rw [h, List.length_append, h3] at this; omega
              clear hk0
              go_wp2_with fail
              (refine wp_region_up_tail 26 (by kernel_rfl) (by kernel_rfl) ?_; simp only [List.take_succ_cons, List.take_zero, List.drop_succ_cons, List.drop_zero]; (repeat (go_big_quiet_step (fail))); refine wpQuiet_nil ?_; rintro _ ⟨uq, rfl⟩)
              have HB6 := Lib.hid uq.ok
              generalize hwx : uq.val = w6 at *
              clear hwx uq C0 c0
              have HS6 := Lib.hid (HS5.out.below HB6.out)
              obtain ⟨st1, hst1⟩ : ∃ z, wt true (tkS 4 st) = z := ⟨_, rfl⟩
              go_wp2_with (go_at_call 39; refine (must_any g true _ _ HS6.out).mono ?_; rintro e w7 ⟨rfl, hs7, hg7⟩; have HS7 := Lib.hid hs7; have HG7 := Lib.hid hg7; clear hs7 hg7)
              rw [hst1] at HS7
              have HST1 := Lib.hid hst1
              have HG57 := Lib.hid (((HG5.out.trans (only_of_below HB6.out _))).trans HG7.out)
              have HO7 := Lib.hid (lf.OwnB.grown HO.out HG57.out hgw)
              have HY7 := Lib.hid (HS6.out.only_bytes (HB5.out.below HB6.out) HG7.out)
              have HG07 := Lib.hid (HGR.out.trans HG57.out)
              obtain ⟨m', hm'⟩ : ∃ m', n - i = m' + 1 := ⟨n - i - 1, by omega⟩
              have HM := Lib.hid hm'
              have HNX := Lib.hid (runs_next (tot := tot) (by rw [← hm']; exact HT.out) HEC.out HX.out HYE.out HX0.out hok hst1)
              obtain ⟨e7, he7⟩ : ∃ e, st1.2 = e := ⟨_, rfl⟩
              have HE7 := Lib.hid he7
              clear hst1 hm' hok he7
              go_loopw [6, 10] (fun rv lv wr => ∃ k : Nat, k ≤ x0 + 1 ∧ lv = .int .i64 (k : Int) ∧ Hid (InAt N w g b5 o5 c5 row x k st1 rv wr)) (fun _ lv _ => 257 - (intOf lv).toNat)
              case atStart => exact ⟨0, Nat.zero_le _, by go_num, Lib.hid ⟨by have hz := HO7.out; simpa [rep] using hz, HS7.out, HY7.out, HG07.out, fun _ => rfl⟩⟩
              case round =>
                obtain ⟨k, hk, rfl, hI⟩ := hrel
                obtain ⟨wi, rfl⟩ : ∃ wi, wi = wr := ⟨_, rfl⟩
                obtain ⟨hO, hS, hYb, hG, hne⟩ := hI.out
                obtain ⟨A6, n6, c6, hbx, _, _⟩ := id hS
                have k1 := hbx.cell 1
                simp only [List.getElem?_toArray, List.getElem?_cons_succ, List.getElem?_cons_zero] at k1
                rw [HE7.out] at k1
                obtain ⟨b', o', hbe, _, hcx⟩ := hYb.at_ (by omega)
                cases hbe
                have cx := hcx 0 (by omega)
                rw [HX0.out, Nat.add_zero] at cx
                have hgi := hG.size
                have hIO := Lib.hid hO
                have hIS := Lib.hid hS
                have hIY := Lib.hid hYb
                have hIG := Lib.hid hG
                have hIN := Lib.hid hne
                clear hO hS hYb hG hne hbx hI hcx
                by_cases he1 : e7 = 0
                · subst he1
                  have he1 : st1.2 = 0 := HE7.out
                  have hfit : lr + 3 * (x0 + 1) ≤ r := ht
                  have hb5N : b5 < w.heap.size := Nat.lt_of_lt_of_le (HN5.out HEC.out (tkS_ok (wt_ok (by rw [HST1.out]; exact he1)).2).2 ⟨b5, o5, none⟩ rfl) hNw
                  by_cases hk0 : k = x0 + 1
                  · subst hk0
                    have hdk : decide (((x0 + 1 : Nat) : Int) ≤ (x0 : Int)) = false := by simp; omega
                    have HNX2 := Lib.hid (show runsL W m' (row ++ rep y (x0 + 1)) y st1 = tot by have := HNX.out; rw [if_pos he1] at this; exact this)
                    have HIO2 := Lib.hid (show OwnB wi w.heap.size _ (row ++ rep y (x0 + 1)) by have := hIO.out; rw [HYE.out] at this; exact this)
                    clear he1
                    go_wp2_with fail
                    go_roundw
                    case rel => exact ⟨i + 1, row ++ rep y (x0 + 1), y, st1, by omega, by go_num, Lib.hid ⟨by rw [show n - (i + 1) = m' by have := HM.out; omega]; exact HNX2.out, by rw [List.length_append, rep_len, hy3, HLR.out, HRR.out]; omega, by rw [List.length_append, rep_len, hy3, HLR.out]; have := HR3.out; rw [HLR.out] at this; omega, fun _ => .inr ⟨row ++ rep y x0, rep_last y row x0, hy3⟩, HIO2.out, hIS.out, hIG.out⟩⟩
                    case measure => simp [intOf]; omega
                  · have hdk : decide ((k : Int) ≤ (x0 : Int)) = true := by simp; omega
                    have hlen : (row ++ rep y k).length ≤ 2000 := by
                      rw [List.length_append, rep_len, hy3, HLR.out]
                      have : k * 3 ≤ 256 * 3 := Nat.mul_le_mul_right _ (by omega)
                      omega
                    clear he1
                    have hIO1 := hIO.out
                    rw [HYE.out] at hIO1
                    obtain ⟨ap, hap⟩ : ∃ ap, row ++ rep y k = ap := ⟨_, rfl⟩
                    rw [hap] at hlen hIO1
                    replace hIO := Lib.hid hIO1
                    have HAP := Lib.hid hap
                    have hIYc := Lib.hid (show Bytes wi (some ⟨b5, o5 + 1, none⟩) 3 (c5 - 1) y from by
                      have := lf.Bytes.cut hIY.out 1 4 (by omega) (by omega) b5 o5 rfl
                      rw [HYE.out, List.take_of_length_le (by omega)] at this
                      exact this)
                    clear hap hIO1
                    go_wp2_with (at_builtin; refine Held.of ?_)
                    unfold Held
                    refine wpList_append_any _ rfl (.tmp 87) (.tmp 89) 22 rfl w.heap.size 5 i0 (.int .u8 0) 1 1 Try.underlying22 hi hz0 hz1 hz2 rfl (by omega) u6 ap.length (vals ap) (by rfl) hIO.out _ (some ⟨b5, o5 + 1, none⟩) 3 (c5 - 1) (vals y) (by rfl) (lf.Bytes.reads hIYc.out) (vals_one _) (by simp [maxLen]; omega) (by omega) (by omega) ?_
                    intro v8 w8 hown8 hg8 _
                    have hO8 := Lib.hid (lf.OwnB.push (l := ap) (x := y) hown8 hy3.symm)
                    have hG8 := Lib.hid hg8
                    clear hown8 hg8
                    go_wp2_with fail
                    go_roundw
                    case rel =>
                      exact ⟨k + 1, by omega, by go_num, Lib.hid ⟨by
                        rw [HYE.out, rep_last, HAP.out]
                        exact hO8.out, hIS.out.row hG8.out (fun j e => (lf.OwnB.ge hIO.out j e).1) hgw hNw, lf.Bytes.row hIY.out hG8.out (fun a e f => by cases e; have := (lf.OwnB.ge hIO.out _ f.symm).1; exact absurd hb5N (by show ¬ b5 < w.heap.size; exact Nat.not_lt.2 this)), hIG.out.andThen hG8.out (fun j e => .inl (lf.OwnB.ge hIO.out j e).1), fun h => absurd HE7.out h⟩⟩
                    case measure => simp [intOf]; omega
                · have hkk : k = 0 := hIN.out (by rw [HE7.out]; exact he1)
                  subst hkk
                  have he2 : (e7 == 0) = false := by simpa using he1
                  have hdk : decide (((0 : Nat) : Int) ≤ (x0 : Int)) = true := by simp
                  have HNX2 := Lib.hid (show runsL W m' row y st1 = tot by have := HNX.out; rw [if_neg (by rw [HE7.out]; exact he1)] at this; exact this)
                  have HIO2 := Lib.hid (show OwnB wi w.heap.size _ row by have := hIO.out; simpa [rep] using this)
                  go_wp2_with fail
                  go_roundw
                  case rel => exact ⟨i + 1, row, y, st1, by omega, by go_num, Lib.hid ⟨by rw [show n - (i + 1) = m' by have := HM.out; omega]; exact HNX2.out, by rw [HLR.out]; have := HRR.out; omega, HR3.out, fun h => absurd h (by rw [HE7.out]; exact he1), HIO2.out, hIS.out, hIG.out⟩⟩
                  case measure => simp [intOf]; omega
            · have hl0 : ((lr : Int) == 0) = false := by simp; omega
              obtain ⟨g9, hA9, hg9⟩ : ∃ g9, A9 = some ⟨g9, 0, none⟩ ∧ w.heap.size ≤ g9 := by
                rcases HA9.out with h | h
                · exact absurd h hk0
                · exact h
              subst hA9
              obtain ⟨l3, hlr3⟩ : ∃ l3, lr = l3 + 3 := ⟨lr - 3, by have := HKK.out; omega⟩
              have hl3 : (lr : Int) - 3 = (l3 : Int) := by omega
              have hl3b : l3 ≤ lr := by omega
              have hl3c : (l3 : Int) ≤ (lr : Int) := by omega
              have hcap9 : lr ≤ c9 := by
                obtain ⟨A8, c8, e8, h8⟩ := lf.OwnB.lbn HO5.out HLR.out
                injection e8 with e1 e2 e3
                have := h8.1.2.1
                omega
              have HLS := Lib.hid (show row.drop l3 = last ∧ last.length = 3 from by
                rcases HLA.out HEC.out with ⟨h, _⟩ | ⟨r0, h, h3⟩
                · have := HLR.out; rw [h] at this; simp at this; omega
                · have hl := HLR.out
                  rw [h, List.length_append, h3] at hl
                  refine ⟨?_, h3⟩
                  rw [h, show l3 = r0.length by omega, List.drop_left])
              have HOB := Lib.hid (show Bytes w5 (some ⟨g9, 0, none⟩) lr c9 row from by
                obtain ⟨A8, c8, e8, h8⟩ := lf.OwnB.lbn HO5.out HLR.out
                injection e8 with e1 e2 e3
                subst e1; subst e3
                exact h8.1)
              obtain ⟨sx, hsx⟩ : ∃ s : ByteArray, ⟨y.toArray⟩ = s := ⟨_, rfl⟩
              obtain ⟨sl, hsl⟩ : ∃ s : ByteArray, ⟨last.toArray⟩ = s := ⟨_, rfl⟩
              have U1 : ∀ u : Up w5, (convert 22 9 (.slice (some ⟨b5, o5 + 1, none⟩) 3 (c5 - 1))).run Try.prog u.val = .ok (.string sx) u.val := fun u => by
                have h9 := lf.Bytes.cut (HB5.out.below u.ok) 1 4 (by omega) (by omega) b5 o5 rfl
                rw [HYE.out, List.take_of_length_le (by omega)] at h9
                rw [← hsx]; exact lf.Bytes.str h9
              have U2 : ∀ u : Up w5, (convert 22 9 (.slice (some ⟨g9, l3, none⟩) 3 (c9 - l3))).run Try.prog u.val = .ok (.string sl) u.val := fun u => by
                have h9 := lf.Bytes.cut (HOB.out.below u.ok) l3 lr (by omega) (by omega) g9 0 rfl
                rw [HLS.out.1, show lr - l3 = 3 by omega, List.take_of_length_le (by rw [HLS.out.2]; exact Nat.le_refl _), Nat.zero_add] at h9
                rw [← hsl]; exact lf.Bytes.str h9
              have hq : (sl.toList == sx.toList) = decide (last = y) := by rw [← hsx, ← hsl]; exact bytes_eq _ _
              have hs3 : lr - l3 = 3 := by omega
              have hc9 : ¬ c9 = l3 := by omega
              have hok : runOk W row last x = !decide (last = y) := by
                unfold runOk
                rw [HX0.out, HYE.out, HLR.out, HRR.out, decide_eq_true ht, Bool.true_and]
                by_cases e : y = last
                · subst e; simp
                · have e2 : ¬ last = y := fun h => e h.symm
                  simp [e, e2]
              have HK3 := Lib.hid hlr3
              clear hsx hsl hk0 hlr3
              obtain ⟨pb, hpb⟩ : ∃ pb, decide (last = y) = pb := ⟨_, rfl⟩
              rw [hpb] at hq hok
              clear hpb
              cases pb
              · go_wp2_with fail
                (refine wp_region_up_tail 26 (by kernel_rfl) (by kernel_rfl) ?_; simp only [List.take_succ_cons, List.take_zero, List.drop_succ_cons, List.drop_zero]; (repeat (go_big_quiet_step (fail))); refine wpQuiet_nil ?_; rintro _ ⟨uq, rfl⟩)
                have HB6 := Lib.hid uq.ok
                generalize hwx : uq.val = w6 at *
                clear hwx uq C0 c0 U1 U2
                have HS6 := Lib.hid (HS5.out.below HB6.out)
                obtain ⟨st1, hst1⟩ : ∃ z, wt true (tkS 4 st) = z := ⟨_, rfl⟩
                go_wp2_with (go_at_call 39; refine (must_any g true _ _ HS6.out).mono ?_; rintro e w7 ⟨rfl, hs7, hg7⟩; have HS7 := Lib.hid hs7; have HG7 := Lib.hid hg7; clear hs7 hg7)
                rw [hst1] at HS7
                have HST1 := Lib.hid hst1
                have HG57 := Lib.hid (((HG5.out.trans (only_of_below HB6.out _))).trans HG7.out)
                have HO7 := Lib.hid (lf.OwnB.grown HO.out HG57.out hgw)
                have HY7 := Lib.hid (HS6.out.only_bytes (HB5.out.below HB6.out) HG7.out)
                have HG07 := Lib.hid (HGR.out.trans HG57.out)
                obtain ⟨m', hm'⟩ : ∃ m', n - i = m' + 1 := ⟨n - i - 1, by omega⟩
                have HM := Lib.hid hm'
                have HNX := Lib.hid (runs_next (tot := tot) (by rw [← hm']; exact HT.out) HEC.out HX.out HYE.out HX0.out hok hst1)
                obtain ⟨e7, he7⟩ : ∃ e, st1.2 = e := ⟨_, rfl⟩
                have HE7 := Lib.hid he7
                clear hst1 hm' hok he7
                go_loopw [6, 10] (fun rv lv wr => ∃ k : Nat, k ≤ x0 + 1 ∧ lv = .int .i64 (k : Int) ∧ Hid (InAt N w g b5 o5 c5 row x k st1 rv wr)) (fun _ lv _ => 257 - (intOf lv).toNat)
                case atStart => exact ⟨0, Nat.zero_le _, by go_num, Lib.hid ⟨by have hz := HO7.out; simpa [rep] using hz, HS7.out, HY7.out, HG07.out, fun _ => rfl⟩⟩
                case round =>
                  obtain ⟨k, hk, rfl, hI⟩ := hrel
                  obtain ⟨wi, rfl⟩ : ∃ wi, wi = wr := ⟨_, rfl⟩
                  obtain ⟨hO, hS, hYb, hG, hne⟩ := hI.out
                  obtain ⟨A6, n6, c6, hbx, _, _⟩ := id hS
                  have k1 := hbx.cell 1
                  simp only [List.getElem?_toArray, List.getElem?_cons_succ, List.getElem?_cons_zero] at k1
                  rw [HE7.out] at k1
                  obtain ⟨b', o', hbe, _, hcx⟩ := hYb.at_ (by omega)
                  cases hbe
                  have cx := hcx 0 (by omega)
                  rw [HX0.out, Nat.add_zero] at cx
                  have hgi := hG.size
                  have hIO := Lib.hid hO
                  have hIS := Lib.hid hS
                  have hIY := Lib.hid hYb
                  have hIG := Lib.hid hG
                  have hIN := Lib.hid hne
                  clear hO hS hYb hG hne hbx hI hcx
                  by_cases he1 : e7 = 0
                  · subst he1
                    have he1 : st1.2 = 0 := HE7.out
                    have hfit : lr + 3 * (x0 + 1) ≤ r := ht
                    have hb5N : b5 < w.heap.size := Nat.lt_of_lt_of_le (HN5.out HEC.out (tkS_ok (wt_ok (by rw [HST1.out]; exact he1)).2).2 ⟨b5, o5, none⟩ rfl) hNw
                    by_cases hk0 : k = x0 + 1
                    · subst hk0
                      have hdk : decide (((x0 + 1 : Nat) : Int) ≤ (x0 : Int)) = false := by simp; omega
                      have HNX2 := Lib.hid (show runsL W m' (row ++ rep y (x0 + 1)) y st1 = tot by have := HNX.out; rw [if_pos he1] at this; exact this)
                      have HIO2 := Lib.hid (show OwnB wi w.heap.size _ (row ++ rep y (x0 + 1)) by have := hIO.out; rw [HYE.out] at this; exact this)
                      clear he1
                      go_wp2_with fail
                      go_roundw
                      case rel => exact ⟨i + 1, row ++ rep y (x0 + 1), y, st1, by omega, by go_num, Lib.hid ⟨by rw [show n - (i + 1) = m' by have := HM.out; omega]; exact HNX2.out, by rw [List.length_append, rep_len, hy3, HLR.out, HRR.out]; omega, by rw [List.length_append, rep_len, hy3, HLR.out]; have := HR3.out; rw [HLR.out] at this; omega, fun _ => .inr ⟨row ++ rep y x0, rep_last y row x0, hy3⟩, HIO2.out, hIS.out, hIG.out⟩⟩
                      case measure => simp [intOf]; omega
                    · have hdk : decide ((k : Int) ≤ (x0 : Int)) = true := by simp; omega
                      have hlen : (row ++ rep y k).length ≤ 2000 := by
                        rw [List.length_append, rep_len, hy3, HLR.out]
                        have : k * 3 ≤ 256 * 3 := Nat.mul_le_mul_right _ (by omega)
                        omega
                      clear he1
                      have hIO1 := hIO.out
                      rw [HYE.out] at hIO1
                      obtain ⟨ap, hap⟩ : ∃ ap, row ++ rep y k = ap := ⟨_, rfl⟩
                      rw [hap] at hlen hIO1
                      replace hIO := Lib.hid hIO1
                      have HAP := Lib.hid hap
                      have hIYc := Lib.hid (show Bytes wi (some ⟨b5, o5 + 1, none⟩) 3 (c5 - 1) y from by
                        have := lf.Bytes.cut hIY.out 1 4 (by omega) (by omega) b5 o5 rfl
                        rw [HYE.out, List.take_of_length_le (by omega)] at this
                        exact this)
                      clear hap hIO1
                      go_wp2_with (at_builtin; refine Held.of ?_)
                      unfold Held
                      refine wpList_append_any _ rfl (.tmp 87) (.tmp 89) 22 rfl w.heap.size 5 i0 (.int .u8 0) 1 1 Try.underlying22 hi hz0 hz1 hz2 rfl (by omega) u6 ap.length (vals ap) (by rfl) hIO.out _ (some ⟨b5, o5 + 1, none⟩) 3 (c5 - 1) (vals y) (by rfl) (lf.Bytes.reads hIYc.out) (vals_one _) (by simp [maxLen]; omega) (by omega) (by omega) ?_
                      intro v8 w8 hown8 hg8 _
                      have hO8 := Lib.hid (lf.OwnB.push (l := ap) (x := y) hown8 hy3.symm)
                      have hG8 := Lib.hid hg8
                      clear hown8 hg8
                      go_wp2_with fail
                      go_roundw
                      case rel =>
                        exact ⟨k + 1, by omega, by go_num, Lib.hid ⟨by
                          rw [HYE.out, rep_last, HAP.out]
                          exact hO8.out, hIS.out.row hG8.out (fun j e => (lf.OwnB.ge hIO.out j e).1) hgw hNw, lf.Bytes.row hIY.out hG8.out (fun a e f => by cases e; have := (lf.OwnB.ge hIO.out _ f.symm).1; exact absurd hb5N (by show ¬ b5 < w.heap.size; exact Nat.not_lt.2 this)), hIG.out.andThen hG8.out (fun j e => .inl (lf.OwnB.ge hIO.out j e).1), fun h => absurd HE7.out h⟩⟩
                      case measure => simp [intOf]; omega
                  · have hkk : k = 0 := hIN.out (by rw [HE7.out]; exact he1)
                    subst hkk
                    have he2 : (e7 == 0) = false := by simpa using he1
                    have hdk : decide (((0 : Nat) : Int) ≤ (x0 : Int)) = true := by simp
                    have HNX2 := Lib.hid (show runsL W m' row y st1 = tot by have := HNX.out; rw [if_neg (by rw [HE7.out]; exact he1)] at this; exact this)
                    have HIO2 := Lib.hid (show OwnB wi w.heap.size _ row by have := hIO.out; simpa [rep] using this)
                    go_wp2_with fail
                    go_roundw
                    case rel => exact ⟨i + 1, row, y, st1, by omega, by go_num, Lib.hid ⟨by rw [show n - (i + 1) = m' by have := HM.out; omega]; exact HNX2.out, by rw [HLR.out]; have := HRR.out; omega, HR3.out, fun h => absurd h (by rw [HE7.out]; exact he1), HIO2.out, hIS.out, hIG.out⟩⟩
                    case measure => simp [intOf]; omega
              · go_wp2_with fail
                (refine wp_region_up_tail 26 (by kernel_rfl) (by kernel_rfl) ?_; simp only [List.take_succ_cons, List.take_zero, List.drop_succ_cons, List.drop_zero]; (repeat (go_big_quiet_step (fail))); refine wpQuiet_nil ?_; rintro _ ⟨uq, rfl⟩)
                have HB6 := Lib.hid uq.ok
                generalize hwx : uq.val = w6 at *
                clear hwx uq C0 c0 U1 U2
                have HS6 := Lib.hid (HS5.out.below HB6.out)
                obtain ⟨st1, hst1⟩ : ∃ z, wt false (tkS 4 st) = z := ⟨_, rfl⟩
                go_wp2_with (go_at_call 39; refine (must_any g false _ _ HS6.out).mono ?_; rintro e w7 ⟨rfl, hs7, hg7⟩; have HS7 := Lib.hid hs7; have HG7 := Lib.hid hg7; clear hs7 hg7)
                rw [hst1] at HS7
                have HST1 := Lib.hid hst1
                have HG57 := Lib.hid (((HG5.out.trans (only_of_below HB6.out _))).trans HG7.out)
                have HO7 := Lib.hid (lf.OwnB.grown HO.out HG57.out hgw)
                have HY7 := Lib.hid (HS6.out.only_bytes (HB5.out.below HB6.out) HG7.out)
                have HG07 := Lib.hid (HGR.out.trans HG57.out)
                obtain ⟨m', hm'⟩ : ∃ m', n - i = m' + 1 := ⟨n - i - 1, by omega⟩
                have HM := Lib.hid hm'
                have HNX := Lib.hid (runs_next (tot := tot) (by rw [← hm']; exact HT.out) HEC.out HX.out HYE.out HX0.out hok hst1)
                obtain ⟨e7, he7⟩ : ∃ e, st1.2 = e := ⟨_, rfl⟩
                have HE7 := Lib.hid he7
                clear hst1 hm' hok he7
                go_loopw [6, 10] (fun rv lv wr => ∃ k : Nat, k ≤ x0 + 1 ∧ lv = .int .i64 (k : Int) ∧ Hid (InAt N w g b5 o5 c5 row x k st1 rv wr)) (fun _ lv _ => 257 - (intOf lv).toNat)
                case atStart => exact ⟨0, Nat.zero_le _, by go_num, Lib.hid ⟨by have hz := HO7.out; simpa [rep] using hz, HS7.out, HY7.out, HG07.out, fun _ => rfl⟩⟩
                case round =>
                  obtain ⟨k, hk, rfl, hI⟩ := hrel
                  obtain ⟨wi, rfl⟩ : ∃ wi, wi = wr := ⟨_, rfl⟩
                  obtain ⟨hO, hS, hYb, hG, hne⟩ := hI.out
                  obtain ⟨A6, n6, c6, hbx, _, _⟩ := id hS
                  have k1 := hbx.cell 1
                  simp only [List.getElem?_toArray, List.getElem?_cons_succ, List.getElem?_cons_zero] at k1
                  rw [HE7.out] at k1
                  obtain ⟨b', o', hbe, _, hcx⟩ := hYb.at_ (by omega)
                  cases hbe
                  have cx := hcx 0 (by omega)
                  rw [HX0.out, Nat.add_zero] at cx
                  have hgi := hG.size
                  have hIO := Lib.hid hO
                  have hIS := Lib.hid hS
                  have hIY := Lib.hid hYb
                  have hIG := Lib.hid hG
                  have hIN := Lib.hid hne
                  clear hO hS hYb hG hne hbx hI hcx
                  by_cases he1 : e7 = 0
                  · subst he1
                    have he1 : st1.2 = 0 := HE7.out
                    exact absurd he1 (by rw [← HST1.out]; exact wt_false _)
                  · have hkk : k = 0 := hIN.out (by rw [HE7.out]; exact he1)
                    subst hkk
                    have he2 : (e7 == 0) = false := by simpa using he1
                    have hdk : decide (((0 : Nat) : Int) ≤ (x0 : Int)) = true := by simp
                    have HNX2 := Lib.hid (show runsL W m' row y st1 = tot by have := HNX.out; rw [if_neg (by rw [HE7.out]; exact he1)] at this; exact this)
                    have HIO2 := Lib.hid (show OwnB wi w.heap.size _ row by have := hIO.out; simpa [rep] using this)
                    go_wp2_with fail
                    go_roundw
                    case rel => exact ⟨i + 1, row, y, st1, by omega, by go_num, Lib.hid ⟨by rw [show n - (i + 1) = m' by have := HM.out; omega]; exact HNX2.out, by rw [HLR.out]; have := HRR.out; omega, HR3.out, fun h => absurd h (by rw [HE7.out]; exact he1), HIO2.out, hIS.out, hIG.out⟩⟩
                    case measure => simp [intOf]; omega
          · have ht1 : decide ((kk : Int) + (x0 : Int) + 1 ≤ (W : Int)) = false := by have := HKK.out; have := HRR.out; simp; omega
            have hok : runOk W row last x = false := by
              unfold runOk
              rw [HX0.out, HYE.out, HLR.out, HRR.out, decide_eq_false ht, Bool.false_and]
            go_wp2_with fail
            (refine wp_region_up_tail 26 (by kernel_rfl) (by kernel_rfl) ?_; simp only [List.take_succ_cons, List.take_zero, List.drop_succ_cons, List.drop_zero]; (repeat (go_big_quiet_step (fail))); refine wpQuiet_nil ?_; rintro _ ⟨uq, rfl⟩)
            have HB6 := Lib.hid uq.ok
            generalize hwx : uq.val = w6 at *
            clear hwx uq C0 c0
            have HS6 := Lib.hid (HS5.out.below HB6.out)
            obtain ⟨st1, hst1⟩ : ∃ z, wt false (tkS 4 st) = z := ⟨_, rfl⟩
            go_wp2_with (go_at_call 39; refine (must_any g false _ _ HS6.out).mono ?_; rintro e w7 ⟨rfl, hs7, hg7⟩; have HS7 := Lib.hid hs7; have HG7 := Lib.hid hg7; clear hs7 hg7)
            rw [hst1] at HS7
            have HST1 := Lib.hid hst1
            have HG57 := Lib.hid (((HG5.out.trans (only_of_below HB6.out _))).trans HG7.out)
            have HO7 := Lib.hid (lf.OwnB.grown HO.out HG57.out hgw)
            have HY7 := Lib.hid (HS6.out.only_bytes (HB5.out.below HB6.out) HG7.out)
            have HG07 := Lib.hid (HGR.out.trans HG57.out)
            obtain ⟨m', hm'⟩ : ∃ m', n - i = m' + 1 := ⟨n - i - 1, by omega⟩
            have HM := Lib.hid hm'
            have HNX := Lib.hid (runs_next (tot := tot) (by rw [← hm']; exact HT.out) HEC.out HX.out HYE.out HX0.out hok hst1)
            obtain ⟨e7, he7⟩ : ∃ e, st1.2 = e := ⟨_, rfl⟩
            have HE7 := Lib.hid he7
            clear hst1 hm' hok he7
            go_loopw [6, 10] (fun rv lv wr => ∃ k : Nat, k ≤ x0 + 1 ∧ lv = .int .i64 (k : Int) ∧ Hid (InAt N w g b5 o5 c5 row x k st1 rv wr)) (fun _ lv _ => 257 - (intOf lv).toNat)
            case atStart => exact ⟨0, Nat.zero_le _, by go_num, Lib.hid ⟨by have hz := HO7.out; simpa [rep] using hz, HS7.out, HY7.out, HG07.out, fun _ => rfl⟩⟩
            case round =>
              obtain ⟨k, hk, rfl, hI⟩ := hrel
              obtain ⟨wi, rfl⟩ : ∃ wi, wi = wr := ⟨_, rfl⟩
              obtain ⟨hO, hS, hYb, hG, hne⟩ := hI.out
              obtain ⟨A6, n6, c6, hbx, _, _⟩ := id hS
              have k1 := hbx.cell 1
              simp only [List.getElem?_toArray, List.getElem?_cons_succ, List.getElem?_cons_zero] at k1
              rw [HE7.out] at k1
              obtain ⟨b', o', hbe, _, hcx⟩ := hYb.at_ (by omega)
              cases hbe
              have cx := hcx 0 (by omega)
              rw [HX0.out, Nat.add_zero] at cx
              have hgi := hG.size
              have hIO := Lib.hid hO
              have hIS := Lib.hid hS
              have hIY := Lib.hid hYb
              have hIG := Lib.hid hG
              have hIN := Lib.hid hne
              clear hO hS hYb hG hne hbx hI hcx
              by_cases he1 : e7 = 0
              · subst he1
                have he1 : st1.2 = 0 := HE7.out
                exact absurd he1 (by rw [← HST1.out]; exact wt_false _)
              · have hkk : k = 0 := hIN.out (by rw [HE7.out]; exact he1)
                subst hkk
                have he2 : (e7 == 0) = false := by simpa using he1
                have hdk : decide (((0 : Nat) : Int) ≤ (x0 : Int)) = true := by simp
                have HNX2 := Lib.hid (show runsL W m' row y st1 = tot by have := HNX.out; rw [if_neg (by rw [HE7.out]; exact he1)] at this; exact this)
                have HIO2 := Lib.hid (show OwnB wi w.heap.size _ row by have := hIO.out; simpa [rep] using this)
                go_wp2_with fail
                go_roundw
                case rel => exact ⟨i + 1, row, y, st1, by omega, by go_num, Lib.hid ⟨by rw [show n - (i + 1) = m' by have := HM.out; omega]; exact HNX2.out, by rw [HLR.out]; have := HRR.out; omega, HR3.out, fun h => absurd h (by rw [HE7.out]; exact he1), HIO2.out, hIS.out, hIG.out⟩⟩
                case measure => simp [intOf]; omega
        · have he2 : (ec == 0) = false := by simpa using he0
          have hin : decide ((i : Int) < (n : Int)) = true := by simp; omega
          obtain ⟨m', hm'⟩ : ∃ m', n - i = m' + 1 := ⟨n - i - 1, by omega⟩
          have HM := Lib.hid hm'
          clear hm'
          obtain ⟨A9, c9, rfl, hb9, _⟩ := lf.OwnB.bytes HO.out
          have HB9 := Lib.hid hb9
          clear hb9
          go_wp2_with (go_at_call 39; refine (must_any g (decide ((row.length : Int) = (r : Int))) _ _ HST.out).mono ?_; rintro e w9 ⟨rfl, hs9, hg9⟩; have HS9 := Lib.hid hs9; have HG9 := Lib.hid hg9; clear hs9 hg9)
          go_ret
          have hTT : tot = (row, st) := by rw [← HT.out]; rw [HM.out, runsL, if_neg (by rw [HEC.out]; exact he0)]
          rw [hTT]
          refine ⟨_, rfl, ⟨A9, c9, rfl, HST.out.only_bytes HB9.out HG9.out⟩, ?_, HGR.out.trans HG9.out⟩
          have hq : decide (row.length = r) = decide ((row.length : Int) = (r : Int)) := by simp; omega
          simp only [hq]
          exact HS9.out
  · obtain rfl : n = 0 := by omega
    replace hni : (((tkV 1 s).getD 0 0).toNat : Int) = 0 := hni
    have hpp : (decide (0 < 0) && decide (2 + 4 * 0 < 1 + r)) = false := by simp
    go_wp2_with (first | (go_at_call 38; refine (next_any g 1 _ _ HS.out (by omega)).mono ?_; rintro e w3 ⟨A3, c3, rfl, hb3, hs3, hg3, _⟩; obtain ⟨b3, o3, rfl, hlt3, hc3⟩ := hb3.at_ (by omega); have c0 := hc3 0 (by omega); simp only [Nat.add_zero] at c0; rw [hni] at c0; have HS3 := Lib.hid hs3; have HG3 := Lib.hid hg3; clear hb3 hs3 hg3 hc3) | (go_at_call 39; refine (must_any g false _ _ HS3.out).mono ?_; rintro e w4 ⟨rfl, hs4, hg4⟩; have HS4 := Lib.hid hs4; have HG4 := Lib.hid hg4; clear hs4 hg4))
    have HS4b := Lib.hid (show St N w4 g s2 by rw [← hs2, hpp]; exact HS4.out)
    have HG := Lib.hid (HG3.out.trans HG4.out)
    clear HS4 HS3 HG3 HG4 c0 hs2 hni
    go_loopw [6, 7] (fun rv iv wr => ∃ (i : Nat) (row last : List UInt8) (s : S), i ≤ 0 ∧ iv = .int .i64 (i : Int) ∧ Hid (ROAt N w g W tot 0 i row last s rv wr)) (fun _ iv _ => 255 - (intOf iv).toNat)
    case atStart => exact ⟨0, [], [], s2, Nat.zero_le _, rfl, Lib.hid ⟨HTOT.out, Nat.zero_le _, rfl, fun _ => .inl ⟨rfl, rfl⟩, lf.OwnB.none_ _ _, HS4b.out, HG.out⟩⟩
    case round =>
      obtain ⟨i, row, last, st, him, rfl, hR⟩ := hrel
      obtain ⟨wo, rfl⟩ : ∃ wo, wo = wr := ⟨_, rfl⟩
      obtain ⟨hT, hrl, hr3, hla, hO, hSt, hGr⟩ := hR.out
      obtain ⟨A6, n6, c6, hbx, _, _⟩ := id hSt
      have k1 := hbx.cell 1
      simp only [List.getElem?_toArray, List.getElem?_cons_succ, List.getElem?_cons_zero] at k1
      obtain ⟨ec, hec⟩ : ∃ e, st.2 = e := ⟨_, rfl⟩
      rw [hec] at k1
      have hrl2 : row.length ≤ r := by have := HRR.out; omega
      have HT := Lib.hid hT
      have HO := Lib.hid hO
      have HLA := Lib.hid hla
      have HST := Lib.hid hSt
      have HGR := Lib.hid hGr
      have HEC := Lib.hid hec
      have HR3 := Lib.hid hr3
      clear hT hO hla hSt hGr hbx hec hR hr3 hrl
      obtain rfl : i = 0 := by omega
      obtain ⟨A9, c9, rfl, hb9, _⟩ := lf.OwnB.bytes HO.out
      have HB9 := Lib.hid hb9
      clear hb9
      go_wp2_with (go_at_call 39; refine (must_any g (decide ((row.length : Int) = (r : Int))) _ _ HST.out).mono ?_; rintro e w9 ⟨rfl, hs9, hg9⟩; have HS9 := Lib.hid hs9; have HG9 := Lib.hid hg9; clear hs9 hg9)
      go_ret
      have hTT : tot = (row, st) := by rw [← HT.out]; rfl
      rw [hTT]
      refine ⟨_, rfl, ⟨A9, c9, rfl, HST.out.only_bytes HB9.out HG9.out⟩, ?_, HGR.out.trans HG9.out⟩
      have hq : decide (row.length = r) = decide ((row.length : Int) = (r : Int)) := by simp; omega
      simp only [hq]
      exact HS9.out
end Go.Proofs.Ytfmkdccpgkbnoaa.lr
