/-
  leaf's (*reader).row of the form 1.
-/
import Derived.Test.YtfmkdccpgkbnoaaLeafRow
import Derived.Test.YtfmkdccpgkbnoaaUpTail
namespace Go.Proofs.Ytfmkdccpgkbnoaa.lf
set_option linter.unusedVariables false
set_option linter.unusedSimpArgs false
open Go.RowKit bs

/-- a slice value that reads as the bytes l -/
def RdB (w : World) (v : Value) (l : List UInt8) : Prop := ∃ A c, v = .slice A l.length c ∧ Bytes w A l.length c l
/-- ... and is nil or begins with a block -/
def RdC (w : World) (v : Value) (l : List UInt8) : Prop := (v = .slice none 0 0 ∧ l = []) ∨ ∃ b o c, v = .slice (some ⟨b, o, none⟩) l.length c ∧ Bytes w (some ⟨b, o, none⟩) l.length c l
/-- ahead of a run -/
def RowedAt (N : Nat) (w : World) (g W : Nat) (tot : List UInt8 × S) (n : Nat) (row last : List UInt8) (s : S) (rv lv : Value) (wr : World) : Prop :=
  runsL W n row last s = tot ∧ row.length ≤ 3 * W ∧ OwnB wr w.heap.size rv row ∧ RdC wr lv last ∧ St N wr g s ∧ w.grownBy wr (some g)
theorem RdC.str {w : World} {v : Value} {l : List UInt8} (h : RdC w v l) : (convert 22 9 v).run Try.prog w = .ok (.string ⟨l.toArray⟩) w := by
  rcases h with ⟨rfl, rfl⟩ | ⟨b, o, c, rfl, hb⟩
  · rfl
  · exact lf.Bytes.str hb
theorem RdC.below {w w' : World} {v : Value} {l : List UInt8} (h : RdC w v l) (hb : Below w.heap.size w w') : RdC w' v l := by
  rcases h with h | ⟨b, o, c, e, h⟩
  · exact .inl h
  · exact .inr ⟨b, o, c, e, h.below hb⟩
theorem RdC.only {N : Nat} {w w' : World} {g : Nat} {s : S} {v : Value} {l : List UInt8} (h : RdC w v l) (hs : St N w g s) (hb : w.grownBy w' (some g)) : RdC w' v l := by
  rcases h with h | ⟨b, o, c, e, h⟩
  · exact .inl h
  · exact .inr ⟨b, o, c, e, hs.only_bytes h hb⟩
theorem wt_ok {p : Bool} {s : S} (h : (wt p s).2 = 0) : p = true ∧ s.2 = 0 := by
  unfold wt failS at h
  cases p
  · simp only [Bool.false_eq_true, if_false] at h
    split at h
    · simp at h
    · contradiction
  · exact ⟨rfl, h⟩
theorem tkS_ok {k : Nat} {s : S} (h : (tkS k s).2 = 0) : s.2 = 0 ∧ k ≤ s.1.length := by
  unfold tkS failS at h
  split at h
  · assumption
  · split at h
    · simp at h
    · contradiction
theorem Bytes.row {w w' : World} {n c : Nat} {A : Option Addr} {l : List UInt8} {row : Option Nat} (h : Bytes w A n c l) (hw : w.grownBy w' row) (hA : ∀ a : Addr, A = some a → some a.block ≠ row) : Bytes w' A n c l := by
  obtain ⟨h1, h2, h3⟩ := h
  refine ⟨h1, h2, fun hn => ?_⟩
  obtain ⟨b, o, rfl, hlt, hc⟩ := h3 hn
  exact ⟨b, o, rfl, Nat.lt_of_lt_of_le hlt hw.size, fun j hj => (World.cell?_of_block (hw.block b hlt (hA _ rfl))).trans (hc j hj)⟩
theorem St.row {N base : Nat} {w w' : World} {g : Nat} {s : S} {row : Option Nat} (h : St N w g s) (hw : w.grownBy w' row) (hr : ∀ j, row = some j → base ≤ j) (hg : g < base) (hN : N ≤ base) : St N w' g s := by
  obtain ⟨A, n, c, h1, h2, h3, h4⟩ := h
  refine ⟨A, n, c, h1.grown hw (fun e => ?_), Bytes.row h2 hw (fun a ha e => ?_), h3, h4⟩
  · have := hr g e.symm; omega
  · have := hr _ e.symm; have := h4 a ha; omega
theorem runs_next {W m' x0 : Nat} {row last x y : List UInt8} {st st1 : S} {p : Bool} {tot : List UInt8 × S} (h : runsL W (m' + 1) row last st = tot) (he : st.2 = 0) (hx : tkV 4 st = x) (hy : x.drop 1 = y) (hx0 : (x.getD 0 0).toNat = x0) (hp : runOk W row last x = p) (hs : wt p (tkS 4 st) = st1) :
    runsL W m' (if st1.2 = 0 then row ++ rep y (x0 + 1) else row) y st1 = tot := by
  subst hx hy hx0 hp hs
  rw [runsL, if_pos he] at h
  exact h
theorem wt_false (s : S) : (wt false s).2 ≠ 0 := by
  unfold wt failS
  simp only [Bool.false_eq_true, if_false]
  split
  · simp
  · assumption
/-- within a run -/
def InnerAt (N : Nat) (w : World) (g b o c : Nat) (row y : List UInt8) (L k : Nat) (st : S) (rv : Value) (wr : World) : Prop :=
  OwnB wr w.heap.size rv (row ++ rep y (L - k)) ∧ St N wr g st ∧ Bytes wr (some ⟨b, o + 1, none⟩) 3 c y ∧ w.grownBy wr (some g) ∧ (st.2 ≠ 0 → k = L)
theorem bytes_eq (p q : List UInt8) : ((⟨p.toArray⟩ : ByteArray).toList == (⟨q.toArray⟩ : ByteArray).toList) = decide (p = q) := by
  have e : ∀ p : List UInt8, (⟨p.toArray⟩ : ByteArray).toList = p := fun p => by rw [ByteArray.toList_eq]
  rw [e, e]
  by_cases h : p = q
  · subst h; simp
  · rw [decide_eq_false h]; simp [h]

set_option maxRecDepth 100000 in
set_option maxHeartbeats 1600000 in
theorem row_rowed {N : Nat} (g W : Nat) (s : S) (w : World) (h : St N w g s) (hNw : N ≤ w.heap.size) (hW : 1 ≤ W ∧ W ≤ 64) (hx : hd 1 s = 1) (s1 : S) (hs1 : wt true (tkS 1 s) = s1) (he : s1.2 = 0) :
    Calls Try.prog 36 #[.pointer (some ⟨g, 0, none⟩), .int .i64 (W : Int)] w fun en w' => ∃ v, en = .returned v ∧ RdB w' v (rowedL W s1).1 ∧ St N w' g (rowedL W s1).2 ∧ w.grownBy w' (some g) := by
  have hgw := h.lt
  have HS := Lib.hid h
  clear h
  obtain ⟨hW0, hW1⟩ := hW
  have hp := hs1
  have hE := he
  replace hx : ((tkV 1 s).getD 0 0).toNat = 1 := hx
  have hxi : (((tkV 1 s).getD 0 0).toNat : Int) = 1 := by rw [hx]; rfl
  clear he hs1 hx
  obtain ⟨r, hr⟩ : ∃ r, 3 * W = r := ⟨_, rfl⟩
  have e0 : 3 * (W : Int) = (r : Int) := by omega
  have hr192 : 1 ≤ r ∧ r ≤ 192 := by omega
  obtain ⟨n, hn⟩ : ∃ n, hd 1 s1 = n := ⟨_, rfl⟩
  have hni : (((tkV 1 s1).getD 0 0).toNat : Int) = (n : Int) := by rw [← hn]; rfl
  have hn255 : n ≤ 255 := by have := ((tkV 1 s1).getD 0 0).toNat_lt; rw [← hn]; unfold hd; omega
  obtain ⟨s2, hs2⟩ : ∃ s2, wt (decide (0 < n) && decide (2 + 4 * n < 1 + r)) (tkS 1 s1) = s2 := ⟨_, rfl⟩
  obtain ⟨tot, htot⟩ : ∃ t, runsL W n [] [] s2 = t := ⟨_, rfl⟩
  have hR : rowedL W s1 = (tot.1, wt (decide (tot.1.length = r)) tot.2) := by unfold rowedL; simp only [hn, hr, hs2, htot]
  rw [hR]
  have HRR := Lib.hid hr
  have HTOT := Lib.hid htot
  have HN := Lib.hid hn
  clear hr htot hR hn
  obtain ⟨i0, hi, hz0, hz1, hz2⟩ := info_parts (show (Try.prog.info? 5).map (fun i => (i.zero, i.size, i.bytes)) = some (some (.int .u8 0), 1, 1) by kernel_rfl)
  go_enter Try.func36, Try.ntmps36
  by_cases hn0 : 0 < n
  · have hpp : (decide (0 < n) && decide (2 + 4 * n < 1 + r)) = decide (2 + 4 * (n : Int) < 1 + (r : Int)) := by simp [hn0]; omega
    go_wp2_with (first | (go_at_call 34; refine (take_any g 1 _ _ HS.out (by omega)).mono ?_; rintro e w1 ⟨A1, c1, rfl, hb1, hs1, hg1, hn1⟩; obtain ⟨b1, o1, rfl, hlt1, hc1⟩ := hb1.at_ (by omega); have c0 := hc1 0 (by omega); simp only [Nat.add_zero] at c0; rw [hxi] at c0; have HS1 := Lib.hid hs1; have HG1 := Lib.hid hg1; clear hb1 hs1 hg1 hc1 hn1 HS) | (go_at_call 33; refine (want_any g true _ _ HS1.out).mono ?_; rintro e w2 ⟨rfl, hs2, hg2⟩; obtain ⟨A2, n2, c2, hbx, hby2, _⟩ := id hs2; have k1 := hbx.cell 1; simp only [List.getElem?_toArray, List.getElem?_cons_succ, List.getElem?_cons_zero] at k1; rw [hp, hE] at k1; clear hbx hby2; have HS2 := Lib.hid hs2; have HG2 := Lib.hid hg2; clear hs2 hg2 HS1) | (go_at_call 34; refine (take_any g 1 _ _ HS2.out (by omega)).mono ?_; rintro e w3 ⟨A3, c3, rfl, hb3, hs3, hg3, hn3⟩; obtain ⟨b3, o3, rfl, hlt3, hc3⟩ := hb3.at_ (by omega); have c0 := hc3 0 (by omega); simp only [Nat.add_zero] at c0; rw [hp, hni] at c0; have HS3 := Lib.hid hs3; have HG3 := Lib.hid hg3; clear hb3 hs3 hg3 hc3 hn3 HS2) | (go_at_call 33; refine (want_any g (decide (2 + 4 * (n : Int) < 1 + (r : Int))) _ _ HS3.out).mono ?_; rintro e w4 ⟨rfl, hs4, hg4⟩; have HS4 := Lib.hid hs4; have HG4 := Lib.hid hg4; clear hs4 hg4 HS3))
    have HS4b := Lib.hid (show St N w4 g s2 by rw [← hs2, hpp, ← hp]; exact HS4.out)
    have HG := Lib.hid (((HG1.out.trans HG2.out).trans HG3.out).trans HG4.out)
    clear HS4 HG1 HG2 HG3 HG4 c0 k1 hs2 hp hxi hE hni
    go_loopw [7, 8, 9] (fun nv rv lv wr => ∃ (n : Nat) (row last : List UInt8) (s : S), n ≤ 255 ∧ nv = .int .i64 (n : Int) ∧ Hid (RowedAt N w g W tot n row last s rv lv wr)) (fun nv _ _ _ => (intOf nv).toNat)
    case atStart => exact ⟨n, [], [], s2, hn255, rfl, Lib.hid ⟨HTOT.out, Nat.zero_le _, OwnB.none_ _ _, .inl ⟨rfl, rfl⟩, HS4b.out, HG.out⟩⟩
    case round =>
      obtain ⟨m, row, last, st, hm, rfl, hR⟩ := hrel
      obtain ⟨wo, rfl⟩ : ∃ wo, wo = wr := ⟨_, rfl⟩
      obtain ⟨hT, hrl, hO, hL, hSt, hGr⟩ := hR.out
      obtain ⟨A6, n6, c6, hbx, _, _⟩ := id hSt
      have k1 := hbx.cell 1
      simp only [List.getElem?_toArray, List.getElem?_cons_succ, List.getElem?_cons_zero] at k1
      obtain ⟨ec, hec⟩ : ∃ e, st.2 = e := ⟨_, rfl⟩
      rw [hec] at k1
      have hrl2 : row.length ≤ 192 := by have := HRR.out; omega
      have HT := Lib.hid hT
      have HO := Lib.hid hO
      have HL := Lib.hid hL
      have HST := Lib.hid hSt
      have HGR := Lib.hid hGr
      have HEC := Lib.hid hec
      clear hT hO hL hSt hGr hbx hec hR
      by_cases hm0 : m = 0
      · subst hm0
        obtain ⟨A9, c9, rfl, hb9, _⟩ := HO.out.bytes
        have HB9 := Lib.hid hb9
        clear hb9
        go_wp2_with (go_at_call 33; refine (want_any g (decide ((row.length : Int) = (r : Int))) _ _ HST.out).mono ?_; rintro e w9 ⟨rfl, hs9, hg9⟩; have HS9 := Lib.hid hs9; have HG9 := Lib.hid hg9; clear hs9 hg9)
        go_ret
        have hTT : tot = (row, st) := by rw [← HT.out]; rfl
        rw [hTT]
        refine ⟨_, rfl, ⟨A9, c9, rfl, HST.out.only_bytes HB9.out HG9.out⟩, ?_, HGR.out.trans HG9.out⟩
        have hq : decide (row.length = r) = decide ((row.length : Int) = (r : Int)) := by simp; omega
        simp only [hq]
        exact HS9.out
      · have hm1 : 0 < m := by omega
        by_cases he0 : ec = 0
        · subst he0
          obtain ⟨A9, c9, rfl, hb9, _⟩ := HO.out.bytes
          clear hb9
          obtain ⟨x, hx⟩ : ∃ x, tkV 4 st = x := ⟨_, rfl⟩
          have hxl : x.length = 4 := by rw [← hx, tkV_len]
          obtain ⟨x0, hx0⟩ : ∃ x0, (x.getD 0 0).toNat = x0 := ⟨_, rfl⟩
          have hx255 : x0 ≤ 255 := by have := (x.getD 0 0).toNat_lt; omega
          have hxi : (((tkV 4 st).getD 0 0).toNat : Int) = (x0 : Int) := by rw [hx, hx0]
          go_wp2_with (go_at_call 34; refine (take_any g 4 _ _ HST.out (by omega)).mono ?_; rintro e w5 ⟨A5, c5, rfl, hb5, hs5, hg5, hn5⟩; obtain ⟨b5, o5, rfl, hlt5, hc5⟩ := hb5.at_ (by omega); have c0 := hc5 0 (by omega); simp only [Nat.add_zero] at c0; rw [hxi] at c0; have HS5 := Lib.hid hs5; have HG5 := Lib.hid hg5; have hc54 := hb5.2.1; rw [hx] at hb5; have HB5 := Lib.hid hb5; have HL5 := Lib.hid (HL.out.only HST.out hg5); have HN5 := Lib.hid hn5; clear hb5 hs5 hg5 hc5 hn5)
          clear c0 k1 hxi
          have hc51 : ¬ c5 = 1 := by omega
          obtain ⟨y, hy⟩ : ∃ y, x.drop 1 = y := ⟨_, rfl⟩
          have hy3 : y.length = 3 := by rw [← hy]; simp; omega
          have HY := Lib.hid (show Bytes w5 (some ⟨b5, o5 + 1, none⟩) 3 (c5 - 1) y from by
            have := lf.Bytes.cut HB5.out 1 4 (by omega) (by omega) b5 o5 rfl
            rw [hy, List.take_of_length_le (by omega)] at this
            exact this)
          obtain ⟨sx, hsx⟩ : ∃ s : ByteArray, ⟨y.toArray⟩ = s := ⟨_, rfl⟩
          obtain ⟨sl, hsl⟩ : ∃ s : ByteArray, ⟨last.toArray⟩ = s := ⟨_, rfl⟩
          have U1 : ∀ u : Up w5, (convert 22 9 (.slice (some ⟨b5, o5 + 1, none⟩) 3 (c5 - 1))).run Try.prog u.val = .ok (.string sx) u.val := fun u => by rw [← hsx]; exact lf.Bytes.str (HY.out.below u.ok)
          have U2 : ∀ u : Up w5, (convert 22 9 u9).run Try.prog u.val = .ok (.string sl) u.val := fun u => by rw [← hsl]; exact (HL5.out.below u.ok).str
          have hq : (sx.toList == sl.toList) = decide (y = last) := by rw [← hsx, ← hsl]; exact bytes_eq _ _
          have HX := Lib.hid hx
          have HX0 := Lib.hid hx0
          have HYE := Lib.hid hy
          clear hx hx0 hy hsx hsl
          obtain ⟨lr, hlr⟩ : ∃ lr, row.length = lr := ⟨_, rfl⟩
          have HLR := Lib.hid hlr
          rw [hlr] at hrl hrl2
          rw [hlr]
          clear hlr
          by_cases ht : lr + 3 * (x0 + 1) ≤ r
          · have ht1 : decide ((lr : Int) + 3 * ((x0 : Int) + 1) ≤ (r : Int)) = true := by simp; omega
            have hok : runOk W row last x = !decide (y = last) := by
              unfold runOk
              rw [HX0.out, HYE.out, HLR.out, HRR.out, decide_eq_true ht, Bool.true_and]
              by_cases e : y = last <;> simp [e]
            go_wp2_with fail
            (refine wp_region_up_tail 17 (by kernel_rfl) (by kernel_rfl) ?_; simp only [List.take_succ_cons, List.take_zero, List.drop_succ_cons, List.drop_zero]; (repeat (go_big_quiet_step (fail))); refine wpQuiet_nil ?_; rintro _ ⟨uq, rfl⟩)
            have HB6 := Lib.hid uq.ok
            generalize hwx : uq.val = w6 at *
            clear hwx uq U1 U2
            have HS6 := Lib.hid (HS5.out.below HB6.out)
            obtain ⟨st1, hst1⟩ : ∃ z, wt (!decide (y = last)) (tkS 4 st) = z := ⟨_, rfl⟩
            go_wp2_with (go_at_call 33; refine (want_any g (!decide (y = last)) _ _ HS6.out).mono ?_; rintro e w7 ⟨rfl, hs7, hg7⟩; have HS7 := Lib.hid hs7; have HG7 := Lib.hid hg7; clear hs7 hg7)
            rw [hst1] at HS7
            have HST1 := Lib.hid hst1
            have HG57 := Lib.hid (((HG5.out.trans (only_of_below HB6.out _))).trans HG7.out)
            have HO7 := Lib.hid (HO.out.grown HG57.out hgw)
            have HY7 := Lib.hid (HS6.out.only_bytes (HY.out.below HB6.out) HG7.out)
            have HG07 := Lib.hid (HGR.out.trans HG57.out)
            obtain ⟨m', hm'⟩ : ∃ m', m = m' + 1 := ⟨m - 1, by omega⟩
            have HM := Lib.hid hm'
            have HNX := Lib.hid (runs_next (tot := tot) (by first | (rw [← hm']; exact HT.out) | exact HT.out) HEC.out HX.out HYE.out HX0.out hok hst1)
            obtain ⟨e7, he7⟩ : ∃ e, st1.2 = e := ⟨_, rfl⟩
            have HE7 := Lib.hid he7
            clear hst1 hm' hok he7
            go_loopw [8, 11] (fun rv lv wr => ∃ k : Nat, k ≤ x0 + 1 ∧ lv = .int .i64 (k : Int) ∧ Hid (InnerAt N w g b5 o5 (c5 - 1) row y (x0 + 1) k st1 rv wr)) (fun _ lv _ => (intOf lv).toNat)
            case atStart => exact ⟨x0 + 1, Nat.le_refl _, by go_num, Lib.hid ⟨by have hz := HO7.out; rw [HLR.out] at hz; rw [Nat.sub_self]; simpa [rep] using hz, HS7.out, HY7.out, HG07.out, fun _ => rfl⟩⟩
            case round =>
              obtain ⟨k, hk, rfl, hI⟩ := hrel
              obtain ⟨wi, rfl⟩ : ∃ wi, wi = wr := ⟨_, rfl⟩
              obtain ⟨hO, hS, hYb, hG, hne⟩ := hI.out
              obtain ⟨A6, n6, c6, hbx, _, _⟩ := id hS
              have k1 := hbx.cell 1
              simp only [List.getElem?_toArray, List.getElem?_cons_succ, List.getElem?_cons_zero] at k1
              rw [HE7.out] at k1
              have hgi := hG.size
              have hIO := Lib.hid hO
              have hIS := Lib.hid hS
              have hIY := Lib.hid hYb
              have hIG := Lib.hid hG
              have hIN := Lib.hid hne
              clear hO hS hYb hG hne hbx hI
              by_cases he1 : e7 = 0
              · subst he1
                have he1 : st1.2 = 0 := HE7.out
                have hfit : lr + 3 * (x0 + 1) ≤ r := ht
                have hb5N : b5 < w.heap.size := Nat.lt_of_lt_of_le (HN5.out HEC.out (tkS_ok (wt_ok (by rw [HST1.out]; exact he1)).2).2 ⟨b5, o5, none⟩ rfl) hNw
                by_cases hk0 : k = 0
                · subst hk0
                  have HNX2 := Lib.hid (show runsL W m' (row ++ rep y (x0 + 1)) y st1 = tot by have := HNX.out; rw [if_pos he1] at this; exact this)
                  have HIO2 := Lib.hid (show OwnB wi w.heap.size _ (row ++ rep y (x0 + 1)) by have := hIO.out; rw [Nat.sub_zero] at this; exact this)
                  clear he1
                  go_wp2_with fail
                  go_roundw
                  case rel => exact ⟨m', row ++ rep y (x0 + 1), y, st1, by have := HM.out; omega, by have := HM.out; go_num, Lib.hid ⟨HNX2.out, by rw [List.length_append, rep_len, hy3, HLR.out, HRR.out]; omega, HIO2.out, .inr ⟨b5, o5 + 1, c5 - 1, by rw [hy3], by rw [hy3]; exact hIY.out⟩, hIS.out, hIG.out⟩⟩
                  case measure => simp [intOf]; have := HM.out; omega
                · have hk1 : 0 < k := by omega
                  have hlen : (row ++ rep y (x0 + 1 - k)).length ≤ 2000 := by
                    rw [List.length_append, rep_len, hy3, HLR.out]
                    have : (x0 + 1 - k) * 3 ≤ 256 * 3 := Nat.mul_le_mul_right _ (by omega)
                    omega
                  clear he1
                  obtain ⟨ap, hap⟩ : ∃ ap, row ++ rep y (x0 + 1 - k) = ap := ⟨_, rfl⟩
                  rw [hap] at hlen
                  replace hIO := Lib.hid (show OwnB wi w.heap.size _ ap by have := hIO.out; rw [hap] at this; exact this)
                  have HAP := Lib.hid hap
                  clear hap
                  go_wp2_with (at_builtin; refine wpList_append_any _ rfl (.tmp 106) (.tmp 108) 22 rfl w.heap.size 5 i0 (.int .u8 0) 1 1 Try.underlying22 hi hz0 hz1 hz2 rfl (by omega) u8 ap.length (vals ap) (by rfl) hIO.out _ (some ⟨b5, o5 + 1, none⟩) 3 (c5 - 1) (vals y) (by rfl) (lf.Bytes.reads hIY.out) (vals_one _) (by simp [maxLen]; omega) (by omega) (by omega) ?_; intro v8 w8 hown8 hg8 _; have hO8 := Lib.hid (OwnB.push (l := ap) (x := y) hown8 hy3.symm); have hG8 := Lib.hid hg8; clear hown8 hg8)
                  go_roundw
                  case rel =>
                    exact ⟨k - 1, by omega, by go_num, Lib.hid ⟨by
                      rw [show x0 + 1 - (k - 1) = x0 + 1 - k + 1 by omega, rep_snoc, ← List.append_assoc, HAP.out]
                      exact hO8.out, hIS.out.row hG8.out (fun j e => (hIO.out.ge j e).1) hgw hNw, Bytes.row hIY.out hG8.out (fun a e f => by cases e; have := (hIO.out.ge _ f.symm).1; exact absurd hb5N (by show ¬ b5 < w.heap.size; exact Nat.not_lt.2 this)), hIG.out.andThen hG8.out (fun j e => .inl (hIO.out.ge j e).1), fun h => absurd HE7.out h⟩⟩
                  case measure => simp [intOf]; omega
              · have hkk : k = x0 + 1 := hIN.out (by rw [HE7.out]; exact he1)
                subst hkk
                have HNX2 := Lib.hid (show runsL W m' row y st1 = tot by have := HNX.out; rw [if_neg (by rw [HE7.out]; exact he1)] at this; exact this)
                have HIO2 := Lib.hid (show OwnB wi w.heap.size _ row by have := hIO.out; rw [Nat.sub_self] at this; simpa [rep] using this)
                go_wp2_with fail
                go_roundw
                case rel => exact ⟨m', row, y, st1, by have := HM.out; omega, by have := HM.out; go_num, Lib.hid ⟨HNX2.out, by rw [HLR.out]; omega, HIO2.out, .inr ⟨b5, o5 + 1, c5 - 1, by rw [hy3], by rw [hy3]; exact hIY.out⟩, hIS.out, hIG.out⟩⟩
                case measure => simp [intOf]; have := HM.out; omega
          · have ht1 : decide ((lr : Int) + 3 * ((x0 : Int) + 1) ≤ (r : Int)) = false := by simp; omega
            have hok : runOk W row last x = false := by
              unfold runOk
              rw [HX0.out, HYE.out, HLR.out, HRR.out, decide_eq_false ht, Bool.false_and]
            go_wp2_with fail
            (refine wp_region_up_tail 17 (by kernel_rfl) (by kernel_rfl) ?_; simp only [List.take_succ_cons, List.take_zero, List.drop_succ_cons, List.drop_zero]; (repeat (go_big_quiet_step (fail))); refine wpQuiet_nil ?_; rintro _ ⟨uq, rfl⟩)
            have HB6 := Lib.hid uq.ok
            generalize hwx : uq.val = w6 at *
            clear hwx uq U1 U2
            have HS6 := Lib.hid (HS5.out.below HB6.out)
            obtain ⟨st1, hst1⟩ : ∃ z, wt false (tkS 4 st) = z := ⟨_, rfl⟩
            go_wp2_with (go_at_call 33; refine (want_any g false _ _ HS6.out).mono ?_; rintro e w7 ⟨rfl, hs7, hg7⟩; have HS7 := Lib.hid hs7; have HG7 := Lib.hid hg7; clear hs7 hg7)
            rw [hst1] at HS7
            have HST1 := Lib.hid hst1
            have HG57 := Lib.hid (((HG5.out.trans (only_of_below HB6.out _))).trans HG7.out)
            have HO7 := Lib.hid (HO.out.grown HG57.out hgw)
            have HY7 := Lib.hid (HS6.out.only_bytes (HY.out.below HB6.out) HG7.out)
            have HG07 := Lib.hid (HGR.out.trans HG57.out)
            obtain ⟨m', hm'⟩ : ∃ m', m = m' + 1 := ⟨m - 1, by omega⟩
            have HM := Lib.hid hm'
            have HNX := Lib.hid (runs_next (tot := tot) (by first | (rw [← hm']; exact HT.out) | exact HT.out) HEC.out HX.out HYE.out HX0.out hok hst1)
            obtain ⟨e7, he7⟩ : ∃ e, st1.2 = e := ⟨_, rfl⟩
            have HE7 := Lib.hid he7
            clear hst1 hm' hok he7
            go_loopw [8, 11] (fun rv lv wr => ∃ k : Nat, k ≤ x0 + 1 ∧ lv = .int .i64 (k : Int) ∧ Hid (InnerAt N w g b5 o5 (c5 - 1) row y (x0 + 1) k st1 rv wr)) (fun _ lv _ => (intOf lv).toNat)
            case atStart => exact ⟨x0 + 1, Nat.le_refl _, by go_num, Lib.hid ⟨by have hz := HO7.out; rw [HLR.out] at hz; rw [Nat.sub_self]; simpa [rep] using hz, HS7.out, HY7.out, HG07.out, fun _ => rfl⟩⟩
            case round =>
              obtain ⟨k, hk, rfl, hI⟩ := hrel
              obtain ⟨wi, rfl⟩ : ∃ wi, wi = wr := ⟨_, rfl⟩
              obtain ⟨hO, hS, hYb, hG, hne⟩ := hI.out
              obtain ⟨A6, n6, c6, hbx, _, _⟩ := id hS
              have k1 := hbx.cell 1
              simp only [List.getElem?_toArray, List.getElem?_cons_succ, List.getElem?_cons_zero] at k1
              rw [HE7.out] at k1
              have hgi := hG.size
              have hIO := Lib.hid hO
              have hIS := Lib.hid hS
              have hIY := Lib.hid hYb
              have hIG := Lib.hid hG
              have hIN := Lib.hid hne
              clear hO hS hYb hG hne hbx hI
              by_cases he1 : e7 = 0
              · subst he1
                have he1 : st1.2 = 0 := HE7.out
                exact absurd he1 (by rw [← HST1.out]; exact wt_false _)
              · have hkk : k = x0 + 1 := hIN.out (by rw [HE7.out]; exact he1)
                subst hkk
                have HNX2 := Lib.hid (show runsL W m' row y st1 = tot by have := HNX.out; rw [if_neg (by rw [HE7.out]; exact he1)] at this; exact this)
                have HIO2 := Lib.hid (show OwnB wi w.heap.size _ row by have := hIO.out; rw [Nat.sub_self] at this; simpa [rep] using this)
                go_wp2_with fail
                go_roundw
                case rel => exact ⟨m', row, y, st1, by have := HM.out; omega, by have := HM.out; go_num, Lib.hid ⟨HNX2.out, by rw [HLR.out]; omega, HIO2.out, .inr ⟨b5, o5 + 1, c5 - 1, by rw [hy3], by rw [hy3]; exact hIY.out⟩, hIS.out, hIG.out⟩⟩
                case measure => simp [intOf]; have := HM.out; omega
        · obtain ⟨m', rfl⟩ : ∃ m', m = m' + 1 := ⟨m - 1, by omega⟩
          obtain ⟨A9, c9, rfl, hb9, _⟩ := HO.out.bytes
          have HB9 := Lib.hid hb9
          clear hb9
          go_wp2_with (go_at_call 33; refine (want_any g (decide ((row.length : Int) = (r : Int))) _ _ HST.out).mono ?_; rintro e w9 ⟨rfl, hs9, hg9⟩; have HS9 := Lib.hid hs9; have HG9 := Lib.hid hg9; clear hs9 hg9)
          go_ret
          have hTT : tot = (row, st) := by rw [← HT.out]; rw [runsL, if_neg (by rw [HEC.out]; exact he0)]
          rw [hTT]
          refine ⟨_, rfl, ⟨A9, c9, rfl, HST.out.only_bytes HB9.out HG9.out⟩, ?_, HGR.out.trans HG9.out⟩
          have hq : decide (row.length = r) = decide ((row.length : Int) = (r : Int)) := by simp; omega
          simp only [hq]
          exact HS9.out
  · obtain rfl : n = 0 := by omega
    replace hni : (((tkV 1 s1).getD 0 0).toNat : Int) = 0 := hni
    have hpp : (decide (0 < 0) && decide (2 + 4 * 0 < 1 + r)) = false := by simp
    go_wp2_with (first | (go_at_call 34; refine (take_any g 1 _ _ HS.out (by omega)).mono ?_; rintro e w1 ⟨A1, c1, rfl, hb1, hs1, hg1, hn1⟩; obtain ⟨b1, o1, rfl, hlt1, hc1⟩ := hb1.at_ (by omega); have c0 := hc1 0 (by omega); simp only [Nat.add_zero] at c0; rw [hxi] at c0; have HS1 := Lib.hid hs1; have HG1 := Lib.hid hg1; clear hb1 hs1 hg1 hc1 hn1 HS) | (go_at_call 33; refine (want_any g true _ _ HS1.out).mono ?_; rintro e w2 ⟨rfl, hs2, hg2⟩; obtain ⟨A2, n2, c2, hbx, hby2, _⟩ := id hs2; have k1 := hbx.cell 1; simp only [List.getElem?_toArray, List.getElem?_cons_succ, List.getElem?_cons_zero] at k1; rw [hp, hE] at k1; clear hbx hby2; have HS2 := Lib.hid hs2; have HG2 := Lib.hid hg2; clear hs2 hg2 HS1) | (go_at_call 34; refine (take_any g 1 _ _ HS2.out (by omega)).mono ?_; rintro e w3 ⟨A3, c3, rfl, hb3, hs3, hg3, hn3⟩; obtain ⟨b3, o3, rfl, hlt3, hc3⟩ := hb3.at_ (by omega); have c0 := hc3 0 (by omega); simp only [Nat.add_zero] at c0; rw [hp, hni] at c0; have HS3 := Lib.hid hs3; have HG3 := Lib.hid hg3; clear hb3 hs3 hg3 hc3 hn3 HS2) | (go_at_call 33; refine (want_any g false _ _ HS3.out).mono ?_; rintro e w4 ⟨rfl, hs4, hg4⟩; have HS4 := Lib.hid hs4; have HG4 := Lib.hid hg4; clear hs4 hg4 HS3))
    have HS4b := Lib.hid (show St N w4 g s2 by rw [← hs2, hpp, ← hp]; exact HS4.out)
    have HG := Lib.hid (((HG1.out.trans HG2.out).trans HG3.out).trans HG4.out)
    clear HS4 HG1 HG2 HG3 HG4 c0 k1 hs2 hp hxi hE hni
    go_loopw [7, 8, 9] (fun nv rv lv wr => ∃ (row last : List UInt8) (s : S), nv = .int .i64 0 ∧ Hid (RowedAt N w g W tot 0 row last s rv lv wr)) (fun nv _ _ _ => (intOf nv).toNat)
    case atStart => exact ⟨[], [], s2, rfl, Lib.hid ⟨HTOT.out, Nat.zero_le _, OwnB.none_ _ _, .inl ⟨rfl, rfl⟩, HS4b.out, HG.out⟩⟩
    case round =>
      obtain ⟨row, last, st, rfl, hR⟩ := hrel
      obtain ⟨wo, rfl⟩ : ∃ wo, wo = wr := ⟨_, rfl⟩
      obtain ⟨hT, hrl, hO, hL, hSt, hGr⟩ := hR.out
      obtain ⟨A6, n6, c6, hbx, _, _⟩ := id hSt
      have k1 := hbx.cell 1
      simp only [List.getElem?_toArray, List.getElem?_cons_succ, List.getElem?_cons_zero] at k1
      obtain ⟨ec, hec⟩ : ∃ e, st.2 = e := ⟨_, rfl⟩
      rw [hec] at k1
      have hrl2 : row.length ≤ 192 := by have := HRR.out; omega
      have HT := Lib.hid hT
      have HO := Lib.hid hO
      have HL := Lib.hid hL
      have HST := Lib.hid hSt
      have HGR := Lib.hid hGr
      have HEC := Lib.hid hec
      clear hT hO hL hSt hGr hbx hec hR
      obtain ⟨A9, c9, rfl, hb9, _⟩ := HO.out.bytes
      have HB9 := Lib.hid hb9
      clear hb9
      go_wp2_with (go_at_call 33; refine (want_any g (decide ((row.length : Int) = (r : Int))) _ _ HST.out).mono ?_; rintro e w9 ⟨rfl, hs9, hg9⟩; have HS9 := Lib.hid hs9; have HG9 := Lib.hid hg9; clear hs9 hg9)
      go_ret
      have hTT : tot = (row, st) := by rw [← HT.out]; rfl
      rw [hTT]
      refine ⟨_, rfl, ⟨A9, c9, rfl, HST.out.only_bytes HB9.out HG9.out⟩, ?_, HGR.out.trans HG9.out⟩
      have hq : decide (row.length = r) = decide ((row.length : Int) = (r : Int)) := by simp; omega
      simp only [hq]
      exact HS9.out
end Go.Proofs.Ytfmkdccpgkbnoaa.lf
