/-
  leaf's (*reader).row.
-/
import Derived.Test.YtfmkdccpgkbnoaaLeafS
import Derived.Test.YtfmkdccpgkbnoaaLeafR
namespace Go.Proofs.Ytfmkdccpgkbnoaa.lf
set_option linter.unusedVariables false
set_option linter.unusedSimpArgs false
open Go.RowKit bs

set_option maxRecDepth 100000 in
set_option maxHeartbeats 1600000 in
theorem row_err {N : Nat} (g W x : Nat) (s : S) (w : World) (h : St N w g s) (hW : 1 ≤ W ∧ W ≤ 64) (hx : hd 1 s = x) (s1 : S) (hs1 : wt (decide (x ≤ 1)) (tkS 1 s) = s1) (he : s1.2 ≠ 0) :
    Calls Try.prog 36 #[.pointer (some ⟨g, 0, none⟩), .int .i64 (W : Int)] w fun en w' => en = .returned (.slice none 0 0) ∧ St N w' g s1 ∧ w.grownBy w' (some g) := by
  have HS := Lib.hid h
  clear h
  obtain ⟨hW0, hW1⟩ := hW
  replace hx : ((tkV 1 s).getD 0 0).toNat = x := hx
  have hx255 : x ≤ 255 := by have := ((tkV 1 s).getD 0 0).toNat_lt; omega
  have hp : wt (decide ((x : Int) ≤ 1)) (tkS 1 s) = s1 := by rw [← hs1]; congr 1; simp; omega
  clear hs1
  have hxi : (((tkV 1 s).getD 0 0).toNat : Int) = (x : Int) := by rw [hx]
  obtain ⟨e1, hE⟩ : ∃ e1, s1.2 = e1 := ⟨_, rfl⟩
  rw [hE] at he
  go_enter Try.func36, Try.ntmps36
  go_wp2_with (first | (go_at_call 34; refine (take_any g 1 s _ HS.out (by omega)).mono ?_; rintro e w1 ⟨A1, c1, rfl, hb1, hs1, hg1, _⟩; obtain ⟨b1, o1, rfl, hlt1, hc1⟩ := hb1.at_ (by omega); have c0 := hc1 0 (by omega); simp only [Nat.add_zero] at c0; rw [hxi] at c0; have HS1 := Lib.hid hs1; have HG1 := Lib.hid hg1; clear hb1 hs1 hg1 hc1 HS) | (go_at_call 33; refine (want_any g (decide ((x : Int) ≤ 1)) _ _ HS1.out).mono ?_; rintro e w2 ⟨rfl, hs2, hg2⟩; obtain ⟨A2, n2, c2, hbx, hby2, _⟩ := id hs2; have k1 := hbx.cell 1; simp only [List.getElem?_toArray, List.getElem?_cons_succ, List.getElem?_cons_zero] at k1; rw [hp, hE] at k1; clear hbx hby2; have HS2 := Lib.hid hs2; have HG2 := Lib.hid hg2; clear hs2 hg2 HS1))
  go_ret
  exact ⟨rfl, by rw [← hp]; exact HS2.out, HG1.out.trans HG2.out⟩

set_option maxRecDepth 100000 in
set_option maxHeartbeats 1600000 in
theorem row_plain {N : Nat} (g W x : Nat) (s : S) (w : World) (h : St N w g s) (hW : 1 ≤ W ∧ W ≤ 64) (hx : hd 1 s = x) (s1 : S) (hs1 : wt (decide (x ≤ 1)) (tkS 1 s) = s1) (he : s1.2 = 0) (hx0 : x = 0) :
    Calls Try.prog 36 #[.pointer (some ⟨g, 0, none⟩), .int .i64 (W : Int)] w fun en w' => ∃ A c, en = .returned (.slice A (3 * W) c) ∧ Bytes w' A (3 * W) c (plainL W s1).1 ∧ St N w' g (plainL W s1).2 ∧ w.grownBy w' (some g) := by
  have HS := Lib.hid h
  clear h
  obtain ⟨hW0, hW1⟩ := hW
  replace hx : ((tkV 1 s).getD 0 0).toNat = x := hx
  have hx255 : x ≤ 255 := by have := ((tkV 1 s).getD 0 0).toNat_lt; omega
  have hp : wt (decide ((x : Int) ≤ 1)) (tkS 1 s) = s1 := by rw [← hs1]; congr 1; simp; omega
  clear hs1
  have hxi : (((tkV 1 s).getD 0 0).toNat : Int) = (x : Int) := by rw [hx]
  obtain ⟨e1, hE⟩ : ∃ e1, s1.2 = e1 := ⟨_, rfl⟩
  rw [hE] at he
  subst he
  subst hx0
  replace hxi : (((tkV 1 s).getD 0 0).toNat : Int) = 0 := hxi
  replace hp : wt true (tkS 1 s) = s1 := hp
  obtain ⟨r, hr⟩ : ∃ r, 3 * W = r := ⟨_, rfl⟩
  obtain ⟨row, hrow⟩ : ∃ row, tkV r s1 = row := ⟨_, rfl⟩
  obtain ⟨q, hq⟩ : ∃ q, (runsB row W).length = q := ⟨_, rfl⟩
  have hql : q ≤ 300 := by
    have h1 := runsB_len row W
    have h2 := rle_len (pxs row 0 W)
    rw [pxs_len] at h2
    omega
  have hP : plainL W s1 = (row, wt (decide (1 + r ≤ q)) (tkS r s1)) := by unfold plainL; rw [hr, hrow, hq]
  rw [hP, hr]
  have e0 : 3 * (W : Int) = (r : Int) := by omega
  have hr192 : 1 ≤ r ∧ r ≤ 192 := by omega
  have hqd : decide (1 + r ≤ q) = decide (1 + (r : Int) ≤ (q : Int)) := by simp; omega
  have HRR := Lib.hid hr
  have HQD := Lib.hid hqd
  clear hr hP hqd
  go_enter Try.func36, Try.ntmps36
  go_wp2_with (first | (go_at_call 34; refine (take_any g 1 s _ HS.out (by omega)).mono ?_; rintro e w1 ⟨A1, c1, rfl, hb1, hs1, hg1, _⟩; obtain ⟨b1, o1, rfl, hlt1, hc1⟩ := hb1.at_ (by omega); have c0 := hc1 0 (by omega); simp only [Nat.add_zero] at c0; rw [hxi] at c0; have HS1 := Lib.hid hs1; have HG1 := Lib.hid hg1; clear hb1 hs1 hg1 hc1 HS) | (go_at_call 33; refine (want_any g true _ _ HS1.out).mono ?_; rintro e w2 ⟨rfl, hs2, hg2⟩; obtain ⟨A2, n2, c2, hbx, hby2, _⟩ := id hs2; have k1 := hbx.cell 1; simp only [List.getElem?_toArray, List.getElem?_cons_succ, List.getElem?_cons_zero] at k1; rw [hp, hE] at k1; clear hbx hby2; have HS2 := Lib.hid hs2; have HG2 := Lib.hid hg2; clear hs2 hg2 HS1) | (go_at_call 34; refine (take_any g r _ _ HS2.out (by omega)).mono ?_; rintro e w3 ⟨A3, c3, rfl, hb3, hs3, hg3, _⟩; rw [hp, hrow] at hb3; have HB3 := Lib.hid hb3; have HS3 := Lib.hid hs3; have HG3 := Lib.hid hg3; clear hb3 hs3 hg3) | (go_at_call 30; refine (runs_any W r c3 A3 row _ (by have := HRR.out; omega) hW1 HB3.out).mono ?_; rintro e w4 ⟨v4, rfl, hv4, hbw4⟩; obtain ⟨A4, c4, rfl, hv4b, hv4o⟩ := hv4.bytes; rw [hq]; have HB4 := Lib.hid (HB3.out.below hbw4); have HS4 := Lib.hid (HS3.out.below hbw4); have HG4 := Lib.hid (only_of_below hbw4 (some g)); clear hv4 hv4b hv4o hbw4) | (go_at_call 33; refine (want_any g _ _ _ HS4.out).mono ?_; rintro e w5 ⟨rfl, hs5, hg5⟩; have HS5 := Lib.hid hs5; have HG5 := Lib.hid hg5; clear hs5 hg5))
  go_ret
  refine ⟨_, _, rfl, HS4.out.only_bytes HB4.out HG5.out, ?_, (((HG1.out.trans HG2.out).trans HG3.out).trans HG4.out).trans HG5.out⟩
  rw [HQD.out, ← hp]
  exact HS5.out
end Go.Proofs.Ytfmkdccpgkbnoaa.lf
