/-
  The contract of tympanhelp.Same at runs; the reference's Two.
-/
import Derived.Test.YtaimijgjpjhppaaRefRuns
namespace Go.Proofs.Ytaimijgjpjhppaa.sp
set_option linter.unusedVariables false
set_option linter.unusedSimpArgs false
open Go.RowKit bs

theorem same_step {l m : List (Int × Int)} {k : Nat} (hl : k < l.length) (hm : k < m.length) (h : l.take k = m.take k) (e1 : l[k].1 = m[k].1) (e2 : l[k].2 = m[k].2) : l.take (k + 1) = m.take (k + 1) := by
  rw [List.take_succ_eq_append_getElem hl, List.take_succ_eq_append_getElem hm, h]
  congr 2
  exact Prod.ext e1 e2

set_option maxRecDepth 100000 in
set_option maxHeartbeats 1600000 in
theorem same_any (A B : Option Addr) (n c m d : Nat) (l k : List (Int × Int)) (w : World) (hl : Runs w A n c l) (hk : Runs w B m d k) (hn : n ≤ 9223372036854775807) (hm : m ≤ 9223372036854775807) :
    Calls Try.prog 10 #[.slice A n c, .slice B m d] w fun e w' => e = .returned (.bool (decide (l = k))) ∧ Below w.heap.size w w' := by
  by_cases hnm : n = m
  · subst hnm
    go_enter Try.func10, Try.ntmps10
    go_wp2_with fail
    go_loopw [5] (fun iv wr => ∃ i : Nat, i ≤ n ∧ iv = .int .i64 i ∧ Hid (l.take i = k.take i) ∧ ∃ q, wr = w.drewN q) (fun iv _ => n - (intOf iv).toNat)
    case atStart => exact ⟨0, by omega, rfl, rfl, 0, rfl⟩
    case round =>
      obtain ⟨i, hi, rfl, heq, q, rfl⟩ := hrel
      by_cases hlt : i < n
      · obtain ⟨hl1, hl2, hlc⟩ := hl
        obtain ⟨b1, o1, rfl, hb1, hlc⟩ := hlc (by omega)
        obtain ⟨hk1, hk2, hkc⟩ := hk
        obtain ⟨b2, o2, rfl, hb2, hkc⟩ := hkc (by omega)
        obtain ⟨c1, c2⟩ := hlc i (by omega)
        obtain ⟨c3, c4⟩ := hkc i (by omega)
        have hstep := same_step (l := l) (m := k) (k := i) (by omega) (by omega) heq.out
        have hno1 : l = k → l[i].1 = k[i].1 ∧ l[i].2 = k[i].2 := fun e => by subst e; exact ⟨rfl, rfl⟩
        generalize l[i].1 = x1 at *
        generalize l[i].2 = y1 at *
        generalize k[i].1 = x2 at *
        generalize k[i].2 = y2 at *
        have HST := Lib.hid hstep
        have HNO := Lib.hid hno1
        have hi2 : (i : Int) < (n : Int) := by omega
        clear hstep hno1 hlc hkc hl1 hk1
        by_cases e1 : x1 = x2
        · have b1 : (x1 == x2) = true := by simp [e1]
          by_cases e2 : y1 = y2
          · have b2 : (y1 == y2) = true := by simp [e2]
            have hnext := Lib.hid (HST.out e1 e2)
            clear e1 e2
            go_wp2_with fail
            go_quiet (fail)
            go_wp2_with fail
            go_roundw
            case rel => exact ⟨i + 1, by omega, by go_num, hnext, _, rfl⟩
            case measure => simp [intOf]; omega
          · have b2 : (y1 == y2) = false := by simp [e2]
            have hf : decide (l = k) = false := by simp; intro e; exact e2 (HNO.out e).2
            have HF := Lib.hid hf
            clear e1 e2 hf
            go_wp2_with fail
            go_quiet (fail)
            go_wp2_with fail
            go_ret
            exact ⟨ret_bool HF.out.symm, by (repeat' (first | exact Below.refl _ _ | exact Below.refl _ _ | refine balloc ?_ _ | refine Below.drew ?_ | refine below_drewN ?_ _ | refine bset ?_ (by first | omega | (simp <;> omega)) _))⟩
        · have b1 : (x1 == x2) = false := by simp [e1]
          have hf : decide (l = k) = false := by simp; intro e; exact e1 (HNO.out e).1
          have HF := Lib.hid hf
          clear e1 hf
          go_wp2_with fail
          go_quiet (fail)
          go_wp2_with fail
          go_ret
          exact ⟨ret_bool HF.out.symm, by (repeat' (first | exact Below.refl _ _ | exact Below.refl _ _ | refine balloc ?_ _ | refine Below.drew ?_ | refine below_drewN ?_ _ | refine bset ?_ (by first | omega | (simp <;> omega)) _))⟩
      · obtain rfl : i = n := by omega
        have ht : l = k := by
          have h1 := heq.out
          rwa [List.take_of_length_le (by have := hl.1; omega), List.take_of_length_le (by have := hk.1; omega)] at h1
        have HT := Lib.hid ht
        clear ht
        go_wp2_with fail
        go_ret
        exact ⟨ret_bool (by simp [HT.out]), by (repeat' (first | exact Below.refl _ _ | exact Below.refl _ _ | refine balloc ?_ _ | refine Below.drew ?_ | refine below_drewN ?_ _ | refine bset ?_ (by first | omega | (simp <;> omega)) _))⟩
  · have he : decide (l = k) = false := by simp; intro e; exact hnm (by rw [← hl.1, ← hk.1, e])
    rw [he]
    clear he
    have d1 : ((n : Int) != (m : Int)) = true := by rw [bne_iff_ne]; omega
    clear hnm
    go_enter Try.func10, Try.ntmps10
    go_wp2_with fail
    go_ret
    exact ⟨rfl, Below.refl _ _⟩
end Go.Proofs.Ytaimijgjpjhppaa.sp
