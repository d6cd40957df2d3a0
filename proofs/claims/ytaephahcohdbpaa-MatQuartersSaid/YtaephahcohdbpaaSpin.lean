/-
  Layer 4: Sin and Cos; layer 24: Spin.
-/
import Derived.Test.YtaephahcohdbpaaSine2
import Derived.Test.YtaephahcohdbpaaMulA
namespace Go.Proofs.Ytaephahcohdbpaa.mt
set_option linter.unusedVariables false
set_option linter.unusedSimpArgs false
open Go.RowKit bs

theorem tab0 : tab.getD 0 0 = 0 := by decide
theorem tab90 : tab.getD 90 0 = 65536 := by decide
theorem sin_low (r : Int) (h0 : 0 ≤ r ∧ r ≤ 11796480) : ∃ v : Int, (-70000 ≤ v ∧ v ≤ 70000) ∧ (r = 0 → v = 0) ∧ (r = 5898240 → v = 65536) ∧ (r = 11796480 → v = 0) ∧
    ∀ deg, deg % 23592960 = r → ∀ w, Calls Try.prog 50 #[.int .i64 deg] w fun e w' => e = .returned (.int .i64 v) ∧ Below w.heap.size w w' := by
  by_cases hq : r ≤ 5898240
  · obtain ⟨v, hv, hx, hs⟩ := sine_any r ⟨h0.1, hq⟩
    refine ⟨v, hv, fun h => ?_, fun h => ?_, fun h => absurd h (by omega), fun deg hd w => ?_⟩
    · subst h; exact (hx (by decide)).trans tab0
    · subst h; exact (hx (by decide)).trans tab90
    · have HB := Lib.hid (fun W => show Calls Try.prog 69 #[.int .i64 deg] W fun e w' => e = .returned (.int .i64 r) ∧ W = w' by have := brought_any deg W; rw [hd] at this; exact this)
      have HS := Lib.hid hs
      have c1 : decide (11796480 < r) = false := by simp; omega
      have c2 : decide (5898240 < r) = false := by simp; omega
      clear hd hx hs
      go_enter Try.func50, Try.ntmps50
      go_wp2_with fail
      refine (HB.out _).mono ?_
      rintro e_ w_ ⟨rfl, rfl⟩
      go_wp2_with fail
      refine (HS.out _).mono ?_
      rintro e_ w1 ⟨rfl, hb1⟩
      go_wp2_with fail
      go_ret
      exact ⟨rfl, hb1⟩
  · obtain ⟨r2, hr2⟩ : ∃ r2, 11796480 - r = r2 := ⟨_, rfl⟩
    obtain ⟨v, hv, hx, hs⟩ := sine_any r2 (by omega)
    refine ⟨v, hv, fun h => absurd h (by omega), fun h => absurd h (by omega), fun h => ?_, fun deg hd w => ?_⟩
    · have : r2 = 0 := by omega
      subst this
      exact (hx (by decide)).trans tab0
    · have HB := Lib.hid (fun W => show Calls Try.prog 69 #[.int .i64 deg] W fun e w' => e = .returned (.int .i64 r) ∧ W = w' by have := brought_any deg W; rw [hd] at this; exact this)
      have HS := Lib.hid hs
      have c1 : decide (11796480 < r) = false := by simp; omega
      have c2 : decide (5898240 < r) = true := by simp; omega
      clear hd hx hs
      go_enter Try.func50, Try.ntmps50
      go_wp2_with fail
      refine (HB.out _).mono ?_
      rintro e_ w_ ⟨rfl, rfl⟩
      go_wp2_with fail
      refine (HS.out _).mono ?_
      rintro e_ w1 ⟨rfl, hb1⟩
      go_wp2_with fail
      go_ret
      exact ⟨rfl, hb1⟩
theorem sin_any (r : Int) (h0 : 0 ≤ r ∧ r < 23592960) : ∃ v : Int, (-70000 ≤ v ∧ v ≤ 70000) ∧ (r = 0 → v = 0) ∧ (r = 5898240 → v = 65536) ∧ (r = 11796480 → v = 0) ∧ (r = 17694720 → v = -65536) ∧
    ∀ deg, deg % 23592960 = r → ∀ w, Calls Try.prog 50 #[.int .i64 deg] w fun e w' => e = .returned (.int .i64 v) ∧ Below w.heap.size w w' := by
  by_cases hq : r ≤ 11796480
  · obtain ⟨v, hv, h1, h2, h3, hs⟩ := sin_low r ⟨h0.1, hq⟩
    exact ⟨v, hv, h1, h2, h3, fun h => absurd h (by omega), hs⟩
  · obtain ⟨r2, hr2⟩ : ∃ r2, r - 11796480 = r2 := ⟨_, rfl⟩
    obtain ⟨v, hv, h1, h2, h3, hs⟩ := sin_low r2 (by omega)
    refine ⟨-v, by omega, fun h => absurd h (by omega), fun h => absurd h (by omega), fun h => absurd h (by omega), fun h => by have := h2 (by omega); omega, fun deg hd w => ?_⟩
    have HB := Lib.hid (fun W => show Calls Try.prog 69 #[.int .i64 deg] W fun e w' => e = .returned (.int .i64 r) ∧ W = w' by have := brought_any deg W; rw [hd] at this; exact this)
    have HS := Lib.hid (hs r2 (by omega))
    have c1 : decide (11796480 < r) = true := by simp; omega
    clear hd h1 h2 h3 hs
    obtain ⟨hv0, hv1⟩ := hv
    go_enter Try.func50, Try.ntmps50
    go_wp2_with fail
    refine (HB.out _).mono ?_
    rintro e_ w_ ⟨rfl, rfl⟩
    go_wp2_with fail
    refine (HS.out _).mono ?_
    rintro e_ w1 ⟨rfl, hb1⟩
    go_wp2_with fail
    go_ret
    exact ⟨rfl, hb1⟩
theorem cos_any (r : Int) (h0 : 0 ≤ r ∧ r < 23592960) : ∃ v : Int, (-70000 ≤ v ∧ v ≤ 70000) ∧ (r = 0 → v = 65536) ∧ (r = 5898240 → v = 0) ∧ (r = 11796480 → v = -65536) ∧ (r = 17694720 → v = 0) ∧
    ∀ deg, deg % 23592960 = r → ∀ w, Calls Try.prog 49 #[.int .i64 deg] w fun e w' => e = .returned (.int .i64 v) ∧ Below w.heap.size w w' := by
  obtain ⟨v, hv, h1, h2, h3, h4, hs⟩ := sin_any ((r + 5898240) % 23592960) (by omega)
  refine ⟨v, hv, fun h => h2 (by omega), fun h => h3 (by omega), fun h => h4 (by omega), fun h => h1 (by omega), fun deg hd w => ?_⟩
  have HB := Lib.hid (fun W => show Calls Try.prog 69 #[.int .i64 deg] W fun e w' => e = .returned (.int .i64 r) ∧ W = w' by have := brought_any deg W; rw [hd] at this; exact this)
  have HS := Lib.hid (hs (r + 5898240) rfl)
  clear hd h1 h2 h3 h4 hs
  go_enter Try.func49, Try.ntmps49
  go_wp2_with fail
  refine (HB.out _).mono ?_
  rintro e_ w_ ⟨rfl, rfl⟩
  go_wp2_with fail
  refine (HS.out _).mono ?_
  rintro e_ w1 ⟨rfl, hb1⟩
  go_wp2_with fail
  go_ret
  exact ⟨rfl, hb1⟩

set_option maxHeartbeats 1600000 in
theorem spin_of (s c deg : Int) (w : World) (bs : -70000 ≤ s ∧ s ≤ 70000) (bc : -70000 ≤ c ∧ c ≤ 70000) (hs : ∀ w, Calls Try.prog 50 #[.int .i64 deg] w fun e w' => e = .returned (.int .i64 s) ∧ Below w.heap.size w w') (hc : ∀ w, Calls Try.prog 49 #[.int .i64 deg] w fun e w' => e = .returned (.int .i64 c) ∧ Below w.heap.size w w') :
    Calls Try.prog 48 #[.int .i64 deg] w fun e w' => e = .returned (.agg #[.int .i64 c, .int .i64 s, .int .i64 (-s), .int .i64 c, .int .i64 0, .int .i64 0]) ∧ Below w.heap.size w w' := by
  have HS := Lib.hid hs
  have HC := Lib.hid hc
  clear hs hc
  obtain ⟨bs0, bs1⟩ := bs
  have K0 := Blk.new w 23 #[.int .i64 0, .int .i64 0, .int .i64 0, .int .i64 0, .int .i64 0, .int .i64 0]
  go_enter Try.func48, Try.ntmps48
  go_wp2_with fail
  refine (HS.out _).mono ?_
  rintro e_ w1 ⟨rfl, hb1⟩
  replace K0 := K0.below hb1 (by simp)
  have hbw : Below w.heap.size w w1 := btrans (by (repeat' (first | exact Below.refl _ _ | exact Below.refl _ _ | refine balloc ?_ _ | refine Below.drew ?_ | refine below_drewN ?_ _ | refine bset ?_ (by first | omega | (simp <;> omega)) _))) hb1
  have l0 := K0.lt
  clear hb1
  go_wp2_with fail
  refine (HC.out _).mono ?_
  rintro e_ w2 ⟨rfl, hb1⟩
  replace K0 := K0.below hb1 l0
  replace hbw := btrans hbw hb1
  have q0 := K0.cell 0
  have q1 := K0.cell 1
  have q2 := K0.cell 2
  have q3 := K0.cell 3
  have q4 := K0.cell 4
  have q5 := K0.cell 5
  have f0 := K0.frozen 0
  have f1 := K0.frozen 1
  have f2 := K0.frozen 2
  have f3 := K0.frozen 3
  have f4 := K0.frozen 4
  have f5 := K0.frozen 5
  simp only [List.getElem?_toArray, List.getElem?_cons_succ, List.getElem?_cons_zero] at q0 q1 q2 q3 q4 q5
  have HK := Lib.hid K0
  have HBW := Lib.hid hbw
  clear K0 hbw hb1 l0
  go_wp2_with fail
  have K := (((((HK.out.set_ 0 (.int .i64 c)).set_ 1 (.int .i64 s)).set_ 2 (.int .i64 (-s))).set_ 3 (.int .i64 c)).set_ 4 (.int .i64 0)).set_ 5 (.int .i64 0)
  refine ret_struct1 (g := w.heap.size) (t := 23) (cs := #[.int .i64 c, .int .i64 s, .int .i64 (-s), .int .i64 c, .int .i64 0, .int .i64 0]) rfl rfl ?_ Try.underlying23 rfl rfl rfl ?_
  · exact K
  · exact ⟨rfl, by (repeat' (first | refine bset ?_ (by first | omega | (simp <;> omega)) _ | refine balloc ?_ _ | refine Below.drew ?_ | refine below_drewN ?_ _ | exact HBW.out | exact Below.refl _ _))⟩
end Go.Proofs.Ytaephahcohdbpaa.mt
