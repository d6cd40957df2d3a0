/-
  Layer 37: a row's bytes, downwards division, and the reference's.
-/
import Derived.Test.YtegpjjkbbdfggaaFixI
namespace Go.Proofs.Ytegpjjkbbdfggaa.im
set_option linter.unusedVariables false
set_option linter.unusedSimpArgs false
open Go.RowKit bs mt

/-- the bytes of a row -/
def rowI (W B : Int) : Int := (W * B + 7) / 8
theorem rowI_bd {W B : Int} (hW : 1 ≤ W ∧ W ≤ 64) (hB : 1 ≤ B ∧ B ≤ 8) : 1 ≤ W * B ∧ W * B ≤ 512 ∧ 1 ≤ rowI W B ∧ rowI W B ≤ 64 := by
  have h1 := Int.mul_nonneg (show 0 ≤ W - 1 by omega) (show 0 ≤ B - 1 by omega)
  have h2 := Int.mul_nonneg (show 0 ≤ 64 - W by omega) (show 0 ≤ B by omega)
  simp only [Int.sub_mul, Int.mul_sub] at h1 h2
  unfold rowI
  omega

theorem row_any (W H B : Int) (s : ByteArray) (w : World) (hW : 1 ≤ W ∧ W ≤ 64) (hB : 1 ≤ B ∧ B ≤ 8) : Calls Try.prog 55 #[.agg #[.int .i64 W, .int .i64 H, .int .i64 B, .string s]] w fun e w' => e = .returned (.int .i64 (rowI W B)) ∧ Below w.heap.size w w' := by
  obtain ⟨h1, h2, _, _⟩ := rowI_bd hW hB
  have hd : (W * B + 7).tdiv 8 = rowI W B := Int.tdiv_eq_ediv_of_nonneg (by omega)
  generalize rowI W B = R at *
  generalize hn : W * B = n at *
  go_enter Try.func55, Try.ntmps55
  go_wp2_with fail
  go_ret
  exact ⟨rfl, by (repeat' (first | exact Below.refl _ _ | exact Below.refl _ _ | refine balloc ?_ _ | refine Below.drew ?_ | refine below_drewN ?_ _ | refine bset ?_ (by first | omega | (simp <;> omega)) _))⟩
theorem rrow_any (W H B : Int) (s : ByteArray) (w : World) (hW : 1 ≤ W ∧ W ≤ 64) (hB : 1 ≤ B ∧ B ≤ 8) : Calls Try.prog 56 #[.agg #[.int .i64 W, .int .i64 H, .int .i64 B, .string s]] w fun e w' => e = .returned (.int .i64 (rowI W B)) ∧ Below w.heap.size w w' := by
  obtain ⟨h1, h2, _, _⟩ := rowI_bd hW hB
  have hd : (W * B + 7).tdiv 8 = rowI W B := Int.tdiv_eq_ediv_of_nonneg (by omega)
  generalize rowI W B = R at *
  generalize hn : W * B = n at *
  go_enter Try.func56, Try.ntmps56
  go_wp2_with fail
  go_ret
  exact ⟨rfl, by (repeat' (first | exact Below.refl _ _ | exact Below.refl _ _ | refine balloc ?_ _ | refine Below.drew ?_ | refine below_drewN ?_ _ | refine bset ?_ (by first | omega | (simp <;> omega)) _))⟩

/-- division downwards by what is not 0 -/
def downI (a b : Int) : Int := if b < 0 then (-a) / (-b) else a / b
theorem div_cases (a b : Int) (hb : 0 < b) : ∃ q r : Int, a.tdiv b = q ∧ a.tmod b = r ∧ (r < 0 → a / b = q - 1 ∧ a < 0) ∧ (0 ≤ r → a / b = q) ∧ (r = 0 → a / b = q) ∧ (r ≠ 0 → a < 0 → r < 0) ∧ (0 ≤ a → 0 ≤ r) ∧ (0 ≤ a → q ≤ a ∧ 0 ≤ q) ∧ (a ≤ 0 → a ≤ q ∧ q ≤ 0) ∧ -b < r ∧ r < b := by
  refine ⟨a.tdiv b, a.tmod b, rfl, rfl, ?_⟩
  have e := Int.mul_tdiv_add_tmod a b
  have n := Int.natAbs_tdiv_le_natAbs a b
  rcases Int.le_total 0 a with h | h
  · have h1 := Int.tmod_nonneg b h
    have h2 := Int.tmod_lt_of_pos a hb
    have h3 := Int.tdiv_nonneg h (Int.le_of_lt hb)
    have h4 : a / b = a.tdiv b := (Int.tdiv_eq_ediv_of_nonneg h).symm
    refine ⟨fun _ => by omega, fun _ => h4, fun _ => h4, fun _ _ => by omega, fun _ => h1, fun _ => by omega, fun _ => by omega, by omega, h2⟩
  · have h1 : (-a).tmod b = -a.tmod b := Int.neg_tmod a b
    have h2 : (-a).tdiv b = -a.tdiv b := Int.neg_tdiv a b
    have h3 := Int.tmod_nonneg b (show 0 ≤ -a by omega)
    have h4 := Int.tmod_lt_of_pos (-a) hb
    have h5 := Int.tdiv_nonneg (show 0 ≤ -a by omega) (Int.le_of_lt hb)
    rw [h1] at h3 h4
    rw [h2] at h5
    have u0 : a.tmod b = 0 → a / b = a.tdiv b := fun h0 => ((Int.ediv_emod_unique hb).2 ⟨by rw [h0] at e; omega, Int.le_refl 0, hb⟩).1
    have u1 : a.tmod b < 0 → a / b = a.tdiv b - 1 := fun h0 => ((Int.ediv_emod_unique (r := a.tmod b + b) hb).2 ⟨by rw [Int.mul_sub]; omega, by omega, by omega⟩).1
    refine ⟨fun h0 => ⟨u1 h0, ?_⟩, fun h0 => u0 (by omega), u0, fun _ _ => by omega, fun ha => by (have h9 : a = 0 := by omega); subst h9; simp, fun ha => ⟨by omega, by omega⟩, fun _ => ⟨by omega, by omega⟩, by omega, by omega⟩
    rcases Int.lt_or_eq_of_le h with h6 | h6
    · exact h6
    · subst h6; simp at h0

theorem down_any (a b : Int) (w : World) (ha : -4611686018427387904 ≤ a ∧ a ≤ 4611686018427387904) (hb : -4611686018427387904 ≤ b ∧ b ≤ 4611686018427387904) (h0 : b ≠ 0) : Calls Try.prog 102 #[.int .i64 a, .int .i64 b] w fun e w' => e = .returned (.int .i64 (downI a b)) ∧ w = w' := by
  unfold downI
  rcases Int.lt_or_gt_of_ne h0 with h | h
  · obtain ⟨q, r, hq, hr, c1, c2, c3, c4, c5, c6, c7, c8, c9⟩ := div_cases (-a) (-b) (by omega)
    rw [if_pos h]
    have hz : (-b == 0) = false := by simp; omega
    rcases Int.lt_or_le r 0 with hr0 | hr0
    · rw [(c1 hr0).1]
      go_enter Try.func102, Try.ntmps102
      go_wp2_with fail
      go_ret
      exact ⟨rfl, rfl⟩
    · rw [c2 hr0]
      go_enter Try.func102, Try.ntmps102
      go_wp2_with fail
      go_ret
      exact ⟨rfl, rfl⟩
  · obtain ⟨q, r, hq, hr, c1, c2, c3, c4, c5, c6, c7, c8, c9⟩ := div_cases a b h
    rw [if_neg (by omega)]
    have hz : (b == 0) = false := by simp; omega
    rcases Int.lt_or_le r 0 with hr0 | hr0
    · rw [(c1 hr0).1]
      go_enter Try.func102, Try.ntmps102
      go_wp2_with fail
      go_ret
      exact ⟨rfl, rfl⟩
    · rw [c2 hr0]
      go_enter Try.func102, Try.ntmps102
      go_wp2_with fail
      go_ret
      exact ⟨rfl, rfl⟩

theorem rcoord_any (v : Int) (w : World) : Calls Try.prog 61 #[.int .i64 v] w fun e w' => e = .returned (.bool (decide (-8191 ≤ v) && decide (v ≤ 8191))) ∧ w = w' := by
  by_cases h0 : v < -8191
  · rw [show (decide (-8191 ≤ v) && decide (v ≤ 8191)) = false by simp; omega]
    go_enter Try.func61, Try.ntmps61
    go_wp2_with fail
    go_ret
    exact ⟨rfl, rfl⟩
  · rw [show (decide (-8191 ≤ v) && decide (v ≤ 8191)) = decide (v ≤ 8191) by rw [show decide (-8191 ≤ v) = true by simp; omega]; rfl]
    go_enter Try.func61, Try.ntmps61
    go_wp2_with fail
    go_ret
    exact ⟨rfl, rfl⟩

theorem rdiv_any (a b : Int) (w : World) (ha : -4611686018427387904 ≤ a ∧ a ≤ 4611686018427387904) (hb : -4611686018427387904 ≤ b ∧ b ≤ 4611686018427387904) (h0 : b ≠ 0) : Calls Try.prog 63 #[.int .i64 a, .int .i64 b] w fun e w' => e = .returned (.int .i64 (downI a b)) ∧ w = w' := by
  unfold downI
  have hz : (b == 0) = false := by simp; omega
  rcases Int.lt_or_gt_of_ne h0 with h | h
  · obtain ⟨q, r, hq, hr, c1, c2, c3, c4, c5, c6, c7, c8, c9⟩ := div_cases (-a) (-b) (by omega)
    rw [if_pos h]
    have hq2 : a.tdiv b = q := by rw [← hq, Int.neg_tdiv_neg]
    have hr2 : a.tmod b = -r := by rw [← hr, Int.neg_tmod, Int.tmod_neg]; omega
    clear hq hr
    by_cases hr0 : r = 0
    · rw [c3 hr0]
      subst hr0
      go_enter Try.func63, Try.ntmps63
      go_wp2_with fail
      go_ret
      exact ⟨rfl, rfl⟩
    · have hn : (-r == 0) = false := by simp; omega
      have hn2 : ¬ -r = 0 := by omega
      by_cases ha0 : a < 0
      · rw [c2 (c5 (by omega))]
        go_enter Try.func63, Try.ntmps63
        go_wp2_with fail
        go_ret
        exact ⟨rfl, rfl⟩
      · have hap : a ≠ 0 := by intro h9; subst h9; simp at hr2; omega
        rw [(c1 (c4 hr0 (by omega))).1]
        go_enter Try.func63, Try.ntmps63
        go_wp2_with fail
        go_ret
        exact ⟨rfl, rfl⟩
  · obtain ⟨q, r, hq, hr, c1, c2, c3, c4, c5, c6, c7, c8, c9⟩ := div_cases a b h
    rw [if_neg (by omega)]
    by_cases hr0 : r = 0
    · rw [c3 hr0]
      subst hr0
      go_enter Try.func63, Try.ntmps63
      go_wp2_with fail
      go_ret
      exact ⟨rfl, rfl⟩
    · have hn : (r == 0) = false := by simp; omega
      have hn3 : (r != 0) = true := by simp; omega
      have hbn : decide (b < 0) = false := by simp; omega
      by_cases ha0 : a < 0
      · rw [(c1 (c4 hr0 ha0)).1]
        go_enter Try.func63, Try.ntmps63
        go_wp2_with fail
        go_ret
        exact ⟨rfl, rfl⟩
      · rw [c2 (c5 (by omega))]
        go_enter Try.func63, Try.ntmps63
        go_wp2_with fail
        go_ret
        exact ⟨rfl, rfl⟩
end Go.Proofs.Ytegpjjkbbdfggaa.im
