/-
  Layer 24's arithmetic: the root of a whole number, downwards, bit by bit.
-/
import Derived.Test.YtaephahcohdbpaaParts
namespace Go.Proofs.Ytaephahcohdbpaa.mt
set_option linter.unusedVariables false
set_option linter.unusedSimpArgs false
open Go.RowKit bs

/-- the root, downwards -/
def isq : Nat → Nat
  | 0 => 0
  | n + 1 => if (isq n + 1) * (isq n + 1) ≤ n + 1 then isq n + 1 else isq n
theorem isq_spec (n : Nat) : isq n * isq n ≤ n ∧ n < (isq n + 1) * (isq n + 1) := by
  induction n with
  | zero => decide
  | succ n ih =>
    obtain ⟨h1, h2⟩ := ih
    unfold isq
    split
    · rename_i h
      refine ⟨h, ?_⟩
      have e : (isq n + 1 + 1) * (isq n + 1 + 1) = (isq n + 1) * (isq n + 1) + 2 * (isq n + 1) + 1 := by
        rw [Nat.add_mul, Nat.mul_add]; omega
      rw [e]
      omega
    · rename_i h
      exact ⟨by omega, by omega⟩
theorem isq_le {n t : Nat} : t ≤ isq n ↔ t * t ≤ n := by
  obtain ⟨h1, h2⟩ := isq_spec n
  constructor
  · intro h
    exact Nat.le_trans (Nat.mul_le_mul h h) h1
  · intro h
    rcases Nat.lt_or_ge (isq n) t with hlt | hge
    · have := Nat.mul_le_mul (show isq n + 1 ≤ t from hlt) (show isq n + 1 ≤ t from hlt)
      omega
    · exact hge
theorem isq_eq {n r : Nat} (h1 : r * r ≤ n) (h2 : n < (r + 1) * (r + 1)) : isq n = r := by
  have a := isq_le.2 h1
  rcases Nat.lt_or_ge r (isq n) with h | h
  · have := isq_le.1 (show r + 1 ≤ isq n from h)
    omega
  · omega
theorem isq_lt (n : Nat) (h : n < 18446744073709551616) : isq n < 4294967296 := by
  rcases Nat.lt_or_ge (isq n) 4294967296 with hl | hl
  · exact hl
  · have := isq_le.1 hl
    omega

/-- one bit more of a root -/
theorem root_step (s j : Nat) (hj : j < 32) (hs : s < 4294967296) : ∃ T, s / 2 ^ (j + 1) * 2 ^ (j + 1) + 2 ^ j = T ∧ T < 4294967296 ∧ (T ≤ s → s / 2 ^ j * 2 ^ j = T) ∧ (s < T → s / 2 ^ j * 2 ^ j = s / 2 ^ (j + 1) * 2 ^ (j + 1)) := by
  have hp : 4294967296 = 2 ^ (31 - j) * 2 ^ (j + 1) := by
    have e : (4294967296 : Nat) = 2 ^ 32 := by decide
    rw [e, ← Nat.pow_add]
    congr 1
    omega
  have h0 := Nat.two_pow_pos j
  have hd : s / 2 ^ (j + 1) = s / 2 ^ j / 2 := by rw [Nat.pow_succ, ← Nat.div_div_eq_div_mul]
  have hle := Nat.div_mul_le_self s (2 ^ (j + 1))
  have hlt := Nat.lt_div_mul_add (a := s) (b := 2 ^ j) h0
  have hy : s / 2 ^ (j + 1) + 1 ≤ 2 ^ (31 - j) := by
    have : s / 2 ^ (j + 1) < 2 ^ (31 - j) := by
      rw [Nat.div_lt_iff_lt_mul (Nat.two_pow_pos _), ← hp]
      exact hs
    omega
  have hz := Nat.mul_le_mul_right (2 ^ (j + 1)) hy
  rw [← hp, Nat.add_mul, Nat.one_mul] at hz
  have hpow : 2 ^ (j + 1) = 2 * 2 ^ j := by rw [Nat.pow_succ, Nat.mul_comm]
  refine ⟨_, rfl, by omega, fun h => ?_, fun h => ?_⟩
  · rw [hpow] at h ⊢
    rw [hpow] at hd
    rw [hd] at h ⊢
    generalize s / 2 ^ j = q at *
    generalize 2 ^ j = p at *
    have e : q / 2 * (2 * p) = 2 * (q / 2) * p := by rw [Nat.mul_comm 2 (q / 2), Nat.mul_assoc]
    rw [e] at h ⊢
    have e2 : 2 * (q / 2) * p + p = (2 * (q / 2) + 1) * p := by rw [Nat.add_mul, Nat.one_mul]
    rw [e2] at h ⊢
    have hq : 2 * (q / 2) + 1 ≤ q := by
      rcases Nat.lt_or_ge q (2 * (q / 2) + 1) with hb | hb
      · have := Nat.mul_le_mul_right p (show q + 1 ≤ 2 * (q / 2) + 1 by omega)
        rw [Nat.add_mul, Nat.one_mul] at this
        omega
      · exact hb
    rw [show q = 2 * (q / 2) + 1 by omega]
    congr 2
    omega
  · rw [hpow] at h ⊢
    rw [hpow] at hd
    rw [hd] at h ⊢
    have hle2 := Nat.div_mul_le_self s (2 ^ j)
    generalize s / 2 ^ j = q at *
    generalize 2 ^ j = p at *
    have e : q / 2 * (2 * p) = 2 * (q / 2) * p := by rw [Nat.mul_comm 2 (q / 2), Nat.mul_assoc]
    rw [e] at h ⊢
    have e2 : 2 * (q / 2) * p + p = (2 * (q / 2) + 1) * p := by rw [Nat.add_mul, Nat.one_mul]
    rw [e2] at h
    have hq : q < 2 * (q / 2) + 1 := by
      rcases Nat.lt_or_ge q (2 * (q / 2) + 1) with hb | hb
      · exact hb
      · have := Nat.mul_le_mul_right p hb
        omega
    rw [show 2 * (q / 2) = q by omega]

set_option maxHeartbeats 800000 in
theorem floor_any (n : Nat) (w : World) (h : n < 18446744073709551616) : Calls Try.prog 53 #[.int .u64 (n : Int)] w fun e w' => e = .returned (.int .u64 (isq n : Int)) ∧ w = w' := by
  have hs := isq_lt n h
  have HL := Lib.hid (fun t => @isq_le n t)
  generalize isq n = s at *
  go_enter Try.func53, Try.ntmps53
  go_wp2_with fail
  go_loop [3, 4, 5, 6] (fun r x y c => ∃ m : Nat, m ≤ 32 ∧ c = .int .i64 (32 - (m : Int)) ∧ ∃ R : Nat, r = .int .u64 (R : Int) ∧ R < 4294967296 ∧ Hid (s / 2 ^ m * 2 ^ m = R)) (fun _ _ _ c => (32 - intOf c).toNat)
  case atStart => exact ⟨32, by omega, rfl, 0, rfl, by omega, (by
    show s / 2 ^ 32 * 2 ^ 32 = 0
    rw [Nat.div_eq_of_lt (by omega), Nat.zero_mul] : _ = _)⟩
  case round =>
    obtain ⟨m, hm, rfl, R, rfl, hR, hI⟩ := hrel
    cases m with
    | zero =>
      go_wp2
      go_ret
      have e := hI.out
      rw [Nat.pow_zero, Nat.div_one, Nat.mul_one] at e
      exact ⟨by rw [e]; rfl, rfl⟩
    | succ j =>
      have hexp : 31 - (31 - j) = j := by omega
      have e := hI.out
      obtain ⟨T, hT, hT2, s1, s2⟩ := root_step s j (by omega) hs
      rw [e] at hT s2
      obtain ⟨f3, _⟩ := or_pow _ R j (by omega) e (by omega)
      rw [hT] at f3
      obtain ⟨z, hz⟩ : ∃ z, T * T = z := ⟨_, rfl⟩
      have hzb : z ≤ 18446744065119617025 := by
        rw [← hz]
        exact Nat.le_trans (Nat.mul_le_mul (show T ≤ 4294967295 by omega) (show T ≤ 4294967295 by omega)) (by decide)
      have hsq : (T : Int) * (T : Int) = (z : Int) := by rw [← hz]; push_cast; rfl
      have hw : IntKind.u64.wrap (z : Int) = (z : Int) := wraps_u64 _ (by omega) (by omega)
      have hc := HL.out T
      rw [hz] at hc
      have S1 := Lib.hid s1
      have S2 := Lib.hid s2
      have HC := Lib.hid hc
      clear hz s1 s2 hc e hT
      by_cases c : z ≤ n
      · have c1 : decide ((z : Int) ≤ (n : Int)) = true := by simp; omega
        go_wp2
        go_round
        case rel => exact ⟨j, by omega, by go_num, T, rfl, hT2, S1.out (HC.out.2 c)⟩
        case measure => simp [intOf]; omega
      · have c1 : decide ((z : Int) ≤ (n : Int)) = false := by simp; omega
        go_wp2
        go_round
        case rel => exact ⟨j, by omega, by go_num, R, rfl, hR, (by
          have hlt : s < T := by
            rcases Nat.lt_or_ge s T with h2 | h2
            · exact h2
            · exact absurd (HC.out.1 h2) c
          show s / 2 ^ j * 2 ^ j = R
          exact S2.out hlt : _ = _)⟩
        case measure => simp [intOf]; omega
end Go.Proofs.Ytaephahcohdbpaa.mt
