/-
  The reference for layer 24: sign, MulDiv, ratio.
-/
import Derived.Test.YtaephahcohdbpaaRefD
namespace Go.Proofs.Ytaephahcohdbpaa.mt
set_option linter.unusedVariables false
set_option linter.unusedSimpArgs false
open Go.RowKit bs

def sg (v : Int) : Int := if v < 0 then -1 else if 0 < v then 1 else 0

theorem sign_any (v : Int) (w : World) : Calls Try.prog 81 #[.int .i64 v] w fun ed w' => ed = .returned (.int .i64 (sg v)) ∧ w = w' := by
  by_cases a : v < 0
  · have c1 : decide (v < 0) = true := by simp; omega
    rw [show sg v = -1 by unfold sg; rw [if_pos a]]
    go_enter Try.func81, Try.ntmps81
    go_wp2_with fail
    go_ret
    exact ⟨rfl, rfl⟩
  · have c1 : decide (v < 0) = false := by simp; omega
    by_cases b : 0 < v
    · have c2 : decide (0 < v) = true := by simp; omega
      rw [show sg v = 1 by unfold sg; rw [if_neg a, if_pos b]]
      go_enter Try.func81, Try.ntmps81
      go_wp2_with fail
      go_ret
      exact ⟨rfl, rfl⟩
    · have c2 : decide (0 < v) = false := by simp; omega
      rw [show sg v = 0 by unfold sg; rw [if_neg a, if_neg b]]
      go_enter Try.func81, Try.ntmps81
      go_wp2_with fail
      go_ret
      exact ⟨rfl, rfl⟩

theorem sg_neg (a b d : Int) (hd : d ≠ 0) : (sg a * sg b * sg d < 0 → neg a b d = true) ∧ (¬ sg a * sg b * sg d < 0 → neg a b d = false ∨ a = 0 ∨ b = 0) := by
  unfold sg neg
  rcases Int.lt_trichotomy a 0 with ha | ha | ha <;> rcases Int.lt_trichotomy b 0 with hb | hb | hb <;> rcases Int.lt_trichotomy d 0 with hd0 | hd0 | hd0 <;>
    first
      | (exact absurd hd0 hd)
      | (subst ha; simp; done)
      | (subst hb; simp; done)
      | (have x1 : ¬ 0 < a ∨ 0 < a := by omega
         have y1 : ¬ a < 0 ∨ a < 0 := by omega
         simp [ha, hb, hd0, Int.le_of_lt, show ¬ (0 < a ∧ a < 0) by omega, Int.lt_asymm]
         first | done | omega)

theorem rdiv_le (N D : Nat) : rdiv N D ≤ N / D + 1 := by unfold rdiv; split <;> omega
/-- MulDiv where the quotient is small: the common value -/
theorem mulDiv_small (a b d : Int) (N D : Nat) (hd : d ≠ 0) (hN : size a * size b = N) (hD : size d = D) (h : N / D < 4611686018427387904) (hs : sg a * sg b * sg d < 0) : mulDiv a b d = some (-(rdiv N D : Int)) := by
  have hn := (sg_neg a b d hd).1 hs
  have := rdiv_le N D
  unfold mulDiv
  rw [if_neg hd, hn, hN, hD]
  simp only [Int.toNat_natCast]
  unfold sgn
  rw [if_pos rfl, if_pos (by omega)]
theorem mulDiv_small2 (a b d : Int) (N D : Nat) (hd : d ≠ 0) (hN : size a * size b = N) (hD : size d = D) (h : N / D < 4611686018427387904) (hs : ¬ sg a * sg b * sg d < 0) : mulDiv a b d = some (rdiv N D : Int) := by
  have hle := rdiv_le N D
  have hD0 : 0 < D := by unfold size at hD; split at hD <;> omega
  unfold mulDiv
  rw [if_neg hd, hN, hD]
  simp only [Int.toNat_natCast]
  unfold sgn
  rcases (sg_neg a b d hd).2 hs with hn | hz | hz
  · rw [hn, if_neg (by decide), if_pos (by omega)]
  · subst hz
    have h0 : N = 0 := by unfold size at hN; simp at hN; omega
    subst h0
    have hr : rdiv 0 D = 0 := by unfold rdiv; rw [Nat.zero_mod, Nat.zero_div, if_neg (by omega)]
    rw [hr]
    split <;> simp
  · subst hz
    have h0 : N = 0 := by unfold size at hN; simp at hN; omega
    subst h0
    have hr : rdiv 0 D = 0 := by unfold rdiv; rw [Nat.zero_mod, Nat.zero_div, if_neg (by omega)]
    rw [hr]
    split <;> simp
/-- where it is great: no fix -/
theorem mulDiv_great (a b d : Int) (N D : Nat) (hN : size a * size b = N) (hD : size d = D) (h : 4611686018427387904 ≤ N / D) : mulDiv a b d = none ∨ ∃ q, mulDiv a b d = some q ∧ fixB q = false := by
  have hr : 4611686018427387904 ≤ rdiv N D := by unfold rdiv; split <;> omega
  unfold mulDiv
  by_cases hd : d = 0
  · exact .inl (if_pos hd)
  · rw [if_neg hd, hN, hD]
    simp only [Int.toNat_natCast]
    unfold sgn
    split
    · split
      · exact .inr ⟨_, rfl, fixB_false (by omega)⟩
      · exact .inl rfl
    · split
      · exact .inr ⟨_, rfl, fixB_false (by omega)⟩
      · exact .inl rfl

theorem rmd_zero (a b : Int) (w : World) : Calls Try.prog 75 #[.int .i64 a, .int .i64 b, .int .i64 0] w fun ed w' => ed = .returned (.tuple #[.int .i64 0, .bool false]) ∧ Below w.heap.size w w' := by
  go_enter Try.func75, Try.ntmps75
  go_wp2_with fail
  go_ret2
  exact ⟨rfl, Below.refl _ _⟩

set_option maxHeartbeats 1600000 in
theorem rmd_big (a b d : Int) (N D : Nat) (w : World) (ha : -9223372036854775808 ≤ a ∧ a ≤ 9223372036854775807) (hb : -9223372036854775808 ≤ b ∧ b ≤ 9223372036854775807) (hd : -9223372036854775808 ≤ d ∧ d ≤ 9223372036854775807) (hd0 : d ≠ 0) (hN : size a * size b = N) (hD : size d = D) (h : 4611686018427387904 ≤ N / D) : Calls Try.prog 75 #[.int .i64 a, .int .i64 b, .int .i64 d] w fun ed w' => ed = .returned (.tuple #[.int .i64 0, .bool false]) ∧ Below w.heap.size w w' := by
  have sa := size_bd a ha.1 ha.2
  have sb := size_bd b hb.1 hb.2
  have sd := size_bd d hd.1 hd.2
  have HA := Lib.hid (fun W => abs_any a W ha.1 ha.2)
  have HB := Lib.hid (fun W => abs_any b W hb.1 hb.2)
  have HD := Lib.hid (fun W => abs_any d W hd.1 hd.2)
  have hD0 : 0 < D := by unfold size at hD; split at hD <;> omega
  have hD1 : D ≤ 9223372036854775808 := by omega
  have hN2 : N < 340282366920938463463374607431768211456 := by
    have := Int.mul_le_mul sa.2 sb.2 sb.1 (by omega)
    omega
  have HT := Lib.hid (fun W => show Calls Try.prog 80 #[.int .u64 (size a), .int .u64 (size b)] W fun ed w' => ed = .returned (.agg #[.int .u64 ((N / 18446744073709551616 : Nat) : Int), .int .u64 ((N % 18446744073709551616 : Nat) : Int)]) ∧ Below W.heap.size W w' by
    have := times_any (size a) (size b) W (by omega) (by omega)
    rw [hN] at this
    exact this)
  have HV := Lib.hid (fun W => divide_any N D W hD0 hD1 hN2)
  rw [hD] at HD
  have c0 : (d == 0) = false := by simp [hd0]
  rw [show divR N D = .tuple #[.int .u64 0, .int .u64 0, .bool false] by unfold divR; rw [if_neg (by omega)]] at HV
  generalize size a = za at *
  generalize size b = zb at *
  generalize ((N / 18446744073709551616 : Nat) : Int) = n1 at *
  generalize ((N % 18446744073709551616 : Nat) : Int) = n2 at *
  clear hN hD h sa sb sd hN2 ha hb hd hd0
  go_enter Try.func75, Try.ntmps75
  go_wp2_with fail
  refine (HA.out _).mono ?_
  rintro e_ w_ ⟨rfl, rfl⟩
  go_wp2_with fail
  refine (HB.out _).mono ?_
  rintro e_ w_ ⟨rfl, rfl⟩
  go_wp2_with fail
  refine (HT.out _).mono ?_
  rintro e_ w1 ⟨rfl, hbw⟩
  go_wp2_with fail
  refine (HD.out _).mono ?_
  rintro e_ w_ ⟨rfl, rfl⟩
  go_wp2_with fail
  refine (HV.out _).mono ?_
  rintro e_ w2 ⟨rfl, hb2⟩
  replace hbw := btrans hbw hb2
  clear hb2
  go_wp2_with fail
  go_ret2
  exact ⟨rfl, hbw⟩

set_option maxHeartbeats 3200000 in
theorem rmd_ok (a b d : Int) (N D : Nat) (v : Int) (w : World) (ha : -9223372036854775808 ≤ a ∧ a ≤ 9223372036854775807) (hb : -9223372036854775808 ≤ b ∧ b ≤ 9223372036854775807) (hd : -9223372036854775808 ≤ d ∧ d ≤ 9223372036854775807) (hd0 : d ≠ 0) (hN : size a * size b = N) (hD : size d = D) (h : N / D < 4611686018427387904)
    (hv : v = if sg a * sg b * sg d < 0 then -(rdiv N D : Int) else (rdiv N D : Int)) : Calls Try.prog 75 #[.int .i64 a, .int .i64 b, .int .i64 d] w fun ed w' => ed = .returned (.tuple #[.int .i64 v, .bool true]) ∧ Below w.heap.size w w' := by
  have sa := size_bd a ha.1 ha.2
  have sb := size_bd b hb.1 hb.2
  have sd := size_bd d hd.1 hd.2
  have HA := Lib.hid (fun W => abs_any a W ha.1 ha.2)
  have HB := Lib.hid (fun W => abs_any b W hb.1 hb.2)
  have HD := Lib.hid (fun W => abs_any d W hd.1 hd.2)
  have hD0 : 0 < D := by unfold size at hD; split at hD <;> omega
  have hD1 : D ≤ 9223372036854775808 := by omega
  have hN2 : N < 340282366920938463463374607431768211456 := by
    have := Int.mul_le_mul sa.2 sb.2 sb.1 (by omega)
    omega
  have HT := Lib.hid (fun W => show Calls Try.prog 80 #[.int .u64 (size a), .int .u64 (size b)] W fun ed w' => ed = .returned (.agg #[.int .u64 ((N / 18446744073709551616 : Nat) : Int), .int .u64 ((N % 18446744073709551616 : Nat) : Int)]) ∧ Below W.heap.size W w' by
    have := times_any (size a) (size b) W (by omega) (by omega)
    rw [hN] at this
    exact this)
  have HV := Lib.hid (fun W => divide_any N D W hD0 hD1 hN2)
  rw [hD] at HD
  have c0 : (d == 0) = false := by simp [hd0]
  rw [show divR N D = .tuple #[.int .u64 ((N / D : Nat) : Int), .int .u64 ((N % D : Nat) : Int), .bool true] by unfold divR; rw [if_pos h]] at HV
  have HS1 := Lib.hid (fun W => sign_any a W)
  have HS2 := Lib.hid (fun W => sign_any b W)
  have HS3 := Lib.hid (fun W => sign_any d W)
  have g1 : -1 ≤ sg a ∧ sg a ≤ 1 := by unfold sg; split <;> (try split) <;> omega
  have g2 : -1 ≤ sg b ∧ sg b ≤ 1 := by unfold sg; split <;> (try split) <;> omega
  have g3 : -1 ≤ sg d ∧ sg d ≤ 1 := by unfold sg; split <;> (try split) <;> omega
  have hrb := Nat.mod_lt N hD0
  have hmr : rdiv N D = if D < 2 * (N % D) ∨ 2 * (N % D) = D ∧ N / D % 2 = 1 then N / D + 1 else N / D := rfl
  generalize rdiv N D = m at *
  generalize size a = za at *
  generalize size b = zb at *
  generalize ((N / 18446744073709551616 : Nat) : Int) = n1 at *
  generalize ((N % 18446744073709551616 : Nat) : Int) = n2 at *
  generalize N / D = n at *
  generalize N % D = r at *
  generalize sg a = s1 at *
  generalize sg b = s2 at *
  generalize sg d = s3 at *
  have k1 : -1 ≤ s1 * s2 ∧ s1 * s2 ≤ 1 := by
    rcases (show s1 = -1 ∨ s1 = 0 ∨ s1 = 1 by omega) with x | x | x <;> subst x <;> omega
  generalize hp1 : s1 * s2 = p1 at *
  have k2 : -1 ≤ p1 * s3 ∧ p1 * s3 ≤ 1 := by
    rcases (show p1 = -1 ∨ p1 = 0 ∨ p1 = 1 by omega) with x | x | x <;> subst x <;> omega
  generalize hp2 : p1 * s3 = p2 at *
  have hand : bits .and .u64 (n : Int) 1 = ((n % 2 : Nat) : Int) := by
    have := bits_mask .u64 64 (by decide) wraps_u64 1 (by decide) (n : Int) (by omega) (by omega)
    rw [show ((2 : Int) ^ 1 - 1) = 1 by decide] at this
    rw [this]; omega
  obtain ⟨q0_, q1_⟩ := k1
  obtain ⟨q2_, q3_⟩ := k2
  clear hN hD sa sb sd hN2 ha hb hd hd0 g1 g2 g3
  have hn9 : n < 4611686018427387904 := h
  by_cases o1 : D < 2 * r
  · have hm2 : m = n + 1 := by rw [hmr, if_pos (.inl o1)]
    have c1 : decide ((D : Int) - (r : Int) < (r : Int)) = true := by simp; omega
    clear hmr
    by_cases sn : p2 < 0
    · have c9 : decide (p2 < 0) = true := by simp; omega
      rw [if_pos sn, hm2] at hv
      have HVal := Lib.hid hv
      clear hv hm2 h
      go_enter Try.func75, Try.ntmps75
      go_wp2_with fail
      refine (HA.out _).mono ?_
      rintro e_ w_ ⟨rfl, rfl⟩
      go_wp2_with fail
      refine (HB.out _).mono ?_
      rintro e_ w_ ⟨rfl, rfl⟩
      go_wp2_with fail
      refine (HT.out _).mono ?_
      rintro e_ w1 ⟨rfl, hbw⟩
      go_wp2_with fail
      refine (HD.out _).mono ?_
      rintro e_ w_ ⟨rfl, rfl⟩
      go_wp2_with fail
      refine (HV.out _).mono ?_
      rintro e_ w2 ⟨rfl, hb2⟩
      replace hbw := btrans hbw hb2
      clear hb2
      go_wp2_with fail
      refine (HD.out _).mono ?_
      rintro e_ w_ ⟨rfl, rfl⟩
      go_wp2_with fail
      refine (HS1.out _).mono ?_
      rintro e_ w_ ⟨rfl, rfl⟩
      go_wp2_with fail
      refine (HS2.out _).mono ?_
      rintro e_ w_ ⟨rfl, rfl⟩
      go_wp2_with fail
      refine (HS3.out _).mono ?_
      rintro e_ w_ ⟨rfl, rfl⟩
      go_wp2_with fail
      go_ret2
      exact ⟨by rw [HVal.out]; rfl, hbw⟩
    · have c9 : decide (p2 < 0) = false := by simp; omega
      rw [if_neg sn, hm2] at hv
      have HVal := Lib.hid hv
      clear hv hm2 h
      go_enter Try.func75, Try.ntmps75
      go_wp2_with fail
      refine (HA.out _).mono ?_
      rintro e_ w_ ⟨rfl, rfl⟩
      go_wp2_with fail
      refine (HB.out _).mono ?_
      rintro e_ w_ ⟨rfl, rfl⟩
      go_wp2_with fail
      refine (HT.out _).mono ?_
      rintro e_ w1 ⟨rfl, hbw⟩
      go_wp2_with fail
      refine (HD.out _).mono ?_
      rintro e_ w_ ⟨rfl, rfl⟩
      go_wp2_with fail
      refine (HV.out _).mono ?_
      rintro e_ w2 ⟨rfl, hb2⟩
      replace hbw := btrans hbw hb2
      clear hb2
      go_wp2_with fail
      refine (HD.out _).mono ?_
      rintro e_ w_ ⟨rfl, rfl⟩
      go_wp2_with fail
      refine (HS1.out _).mono ?_
      rintro e_ w_ ⟨rfl, rfl⟩
      go_wp2_with fail
      refine (HS2.out _).mono ?_
      rintro e_ w_ ⟨rfl, rfl⟩
      go_wp2_with fail
      refine (HS3.out _).mono ?_
      rintro e_ w_ ⟨rfl, rfl⟩
      go_wp2_with fail
      go_ret2
      exact ⟨by rw [HVal.out]; rfl, hbw⟩
  · have c1 : decide ((D : Int) - (r : Int) < (r : Int)) = false := by simp; omega
    by_cases o2 : 2 * r = D
    · have c2 : ((r : Int) == (D : Int) - (r : Int)) = true := by simp; omega
      by_cases o3 : n % 2 = 1
      · have hm2 : m = n + 1 := by rw [hmr, if_pos (.inr ⟨o2, o3⟩)]
        rw [o3] at hand
        clear hmr
        by_cases sn : p2 < 0
        · have c9 : decide (p2 < 0) = true := by simp; omega
          rw [if_pos sn, hm2] at hv
          have HVal := Lib.hid hv
          clear hv hm2 h
          go_enter Try.func75, Try.ntmps75
          go_wp2_with fail
          refine (HA.out _).mono ?_
          rintro e_ w_ ⟨rfl, rfl⟩
          go_wp2_with fail
          refine (HB.out _).mono ?_
          rintro e_ w_ ⟨rfl, rfl⟩
          go_wp2_with fail
          refine (HT.out _).mono ?_
          rintro e_ w1 ⟨rfl, hbw⟩
          go_wp2_with fail
          refine (HD.out _).mono ?_
          rintro e_ w_ ⟨rfl, rfl⟩
          go_wp2_with fail
          refine (HV.out _).mono ?_
          rintro e_ w2 ⟨rfl, hb2⟩
          replace hbw := btrans hbw hb2
          clear hb2
          go_wp2_with fail
          refine (HD.out _).mono ?_
          rintro e_ w_ ⟨rfl, rfl⟩
          go_wp2_with fail
          refine (HS1.out _).mono ?_
          rintro e_ w_ ⟨rfl, rfl⟩
          go_wp2_with fail
          refine (HS2.out _).mono ?_
          rintro e_ w_ ⟨rfl, rfl⟩
          go_wp2_with fail
          refine (HS3.out _).mono ?_
          rintro e_ w_ ⟨rfl, rfl⟩
          go_wp2_with fail
          go_ret2
          exact ⟨by rw [HVal.out]; rfl, hbw⟩
        · have c9 : decide (p2 < 0) = false := by simp; omega
          rw [if_neg sn, hm2] at hv
          have HVal := Lib.hid hv
          clear hv hm2 h
          go_enter Try.func75, Try.ntmps75
          go_wp2_with fail
          refine (HA.out _).mono ?_
          rintro e_ w_ ⟨rfl, rfl⟩
          go_wp2_with fail
          refine (HB.out _).mono ?_
          rintro e_ w_ ⟨rfl, rfl⟩
          go_wp2_with fail
          refine (HT.out _).mono ?_
          rintro e_ w1 ⟨rfl, hbw⟩
          go_wp2_with fail
          refine (HD.out _).mono ?_
          rintro e_ w_ ⟨rfl, rfl⟩
          go_wp2_with fail
          refine (HV.out _).mono ?_
          rintro e_ w2 ⟨rfl, hb2⟩
          replace hbw := btrans hbw hb2
          clear hb2
          go_wp2_with fail
          refine (HD.out _).mono ?_
          rintro e_ w_ ⟨rfl, rfl⟩
          go_wp2_with fail
          refine (HS1.out _).mono ?_
          rintro e_ w_ ⟨rfl, rfl⟩
          go_wp2_with fail
          refine (HS2.out _).mono ?_
          rintro e_ w_ ⟨rfl, rfl⟩
          go_wp2_with fail
          refine (HS3.out _).mono ?_
          rintro e_ w_ ⟨rfl, rfl⟩
          go_wp2_with fail
          go_ret2
          exact ⟨by rw [HVal.out]; rfl, hbw⟩
      · have hm2 : m = n := by rw [hmr, if_neg (by omega)]
        have o4 : n % 2 = 0 := by omega
        rw [o4] at hand
        clear hmr
        by_cases sn : p2 < 0
        · have c9 : decide (p2 < 0) = true := by simp; omega
          rw [if_pos sn, hm2] at hv
          have HVal := Lib.hid hv
          clear hv hm2 h
          go_enter Try.func75, Try.ntmps75
          go_wp2_with fail
          refine (HA.out _).mono ?_
          rintro e_ w_ ⟨rfl, rfl⟩
          go_wp2_with fail
          refine (HB.out _).mono ?_
          rintro e_ w_ ⟨rfl, rfl⟩
          go_wp2_with fail
          refine (HT.out _).mono ?_
          rintro e_ w1 ⟨rfl, hbw⟩
          go_wp2_with fail
          refine (HD.out _).mono ?_
          rintro e_ w_ ⟨rfl, rfl⟩
          go_wp2_with fail
          refine (HV.out _).mono ?_
          rintro e_ w2 ⟨rfl, hb2⟩
          replace hbw := btrans hbw hb2
          clear hb2
          go_wp2_with fail
          refine (HD.out _).mono ?_
          rintro e_ w_ ⟨rfl, rfl⟩
          go_wp2_with fail
          refine (HS1.out _).mono ?_
          rintro e_ w_ ⟨rfl, rfl⟩
          go_wp2_with fail
          refine (HS2.out _).mono ?_
          rintro e_ w_ ⟨rfl, rfl⟩
          go_wp2_with fail
          refine (HS3.out _).mono ?_
          rintro e_ w_ ⟨rfl, rfl⟩
          go_wp2_with fail
          go_ret2
          exact ⟨by rw [HVal.out]; rfl, hbw⟩
        · have c9 : decide (p2 < 0) = false := by simp; omega
          rw [if_neg sn, hm2] at hv
          have HVal := Lib.hid hv
          clear hv hm2 h
          go_enter Try.func75, Try.ntmps75
          go_wp2_with fail
          refine (HA.out _).mono ?_
          rintro e_ w_ ⟨rfl, rfl⟩
          go_wp2_with fail
          refine (HB.out _).mono ?_
          rintro e_ w_ ⟨rfl, rfl⟩
          go_wp2_with fail
          refine (HT.out _).mono ?_
          rintro e_ w1 ⟨rfl, hbw⟩
          go_wp2_with fail
          refine (HD.out _).mono ?_
          rintro e_ w_ ⟨rfl, rfl⟩
          go_wp2_with fail
          refine (HV.out _).mono ?_
          rintro e_ w2 ⟨rfl, hb2⟩
          replace hbw := btrans hbw hb2
          clear hb2
          go_wp2_with fail
          refine (HD.out _).mono ?_
          rintro e_ w_ ⟨rfl, rfl⟩
          go_wp2_with fail
          refine (HS1.out _).mono ?_
          rintro e_ w_ ⟨rfl, rfl⟩
          go_wp2_with fail
          refine (HS2.out _).mono ?_
          rintro e_ w_ ⟨rfl, rfl⟩
          go_wp2_with fail
          refine (HS3.out _).mono ?_
          rintro e_ w_ ⟨rfl, rfl⟩
          go_wp2_with fail
          go_ret2
          exact ⟨by rw [HVal.out]; rfl, hbw⟩
    · have c2 : ((r : Int) == (D : Int) - (r : Int)) = false := by simp; omega
      have hm2 : m = n := by rw [hmr, if_neg (by omega)]
      clear hmr
      by_cases sn : p2 < 0
      · have c9 : decide (p2 < 0) = true := by simp; omega
        rw [if_pos sn, hm2] at hv
        have HVal := Lib.hid hv
        clear hv hm2 h
        go_enter Try.func75, Try.ntmps75
        go_wp2_with fail
        refine (HA.out _).mono ?_
        rintro e_ w_ ⟨rfl, rfl⟩
        go_wp2_with fail
        refine (HB.out _).mono ?_
        rintro e_ w_ ⟨rfl, rfl⟩
        go_wp2_with fail
        refine (HT.out _).mono ?_
        rintro e_ w1 ⟨rfl, hbw⟩
        go_wp2_with fail
        refine (HD.out _).mono ?_
        rintro e_ w_ ⟨rfl, rfl⟩
        go_wp2_with fail
        refine (HV.out _).mono ?_
        rintro e_ w2 ⟨rfl, hb2⟩
        replace hbw := btrans hbw hb2
        clear hb2
        go_wp2_with fail
        refine (HD.out _).mono ?_
        rintro e_ w_ ⟨rfl, rfl⟩
        go_wp2_with fail
        refine (HS1.out _).mono ?_
        rintro e_ w_ ⟨rfl, rfl⟩
        go_wp2_with fail
        refine (HS2.out _).mono ?_
        rintro e_ w_ ⟨rfl, rfl⟩
        go_wp2_with fail
        refine (HS3.out _).mono ?_
        rintro e_ w_ ⟨rfl, rfl⟩
        go_wp2_with fail
        go_ret2
        exact ⟨by rw [HVal.out]; rfl, hbw⟩
      · have c9 : decide (p2 < 0) = false := by simp; omega
        rw [if_neg sn, hm2] at hv
        have HVal := Lib.hid hv
        clear hv hm2 h
        go_enter Try.func75, Try.ntmps75
        go_wp2_with fail
        refine (HA.out _).mono ?_
        rintro e_ w_ ⟨rfl, rfl⟩
        go_wp2_with fail
        refine (HB.out _).mono ?_
        rintro e_ w_ ⟨rfl, rfl⟩
        go_wp2_with fail
        refine (HT.out _).mono ?_
        rintro e_ w1 ⟨rfl, hbw⟩
        go_wp2_with fail
        refine (HD.out _).mono ?_
        rintro e_ w_ ⟨rfl, rfl⟩
        go_wp2_with fail
        refine (HV.out _).mono ?_
        rintro e_ w2 ⟨rfl, hb2⟩
        replace hbw := btrans hbw hb2
        clear hb2
        go_wp2_with fail
        refine (HD.out _).mono ?_
        rintro e_ w_ ⟨rfl, rfl⟩
        go_wp2_with fail
        refine (HS1.out _).mono ?_
        rintro e_ w_ ⟨rfl, rfl⟩
        go_wp2_with fail
        refine (HS2.out _).mono ?_
        rintro e_ w_ ⟨rfl, rfl⟩
        go_wp2_with fail
        refine (HS3.out _).mono ?_
        rintro e_ w_ ⟨rfl, rfl⟩
        go_wp2_with fail
        go_ret2
        exact ⟨by rw [HVal.out]; rfl, hbw⟩

/-- a b / d, rounded, if it is a fix; else a number that is none -/
def ratioV (a b d : Int) : Int := match mulDiv a b d with
  | some q => if fixB q = true then q else 1073741824
  | none => 1073741824
theorem ratio_of (a b d v : Int) (ok : Bool) (w : World) (h : ∀ W, Calls Try.prog 75 #[.int .i64 a, .int .i64 b, .int .i64 d] W fun ed w' => ed = .returned (.tuple #[.int .i64 v, .bool ok]) ∧ Below W.heap.size W w') :
    Calls Try.prog 65 #[.int .i64 a, .int .i64 b, .int .i64 d] w fun ed w' => ed = .returned (.int .i64 (if ok = true ∧ fixB v = true then v else 1073741824)) ∧ Below w.heap.size w w' := by
  have H := Lib.hid h
  have HX := Lib.hid (fun W => rfix_any v W)
  clear h
  cases ok with
  | false =>
    rw [if_neg (by simp)]
    go_enter Try.func65, Try.ntmps65
    go_wp2_with fail
    refine (H.out _).mono ?_
    rintro e_ w1 ⟨rfl, hb1⟩
    go_wp2_with fail
    go_ret
    exact ⟨rfl, hb1⟩
  | true =>
    cases hf : fixB v with
    | false =>
      rw [hf] at HX
      rw [if_neg (by simp)]
      go_enter Try.func65, Try.ntmps65
      go_wp2_with fail
      refine (H.out _).mono ?_
      rintro e_ w1 ⟨rfl, hb1⟩
      go_wp2_with fail
      refine (HX.out _).mono ?_
      rintro e_ w2 ⟨rfl, rfl⟩
      go_wp2_with fail
      go_ret
      exact ⟨rfl, hb1⟩
    | true =>
      rw [hf] at HX
      rw [if_pos (by simp)]
      go_enter Try.func65, Try.ntmps65
      go_wp2_with fail
      refine (H.out _).mono ?_
      rintro e_ w1 ⟨rfl, hb1⟩
      go_wp2_with fail
      refine (HX.out _).mono ?_
      rintro e_ w2 ⟨rfl, rfl⟩
      go_wp2_with fail
      go_ret
      exact ⟨rfl, hb1⟩
theorem ratio_any (a b d : Int) (w : World) (ha : -9223372036854775808 ≤ a ∧ a ≤ 9223372036854775807) (hb : -9223372036854775808 ≤ b ∧ b ≤ 9223372036854775807) (hd : -9223372036854775808 ≤ d ∧ d ≤ 9223372036854775807) (hd0 : d ≠ 0) : Calls Try.prog 65 #[.int .i64 a, .int .i64 b, .int .i64 d] w fun ed w' => ed = .returned (.int .i64 (ratioV a b d)) ∧ Below w.heap.size w w' := by
  obtain ⟨N, hN⟩ := size_mul a b ha hb
  have sd := size_bd d hd.1 hd.2
  obtain ⟨D, hD⟩ := Int.eq_ofNat_of_zero_le sd.1
  by_cases h : N / D < 4611686018427387904
  · have := ratio_of a b d _ true w (fun W => rmd_ok a b d N D _ W ha hb hd hd0 hN hD h rfl)
    have e : mulDiv a b d = some (if sg a * sg b * sg d < 0 then -(rdiv N D : Int) else (rdiv N D : Int)) := by
      by_cases hs : sg a * sg b * sg d < 0
      · rw [if_pos hs]; exact mulDiv_small a b d N D hd0 hN hD h hs
      · rw [if_neg hs]; exact mulDiv_small2 a b d N D hd0 hN hD h hs
    have e2 : ratioV a b d = if true = true ∧ fixB (if sg a * sg b * sg d < 0 then -(rdiv N D : Int) else (rdiv N D : Int)) = true then (if sg a * sg b * sg d < 0 then -(rdiv N D : Int) else (rdiv N D : Int)) else 1073741824 := by
      unfold ratioV
      rw [e]
      simp
    rw [e2]
    exact this
  · have := ratio_of a b d 0 false w (fun W => rmd_big a b d N D W ha hb hd hd0 hN hD (by omega))
    have e2 : ratioV a b d = 1073741824 := by
      unfold ratioV
      rcases mulDiv_great a b d N D hN hD (by omega) with hg | ⟨q, hg, hq⟩
      · rw [hg]
      · rw [hg]
        simp [hq]
    rw [e2]
    simpa using this

end Go.Proofs.Ytaephahcohdbpaa.mt
