/-
  Layer 24's arithmetic: MulDiv, a product divided and rounded half to even.
-/
import Derived.Test.YtegpjjkbbdfggaaParts
namespace Go.Proofs.Ytegpjjkbbdfggaa.mt
set_option linter.unusedVariables false
set_option linter.unusedSimpArgs false
open Go.RowKit bs

/-- N / D, rounded, half to even -/
def rdiv (N D : Nat) : Nat := if D < 2 * (N % D) ∨ 2 * (N % D) = D ∧ N / D % 2 = 1 then N / D + 1 else N / D
/-- is the quotient below 0 -/
def neg (a b d : Int) : Bool := (decide (a < 0) != decide (b < 0)) != decide (d < 0)
/-- a size with its sign, if there is such a number -/
def sgn (s : Bool) (m : Int) : Option Int := if s = true then (if m ≤ 9223372036854775808 then some (-m) else none) else (if m < 9223372036854775808 then some m else none)
/-- a b / d, rounded, if it is a number -/
def mulDiv (a b d : Int) : Option Int := if d = 0 then none else sgn (neg a b d) (rdiv (size a * size b).toNat (size d).toNat : Int)

theorem more_any (q : Int) (up : Bool) (w : World) (h0 : 0 ≤ q) (h1 : q < 18446744073709551616) :
    Calls Try.prog 106 #[.int .u64 q, .bool up] w fun e w' => e = .returned (if up = true then (if q = 18446744073709551615 then .tuple #[.int .u64 0, .bool false] else .tuple #[.int .u64 (q + 1), .bool true]) else .tuple #[.int .u64 q, .bool true]) ∧ w = w' := by
  cases up with
  | false =>
    go_enter Try.func106, Try.ntmps106
    go_wp2_with fail
    go_ret2
    exact ⟨rfl, rfl⟩
  | true =>
    by_cases h : q = 18446744073709551615
    · subst h
      go_enter Try.func106, Try.ntmps106
      go_wp2_with fail
      go_ret2
      exact ⟨rfl, rfl⟩
    · rw [if_pos rfl, if_neg h]
      have hw : IntKind.u64.wrap (q + 1) = q + 1 := wraps_u64 _ (by omega) (by omega)
      have hne : (q + 1 == 0) = false := by simp; omega
      have hne2 : ¬ q + 1 = 0 := by omega
      have hne3 : (q + 1 != 0) = true := by simp; omega
      go_enter Try.func106, Try.ntmps106
      go_wp2_with fail
      go_ret2
      exact ⟨rfl, rfl⟩
theorem under_any (a b d : Int) (w : World) : Calls Try.prog 108 #[.int .i64 a, .int .i64 b, .int .i64 d] w fun e w' => e = .returned (.bool (neg a b d)) ∧ w = w' := by
  go_enter Try.func108, Try.ntmps108
  go_wp2_with fail
  go_ret
  exact ⟨rfl, rfl⟩
theorem signed_any (q : Int) (below : Bool) (w : World) (h0 : 0 ≤ q) (h1 : q < 18446744073709551616) :
    Calls Try.prog 107 #[.int .u64 q, .bool below] w fun e w' => e = .returned (.tuple #[.int .i64 ((sgn below q).getD 0), .bool (sgn below q).isSome]) ∧ w = w' := by
  cases below with
  | false =>
    by_cases h : q < 9223372036854775808
    · have he : sgn false q = some q := by unfold sgn; rw [if_neg (by decide), if_pos h]
      rw [he]
      simp only [Option.getD_some, Option.isSome_some]
      clear he
      go_enter Try.func107, Try.ntmps107
      go_wp2_with fail
      go_ret2
      exact ⟨rfl, rfl⟩
    · have he : sgn false q = none := by unfold sgn; rw [if_neg (by decide), if_neg h]
      rw [he]
      simp only [Option.getD_none, Option.isSome_none]
      clear he
      go_enter Try.func107, Try.ntmps107
      go_wp2_with fail
      go_ret2
      exact ⟨rfl, rfl⟩
  | true =>
    by_cases h : q ≤ 9223372036854775808
    · have he : sgn true q = some (-q) := by unfold sgn; rw [if_pos rfl, if_pos h]
      rw [he]
      simp only [Option.getD_some, Option.isSome_some]
      clear he
      have hw : IntKind.i64.wrap (IntKind.u64.wrap (-q)) = -q := by
        rw [IntKind.wrap_i64, IntKind.wrap_u64]
        omega
      go_enter Try.func107, Try.ntmps107
      go_wp2_with fail
      go_ret2
      exact ⟨by first | rfl | (rw [← hw]; rfl), rfl⟩
    · have he : sgn true q = none := by unfold sgn; rw [if_pos rfl, if_neg h]
      rw [he]
      simp only [Option.getD_none, Option.isSome_none]
      clear he
      go_enter Try.func107, Try.ntmps107
      go_wp2_with fail
      go_ret2
      exact ⟨rfl, rfl⟩

theorem mulDiv_none (a b d : Int) (N D : Nat) (hN : size a * size b = N) (hD : size d = D) (h : D ≤ N / 18446744073709551616) : mulDiv a b d = none := by
  unfold mulDiv
  rw [hN, hD]
  by_cases hd : d = 0
  · rw [if_pos hd]
  · rw [if_neg hd]
    have hD0 : 0 < D := by unfold size at hD; split at hD <;> omega
    have hq : 18446744073709551616 ≤ N / D := by
      rw [Nat.le_div_iff_mul_le hD0]
      have := Nat.div_mul_le_self N 18446744073709551616
      have := Nat.mul_le_mul_right 18446744073709551616 h
      omega
    have hr : 18446744073709551616 ≤ rdiv N D := by unfold rdiv; split <;> omega
    simp only [Int.toNat_natCast]
    unfold sgn
    split
    · rw [if_neg (by omega)]
    · rw [if_neg (by omega)]

theorem size_mul (a b : Int) (ha : -9223372036854775808 ≤ a ∧ a ≤ 9223372036854775807) (hb : -9223372036854775808 ≤ b ∧ b ≤ 9223372036854775807) : ∃ N : Nat, size a * size b = N := by
  have h1 := size_bd a ha.1 ha.2
  have h2 := size_bd b hb.1 hb.2
  exact ⟨_, (Int.toNat_of_nonneg (Int.mul_nonneg h1.1 h2.1)).symm⟩

set_option maxHeartbeats 1600000 in
theorem mulDiv_any (a b d : Int) (w : World) (ha : -9223372036854775808 ≤ a ∧ a ≤ 9223372036854775807) (hb : -9223372036854775808 ≤ b ∧ b ≤ 9223372036854775807) (hd : -9223372036854775808 ≤ d ∧ d ≤ 9223372036854775807) :
    Calls Try.prog 69 #[.int .i64 a, .int .i64 b, .int .i64 d] w fun e w' => e = .returned (.tuple #[.int .i64 ((mulDiv a b d).getD 0), .bool (mulDiv a b d).isSome]) ∧ Below w.heap.size w w' := by
  obtain ⟨N, hN⟩ := size_mul a b ha hb
  have sd := size_bd d hd.1 hd.2
  obtain ⟨D, hD⟩ := Int.eq_ofNat_of_zero_le sd.1
  by_cases h : D ≤ N / 18446744073709551616
  · rw [mulDiv_none a b d N D hN hD h]
    have HP := Lib.hid (fun W => parts_no a b d N D W ha hb hd hN hD h)
    simp only [Option.getD_none, Option.isSome_none]
    clear hN hD sd h ha hb hd
    go_enter Try.func69, Try.ntmps69
    go_wp2_with fail
    refine (HP.out _).mono ?_
    rintro e w1 ⟨rfl, hb1⟩
    go_wp2_with fail
    go_ret2
    exact ⟨rfl, hb1⟩
  · have HP := Lib.hid (fun W => parts_yes a b d N D W ha hb hd hN hD (by omega))
    have hd0 : ¬ d = 0 := by rintro rfl; unfold size at hD; rw [if_neg (by omega)] at hD; omega
    have hm : mulDiv a b d = sgn (neg a b d) (rdiv N D : Int) := by unfold mulDiv; rw [if_neg hd0, hN, hD]; rfl
    rw [hm]
    have hDb : D ≤ 9223372036854775808 := by omega
    have hD0 : 0 < D := by omega
    have hnb : N / D < 18446744073709551616 := by
      rw [Nat.div_lt_iff_lt_mul hD0]
      have := Nat.div_add_mod N 18446744073709551616
      have h2 : N / 18446744073709551616 + 1 ≤ D := by omega
      have h3 := Nat.mul_le_mul_left 18446744073709551616 h2
      have := Nat.mod_lt N (show 0 < 18446744073709551616 by decide)
      omega
    have hrb := Nat.mod_lt N hD0
    have hmr : rdiv N D = if D < 2 * (N % D) ∨ 2 * (N % D) = D ∧ N / D % 2 = 1 then N / D + 1 else N / D := rfl
    generalize rdiv N D = m at *
    generalize N / D = n at *
    generalize N % D = r at *
    have HU := Lib.hid (fun W => under_any a b d W)
    generalize neg a b d = ng at *
    clear hN hD sd h ha hb hd hm hd0
    have hand : bits .and .u64 (n : Int) 1 = ((n % 2 : Nat) : Int) := by
      have := bits_mask .u64 64 (by decide) wraps_u64 1 (by decide) (n : Int) (by omega) (by omega)
      rw [show ((2 : Int) ^ 1 - 1) = 1 by decide] at this
      rw [this]; omega
    have hsub : IntKind.u64.wrap ((D : Int) - (r : Int)) = (D : Int) - (r : Int) := wraps_u64 _ (by omega) (by omega)
    have step : ∀ up : Bool, (m = if up = true then n + 1 else n) → (up = true → n = 18446744073709551615 → sgn ng (m : Int) = none) := by
      intro up e hu hn
      rw [if_pos hu] at e
      unfold sgn
      split
      · rw [if_neg (by omega)]
      · rw [if_neg (by omega)]
    have HSt := Lib.hid step
    clear step
    by_cases o1 : D < 2 * r
    · have hm2 : m = n + 1 := by rw [hmr, if_pos (.inl o1)]
      have c1 : decide ((D : Int) - (r : Int) < (r : Int)) = true := by simp; omega
      clear hmr
      by_cases hn : n = 18446744073709551615
      · have hs := HSt.out true (by rw [if_pos rfl]; exact hm2) rfl hn
        rw [hs]
        simp only [Option.getD_none, Option.isSome_none]
        have HMo := Lib.hid (fun W => show Calls Try.prog 106 #[.int .u64 (n : Int), .bool true] W fun e w' => e = .returned (.tuple #[.int .u64 0, .bool false]) ∧ W = w' by have := more_any (n : Int) true W (by omega) (by omega); rw [if_pos rfl, if_pos (by omega)] at this; exact this)
        clear hn hs HSt
        go_enter Try.func69, Try.ntmps69
        go_wp2_with fail
        refine (HP.out _).mono ?_
        rintro e w1 ⟨rfl, hb1⟩
        go_wp2_with fail
        refine (HMo.out _).mono ?_
        rintro e w2 ⟨rfl, rfl⟩
        go_wp2_with fail
        go_ret2
        exact ⟨rfl, hb1⟩
      · have HMo := Lib.hid (fun W => show Calls Try.prog 106 #[.int .u64 (n : Int), .bool true] W fun e w' => e = .returned (.tuple #[.int .u64 (m : Int), .bool true]) ∧ W = w' by have := more_any (n : Int) true W (by omega) (by omega); rw [if_pos rfl, if_neg (by omega)] at this; rw [hm2]; exact this)
        have hmb : m < 18446744073709551616 := by omega
        clear hn HSt hm2
        go_enter Try.func69, Try.ntmps69
        go_wp2_with fail
        refine (HP.out _).mono ?_
        rintro e w1 ⟨rfl, hb1⟩
        go_wp2_with fail
        refine (HMo.out _).mono ?_
        rintro e w2 ⟨rfl, rfl⟩
        go_wp2_with fail
        refine (HU.out _).mono ?_
        rintro e w3 ⟨rfl, rfl⟩
        go_wp2_with fail
        refine (signed_any _ _ _ (by omega) (by omega)).mono ?_
        rintro e w4 ⟨rfl, rfl⟩
        go_wp2_with fail
        go_ret2
        exact ⟨rfl, hb1⟩
    · have c1 : decide ((D : Int) - (r : Int) < (r : Int)) = false := by simp; omega
      by_cases o2 : 2 * r = D
      · have c2 : ((r : Int) == (D : Int) - (r : Int)) = true := by simp; omega
        by_cases o3 : n % 2 = 1
        · have hm2 : m = n + 1 := by rw [hmr, if_pos (.inr ⟨o2, o3⟩)]
          rw [o3] at hand
          clear hmr
          by_cases hn : n = 18446744073709551615
          · have hs := HSt.out true (by rw [if_pos rfl]; exact hm2) rfl hn
            rw [hs]
            simp only [Option.getD_none, Option.isSome_none]
            have HMo := Lib.hid (fun W => show Calls Try.prog 106 #[.int .u64 (n : Int), .bool true] W fun e w' => e = .returned (.tuple #[.int .u64 0, .bool false]) ∧ W = w' by have := more_any (n : Int) true W (by omega) (by omega); rw [if_pos rfl, if_pos (by omega)] at this; exact this)
            clear hn hs HSt
            go_enter Try.func69, Try.ntmps69
            go_wp2_with fail
            refine (HP.out _).mono ?_
            rintro e w1 ⟨rfl, hb1⟩
            go_wp2_with fail
            refine (HMo.out _).mono ?_
            rintro e w2 ⟨rfl, rfl⟩
            go_wp2_with fail
            go_ret2
            exact ⟨rfl, hb1⟩
          · have HMo := Lib.hid (fun W => show Calls Try.prog 106 #[.int .u64 (n : Int), .bool true] W fun e w' => e = .returned (.tuple #[.int .u64 (m : Int), .bool true]) ∧ W = w' by have := more_any (n : Int) true W (by omega) (by omega); rw [if_pos rfl, if_neg (by omega)] at this; rw [hm2]; exact this)
            have hmb : m < 18446744073709551616 := by omega
            clear hn HSt hm2
            go_enter Try.func69, Try.ntmps69
            go_wp2_with fail
            refine (HP.out _).mono ?_
            rintro e w1 ⟨rfl, hb1⟩
            go_wp2_with fail
            refine (HMo.out _).mono ?_
            rintro e w2 ⟨rfl, rfl⟩
            go_wp2_with fail
            refine (HU.out _).mono ?_
            rintro e w3 ⟨rfl, rfl⟩
            go_wp2_with fail
            refine (signed_any _ _ _ (by omega) (by omega)).mono ?_
            rintro e w4 ⟨rfl, rfl⟩
            go_wp2_with fail
            go_ret2
            exact ⟨rfl, hb1⟩
        · have hm2 : m = n := by rw [hmr, if_neg (by omega)]
          have o4 : n % 2 = 0 := by omega
          rw [o4] at hand
          clear hmr
          have HMo := Lib.hid (fun W => show Calls Try.prog 106 #[.int .u64 (n : Int), .bool false] W fun e w' => e = .returned (.tuple #[.int .u64 (m : Int), .bool true]) ∧ W = w' by have := more_any (n : Int) false W (by omega) (by omega); rw [if_neg (by decide)] at this; rw [hm2]; exact this)
          have hmb : m < 18446744073709551616 := by omega
          clear HSt hm2
          go_enter Try.func69, Try.ntmps69
          go_wp2_with fail
          refine (HP.out _).mono ?_
          rintro e w1 ⟨rfl, hb1⟩
          go_wp2_with fail
          refine (HMo.out _).mono ?_
          rintro e w2 ⟨rfl, rfl⟩
          go_wp2_with fail
          refine (HU.out _).mono ?_
          rintro e w3 ⟨rfl, rfl⟩
          go_wp2_with fail
          refine (signed_any _ _ _ (by omega) (by omega)).mono ?_
          rintro e w4 ⟨rfl, rfl⟩
          go_wp2_with fail
          go_ret2
          exact ⟨rfl, hb1⟩
      · have c2 : ((r : Int) == (D : Int) - (r : Int)) = false := by simp; omega
        have hm2 : m = n := by rw [hmr, if_neg (by omega)]
        clear hmr
        have HMo := Lib.hid (fun W => show Calls Try.prog 106 #[.int .u64 (n : Int), .bool false] W fun e w' => e = .returned (.tuple #[.int .u64 (m : Int), .bool true]) ∧ W = w' by have := more_any (n : Int) false W (by omega) (by omega); rw [if_neg (by decide)] at this; rw [hm2]; exact this)
        have hmb : m < 18446744073709551616 := by omega
        clear HSt hm2
        go_enter Try.func69, Try.ntmps69
        go_wp2_with fail
        refine (HP.out _).mono ?_
        rintro e w1 ⟨rfl, hb1⟩
        go_wp2_with fail
        refine (HMo.out _).mono ?_
        rintro e w2 ⟨rfl, rfl⟩
        go_wp2_with fail
        refine (HU.out _).mono ?_
        rintro e w3 ⟨rfl, rfl⟩
        go_wp2_with fail
        refine (signed_any _ _ _ (by omega) (by omega)).mono ?_
        rintro e w4 ⟨rfl, rfl⟩
        go_wp2_with fail
        go_ret2
        exact ⟨rfl, hb1⟩
end Go.Proofs.Ytegpjjkbbdfggaa.mt
