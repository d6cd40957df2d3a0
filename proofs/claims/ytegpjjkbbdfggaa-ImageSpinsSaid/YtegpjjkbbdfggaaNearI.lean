/-
  Of layer 24: near, det, round (for the seat of the images; the text of mat/XFix).
-/
import Derived.Test.YtegpjjkbbdfggaaFixI
import Derived.Test.YtegpjjkbbdfggaaMulDiv
import Derived.Test.YtegpjjkbbdfggaaBits
namespace Go.Proofs.Ytegpjjkbbdfggaa.mt
set_option linter.unusedVariables false
set_option linter.unusedSimpArgs false
open Go.RowKit bs
/-- n / p, rounded half to even (h: the half of p) -/
def even (n p h : Int) : Int := if h < n % p ∨ n % p = h ∧ n / p % 2 = 1 then n / p + 1 else n / p
set_option maxRecDepth 100000 in
theorem even_bd (n p h : Int) (hp : 0 < p) : n / p ≤ even n p h ∧ even n p h ≤ n / p + 1 := by unfold even; split <;> omega

set_option maxRecDepth 100000 in
theorem round16 (n : Int) (w : World) (h0 : -4611686018427387904 ≤ n) (h1 : n ≤ 4611686018427387904) : Calls Try.prog 86 #[.int .i64 n, .int .u64 16] w fun e w' => e = .returned (.int .i64 (even n 65536 32768)) ∧ w = w' := by
  have hev : even n 65536 32768 = if 32768 < n % 65536 ∨ n % 65536 = 32768 ∧ n / 65536 % 2 = 1 then n / 65536 + 1 else n / 65536 := rfl
  have hand := nb.bits_and_one (n / 65536)
  obtain ⟨q, hq⟩ : ∃ q, n / 65536 = q := ⟨_, rfl⟩
  obtain ⟨r, hr⟩ : ∃ r, n % 65536 = r := ⟨_, rfl⟩
  have hn : n - q * 65536 = r := by omega
  rw [hq] at hev hand
  rw [hr] at hev
  have q0 : -70368744177664 ≤ q := by omega
  have q1 : q ≤ 70368744177664 := by omega
  generalize even n 65536 32768 = m at *
  have HQ := Lib.hid hr
  clear hr
  by_cases c : 32768 < r
  · rw [if_pos (.inl c)] at hev
    have c1 : decide (32768 < r) = true := by simp; omega
    have HE := Lib.hid hev
    clear hev hand
    rw [HE.out]
    go_enter Try.func86, Try.ntmps86
    go_wp2_with fail
    go_ret
    exact ⟨ret_int (by omega), rfl⟩
  · have c1 : decide (32768 < r) = false := by simp; omega
    by_cases d : r = 32768
    · have c2 : (r == 32768) = true := by simp; omega
      by_cases e : q % 2 = 1
      · rw [if_pos (.inr ⟨d, e⟩)] at hev
        rw [e] at hand
        have HE := Lib.hid hev
        clear hev
        rw [HE.out]
        go_enter Try.func86, Try.ntmps86
        go_wp2_with fail
        go_ret
        exact ⟨ret_int (by omega), rfl⟩
      · rw [if_neg (by omega)] at hev
        rw [show q % 2 = 0 by omega] at hand
        have HE := Lib.hid hev
        clear hev
        rw [HE.out]
        go_enter Try.func86, Try.ntmps86
        go_wp2_with fail
        go_ret
        exact ⟨ret_int (by omega), rfl⟩
    · have c2 : (r == 32768) = false := by simp; omega
      rw [if_neg (by omega)] at hev
      have HE := Lib.hid hev
      clear hev hand
      rw [HE.out]
      go_enter Try.func86, Try.ntmps86
      go_wp2_with fail
      go_ret
      exact ⟨ret_int (by omega), rfl⟩

set_option maxRecDepth 100000 in
theorem round32 (n : Int) (w : World) (h0 : -4611686018427387904 ≤ n) (h1 : n ≤ 4611686018427387904) : Calls Try.prog 86 #[.int .i64 n, .int .u64 32] w fun e w' => e = .returned (.int .i64 (even n 4294967296 2147483648)) ∧ w = w' := by
  have hev : even n 4294967296 2147483648 = if 2147483648 < n % 4294967296 ∨ n % 4294967296 = 2147483648 ∧ n / 4294967296 % 2 = 1 then n / 4294967296 + 1 else n / 4294967296 := rfl
  have hand := nb.bits_and_one (n / 4294967296)
  obtain ⟨q, hq⟩ : ∃ q, n / 4294967296 = q := ⟨_, rfl⟩
  obtain ⟨r, hr⟩ : ∃ r, n % 4294967296 = r := ⟨_, rfl⟩
  have hn : n - q * 4294967296 = r := by omega
  rw [hq] at hev hand
  rw [hr] at hev
  have q0 : -1073741824 ≤ q := by omega
  have q1 : q ≤ 1073741824 := by omega
  generalize even n 4294967296 2147483648 = m at *
  have HQ := Lib.hid hr
  clear hr
  by_cases c : 2147483648 < r
  · rw [if_pos (.inl c)] at hev
    have c1 : decide (2147483648 < r) = true := by simp; omega
    have HE := Lib.hid hev
    clear hev hand
    rw [HE.out]
    go_enter Try.func86, Try.ntmps86
    go_wp2_with fail
    go_ret
    exact ⟨ret_int (by omega), rfl⟩
  · have c1 : decide (2147483648 < r) = false := by simp; omega
    by_cases d : r = 2147483648
    · have c2 : (r == 2147483648) = true := by simp; omega
      by_cases e : q % 2 = 1
      · rw [if_pos (.inr ⟨d, e⟩)] at hev
        rw [e] at hand
        have HE := Lib.hid hev
        clear hev
        rw [HE.out]
        go_enter Try.func86, Try.ntmps86
        go_wp2_with fail
        go_ret
        exact ⟨ret_int (by omega), rfl⟩
      · rw [if_neg (by omega)] at hev
        rw [show q % 2 = 0 by omega] at hand
        have HE := Lib.hid hev
        clear hev
        rw [HE.out]
        go_enter Try.func86, Try.ntmps86
        go_wp2_with fail
        go_ret
        exact ⟨ret_int (by omega), rfl⟩
    · have c2 : (r == 2147483648) = false := by simp; omega
      rw [if_neg (by omega)] at hev
      have HE := Lib.hid hev
      clear hev hand
      rw [HE.out]
      go_enter Try.func86, Try.ntmps86
      go_wp2_with fail
      go_ret
      exact ⟨ret_int (by omega), rfl⟩

/-- are two numbers near 0 -/
def nearB (x y m : Int) : Bool := decide (-m ≤ x) && decide (x ≤ m) && decide (-m ≤ y) && decide (y ≤ m)
/-- a number, if all is well; else 0 -/
def okI (b : Bool) (x : Int) : Int := if b = true then x else 0
/-- what is said of it -/
def okE (b : Bool) : Int := if b = true then 0 else 2

set_option maxRecDepth 100000 in
theorem near_any (x y m : Int) (w : World) (m0 : 0 ≤ m) (m1 : m ≤ 4294967296) : Calls Try.prog 67 #[.int .i64 x, .int .i64 y, .int .i64 m] w fun e w' => e = .returned (.tuple #[.int .i64 (okI (nearB x y m) x), .int .i64 (okI (nearB x y m) y), .int .i64 (okE (nearB x y m))]) ∧ w = w' := by
  by_cases h0 : x < -m
  · have hb : nearB x y m = false := by unfold nearB; simp; omega
    rw [hb]
    have c0 : decide (x < -m) = true := by simp; omega
    go_enter Try.func67, Try.ntmps67
    go_wp2_with fail
    go_ret3
    exact ⟨rfl, rfl⟩
  · have c0 : decide (x < -m) = false := by simp; omega
    by_cases h1 : m < x
    · have hb : nearB x y m = false := by unfold nearB; simp; omega
      rw [hb]
      have c1 : decide (m < x) = true := by simp; omega
      go_enter Try.func67, Try.ntmps67
      go_wp2_with fail
      go_ret3
      exact ⟨rfl, rfl⟩
    · have c1 : decide (m < x) = false := by simp; omega
      by_cases h2 : y < -m
      · have hb : nearB x y m = false := by unfold nearB; simp; omega
        rw [hb]
        have c2 : decide (y < -m) = true := by simp; omega
        go_enter Try.func67, Try.ntmps67
        go_wp2_with fail
        go_ret3
        exact ⟨rfl, rfl⟩
      · have c2 : decide (y < -m) = false := by simp; omega
        by_cases h3 : m < y
        · have hb : nearB x y m = false := by unfold nearB; simp; omega
          rw [hb]
          have c3 : decide (m < y) = true := by simp; omega
          go_enter Try.func67, Try.ntmps67
          go_wp2_with fail
          go_ret3
          exact ⟨rfl, rfl⟩
        · have c3 : decide (m < y) = false := by simp; omega
          have hb : nearB x y m = true := by unfold nearB; simp; omega
          rw [hb]
          go_enter Try.func67, Try.ntmps67
          go_wp2_with fail
          go_ret3
          exact ⟨rfl, rfl⟩

set_option maxRecDepth 100000 in
theorem det_any (A B C D E F : Int) (w : World) (h : mayB A B C D E F = true) : Calls Try.prog 68 #[.agg #[.int .i64 A, .int .i64 B, .int .i64 C, .int .i64 D, .int .i64 E, .int .i64 F]] w fun e w' => e = .returned (.int .i64 (A * D - B * C)) ∧ Below w.heap.size w w' := by
  obtain ⟨a, b, c, d, _, _⟩ := mayB_bd h
  have b1 := fix_mul a d
  have b2 := fix_mul b c
  generalize h1 : A * D = x at *
  generalize h2 : B * C = y at *
  obtain ⟨b10, b11⟩ := b1
  obtain ⟨b20, b21⟩ := b2
  clear a b c d h
  go_enter Try.func68, Try.ntmps68
  go_wp2_with fail
  go_ret
  exact ⟨rfl, by (repeat' (first | exact Below.refl _ _ | exact Below.refl _ _ | refine balloc ?_ _ | refine Below.drew ?_ | refine below_drewN ?_ _ | refine bset ?_ (by first | omega | (simp <;> omega)) _))⟩

end Go.Proofs.Ytegpjjkbbdfggaa.mt
