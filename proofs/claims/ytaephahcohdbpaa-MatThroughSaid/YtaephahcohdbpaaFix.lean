/-
  Layer 24: the small functions: fix, round, near, det, May, and the reference's alike.
-/
import Derived.Test.YtaephahcohdbpaaMulDiv
import Derived.Test.YtaephahcohdbpaaBits
import Derived.Test.YtaephahcohdbpaaMem
namespace Go.Proofs.Ytaephahcohdbpaa.mt
set_option linter.unusedVariables false
set_option linter.unusedSimpArgs false
open Go.RowKit bs

/-- may a number be a fix -/
def fixB (v : Int) : Bool := decide (-1073741823 ≤ v) && decide (v ≤ 1073741823)
theorem fixB_true {v : Int} (h : -1073741823 ≤ v ∧ v ≤ 1073741823) : fixB v = true := by unfold fixB; simp; omega
theorem fixB_false {v : Int} (h : v < -1073741823 ∨ 1073741823 < v) : fixB v = false := by unfold fixB; simp; omega
theorem fixB_bd {v : Int} (h : fixB v = true) : -1073741823 ≤ v ∧ v ≤ 1073741823 := by unfold fixB at h; simpa using h
/-- a product of two fixes -/
theorem fix_mul {a b : Int} (ha : -1073741823 ≤ a ∧ a ≤ 1073741823) (hb : -1073741823 ≤ b ∧ b ≤ 1073741823) : -1152921502459363329 ≤ a * b ∧ a * b ≤ 1152921502459363329 := by
  have h1 := Int.mul_nonneg (show 0 ≤ 1073741823 - a by omega) (show 0 ≤ 1073741823 - b by omega)
  have h2 := Int.mul_nonneg (show 0 ≤ 1073741823 + a by omega) (show 0 ≤ 1073741823 + b by omega)
  have h3 := Int.mul_nonneg (show 0 ≤ 1073741823 - a by omega) (show 0 ≤ 1073741823 + b by omega)
  have h4 := Int.mul_nonneg (show 0 ≤ 1073741823 + a by omega) (show 0 ≤ 1073741823 - b by omega)
  simp only [Int.sub_mul, Int.mul_sub, Int.add_mul, Int.mul_add] at h1 h2 h3 h4
  omega

theorem fix_any (v : Int) (w : World) : Calls Try.prog 51 #[.int .i64 v] w fun e w' => e = .returned (.bool (fixB v)) ∧ w = w' := by
  by_cases h1 : v < -1073741823
  · rw [fixB_false (.inl h1)]
    have c1 : decide (-1073741823 ≤ v) = false := by simp; omega
    go_enter Try.func51, Try.ntmps51
    go_wp2_with fail
    go_ret
    exact ⟨rfl, rfl⟩
  · have c1 : decide (-1073741823 ≤ v) = true := by simp; omega
    by_cases h2 : 1073741823 < v
    · rw [fixB_false (.inr h2)]
      have c2 : decide (v ≤ 1073741823) = false := by simp; omega
      go_enter Try.func51, Try.ntmps51
      go_wp2_with fail
      go_ret
      exact ⟨rfl, rfl⟩
    · rw [fixB_true (by omega)]
      have c2 : decide (v ≤ 1073741823) = true := by simp; omega
      go_enter Try.func51, Try.ntmps51
      go_wp2_with fail
      go_ret
      exact ⟨rfl, rfl⟩

theorem rfix_any (v : Int) (w : World) : Calls Try.prog 18 #[.int .i64 v] w fun e w' => e = .returned (.bool (fixB v)) ∧ w = w' := by
  by_cases h1 : v < -1073741823
  · rw [fixB_false (.inl h1)]
    have c1 : decide (-1073741823 ≤ v) = false := by simp; omega
    go_enter Try.func18, Try.ntmps18
    go_wp2_with fail
    go_ret
    exact ⟨rfl, rfl⟩
  · have c1 : decide (-1073741823 ≤ v) = true := by simp; omega
    by_cases h2 : 1073741823 < v
    · rw [fixB_false (.inr h2)]
      have c2 : decide (v ≤ 1073741823) = false := by simp; omega
      go_enter Try.func18, Try.ntmps18
      go_wp2_with fail
      go_ret
      exact ⟨rfl, rfl⟩
    · rw [fixB_true (by omega)]
      have c2 : decide (v ≤ 1073741823) = true := by simp; omega
      go_enter Try.func18, Try.ntmps18
      go_wp2_with fail
      go_ret
      exact ⟨rfl, rfl⟩

/-- n / p, rounded half to even (h: the half of p) -/
def even (n p h : Int) : Int := if h < n % p ∨ n % p = h ∧ n / p % 2 = 1 then n / p + 1 else n / p
theorem even_bd (n p h : Int) (hp : 0 < p) : n / p ≤ even n p h ∧ even n p h ≤ n / p + 1 := by unfold even; split <;> omega

theorem round16 (n : Int) (w : World) (h0 : -4611686018427387904 ≤ n) (h1 : n ≤ 4611686018427387904) : Calls Try.prog 58 #[.int .i64 n, .int .u64 16] w fun e w' => e = .returned (.int .i64 (even n 65536 32768)) ∧ w = w' := by
  have hev : even n 65536 32768 = if 32768 < n % 65536 ∨ n % 65536 = 32768 ∧ n / 65536 % 2 = 1 then n / 65536 + 1 else n / 65536 := rfl
  have hand := nb.bits_and_one (n / 65536)
  obtain ⟨q, hq⟩ : ∃ q, n / 65536 = q := ⟨_, rfl⟩
  obtain ⟨r, hr⟩ : ∃ r, n % 65536 = r := ⟨_, rfl⟩
  have hn : n - q * 65536 = r := by omega
  rw [hq] at hev hand
  rw [hr] at hev
  have q0 : -70368744177664 ≤ q := by omega
  have q1 : q ≤ 70368744177664 := by omega
  generalize even n 65536 32768 = m at *
  have HQ := Lib.hid hr
  clear hr
  by_cases c : 32768 < r
  · rw [if_pos (.inl c)] at hev
    have c1 : decide (32768 < r) = true := by simp; omega
    have HE := Lib.hid hev
    clear hev hand
    rw [HE.out]
    go_enter Try.func58, Try.ntmps58
    go_wp2_with fail
    go_ret
    exact ⟨ret_int (by omega), rfl⟩
  · have c1 : decide (32768 < r) = false := by simp; omega
    by_cases d : r = 32768
    · have c2 : (r == 32768) = true := by simp; omega
      by_cases e : q % 2 = 1
      · rw [if_pos (.inr ⟨d, e⟩)] at hev
        rw [e] at hand
        have HE := Lib.hid hev
        clear hev
        rw [HE.out]
        go_enter Try.func58, Try.ntmps58
        go_wp2_with fail
        go_ret
        exact ⟨ret_int (by omega), rfl⟩
      · rw [if_neg (by omega)] at hev
        rw [show q % 2 = 0 by omega] at hand
        have HE := Lib.hid hev
        clear hev
        rw [HE.out]
        go_enter Try.func58, Try.ntmps58
        go_wp2_with fail
        go_ret
        exact ⟨ret_int (by omega), rfl⟩
    · have c2 : (r == 32768) = false := by simp; omega
      rw [if_neg (by omega)] at hev
      have HE := Lib.hid hev
      clear hev hand
      rw [HE.out]
      go_enter Try.func58, Try.ntmps58
      go_wp2_with fail
      go_ret
      exact ⟨ret_int (by omega), rfl⟩

theorem reven16 (n : Int) (w : World) (h0 : -4611686018427387904 ≤ n) (h1 : n ≤ 4611686018427387904) : Calls Try.prog 64 #[.int .i64 n, .int .i64 16] w fun e w' => e = .returned (.int .i64 (even n 65536 32768)) ∧ w = w' := by
  have hev : even n 65536 32768 = if 32768 < n % 65536 ∨ n % 65536 = 32768 ∧ n / 65536 % 2 = 1 then n / 65536 + 1 else n / 65536 := rfl
  have hand := nb.bits_and_one (n / 65536)
  obtain ⟨q, hq⟩ : ∃ q, n / 65536 = q := ⟨_, rfl⟩
  obtain ⟨r, hr⟩ : ∃ r, n % 65536 = r := ⟨_, rfl⟩
  have hn : n - q * 65536 = r := by omega
  rw [hq] at hev hand
  rw [hr] at hev
  have q0 : -70368744177664 ≤ q := by omega
  have q1 : q ≤ 70368744177664 := by omega
  generalize even n 65536 32768 = m at *
  have HQ := Lib.hid hr
  clear hr
  by_cases c : 32768 < r
  · rw [if_pos (.inl c)] at hev
    have c1 : decide (32768 < r) = true := by simp; omega
    have HE := Lib.hid hev
    clear hev hand
    rw [HE.out]
    go_enter Try.func64, Try.ntmps64
    go_wp2_with fail
    go_ret
    exact ⟨ret_int (by omega), rfl⟩
  · have c1 : decide (32768 < r) = false := by simp; omega
    by_cases d : r = 32768
    · have c2 : (r == 32768) = true := by simp; omega
      by_cases e : q % 2 = 1
      · rw [if_pos (.inr ⟨d, e⟩)] at hev
        rw [e] at hand
        have HE := Lib.hid hev
        clear hev
        rw [HE.out]
        go_enter Try.func64, Try.ntmps64
        go_wp2_with fail
        go_ret
        exact ⟨ret_int (by omega), rfl⟩
      · rw [if_neg (by omega)] at hev
        rw [show q % 2 = 0 by omega] at hand
        have HE := Lib.hid hev
        clear hev
        rw [HE.out]
        go_enter Try.func64, Try.ntmps64
        go_wp2_with fail
        go_ret
        exact ⟨ret_int (by omega), rfl⟩
    · have c2 : (r == 32768) = false := by simp; omega
      rw [if_neg (by omega)] at hev
      have HE := Lib.hid hev
      clear hev hand
      rw [HE.out]
      go_enter Try.func64, Try.ntmps64
      go_wp2_with fail
      go_ret
      exact ⟨ret_int (by omega), rfl⟩

theorem round32 (n : Int) (w : World) (h0 : -4611686018427387904 ≤ n) (h1 : n ≤ 4611686018427387904) : Calls Try.prog 58 #[.int .i64 n, .int .u64 32] w fun e w' => e = .returned (.int .i64 (even n 4294967296 2147483648)) ∧ w = w' := by
  have hev : even n 4294967296 2147483648 = if 2147483648 < n % 4294967296 ∨ n % 4294967296 = 2147483648 ∧ n / 4294967296 % 2 = 1 then n / 4294967296 + 1 else n / 4294967296 := rfl
  have hand := nb.bits_and_one (n / 4294967296)
  obtain ⟨q, hq⟩ : ∃ q, n / 4294967296 = q := ⟨_, rfl⟩
  obtain ⟨r, hr⟩ : ∃ r, n % 4294967296 = r := ⟨_, rfl⟩
  have hn : n - q * 4294967296 = r := by omega
  rw [hq] at hev hand
  rw [hr] at hev
  have q0 : -1073741824 ≤ q := by omega
  have q1 : q ≤ 1073741824 := by omega
  generalize even n 4294967296 2147483648 = m at *
  have HQ := Lib.hid hr
  clear hr
  by_cases c : 2147483648 < r
  · rw [if_pos (.inl c)] at hev
    have c1 : decide (2147483648 < r) = true := by simp; omega
    have HE := Lib.hid hev
    clear hev hand
    rw [HE.out]
    go_enter Try.func58, Try.ntmps58
    go_wp2_with fail
    go_ret
    exact ⟨ret_int (by omega), rfl⟩
  · have c1 : decide (2147483648 < r) = false := by simp; omega
    by_cases d : r = 2147483648
    · have c2 : (r == 2147483648) = true := by simp; omega
      by_cases e : q % 2 = 1
      · rw [if_pos (.inr ⟨d, e⟩)] at hev
        rw [e] at hand
        have HE := Lib.hid hev
        clear hev
        rw [HE.out]
        go_enter Try.func58, Try.ntmps58
        go_wp2_with fail
        go_ret
        exact ⟨ret_int (by omega), rfl⟩
      · rw [if_neg (by omega)] at hev
        rw [show q % 2 = 0 by omega] at hand
        have HE := Lib.hid hev
        clear hev
        rw [HE.out]
        go_enter Try.func58, Try.ntmps58
        go_wp2_with fail
        go_ret
        exact ⟨ret_int (by omega), rfl⟩
    · have c2 : (r == 2147483648) = false := by simp; omega
      rw [if_neg (by omega)] at hev
      have HE := Lib.hid hev
      clear hev hand
      rw [HE.out]
      go_enter Try.func58, Try.ntmps58
      go_wp2_with fail
      go_ret
      exact ⟨ret_int (by omega), rfl⟩

theorem reven32 (n : Int) (w : World) (h0 : -4611686018427387904 ≤ n) (h1 : n ≤ 4611686018427387904) : Calls Try.prog 64 #[.int .i64 n, .int .i64 32] w fun e w' => e = .returned (.int .i64 (even n 4294967296 2147483648)) ∧ w = w' := by
  have hev : even n 4294967296 2147483648 = if 2147483648 < n % 4294967296 ∨ n % 4294967296 = 2147483648 ∧ n / 4294967296 % 2 = 1 then n / 4294967296 + 1 else n / 4294967296 := rfl
  have hand := nb.bits_and_one (n / 4294967296)
  obtain ⟨q, hq⟩ : ∃ q, n / 4294967296 = q := ⟨_, rfl⟩
  obtain ⟨r, hr⟩ : ∃ r, n % 4294967296 = r := ⟨_, rfl⟩
  have hn : n - q * 4294967296 = r := by omega
  rw [hq] at hev hand
  rw [hr] at hev
  have q0 : -1073741824 ≤ q := by omega
  have q1 : q ≤ 1073741824 := by omega
  generalize even n 4294967296 2147483648 = m at *
  have HQ := Lib.hid hr
  clear hr
  by_cases c : 2147483648 < r
  · rw [if_pos (.inl c)] at hev
    have c1 : decide (2147483648 < r) = true := by simp; omega
    have HE := Lib.hid hev
    clear hev hand
    rw [HE.out]
    go_enter Try.func64, Try.ntmps64
    go_wp2_with fail
    go_ret
    exact ⟨ret_int (by omega), rfl⟩
  · have c1 : decide (2147483648 < r) = false := by simp; omega
    by_cases d : r = 2147483648
    · have c2 : (r == 2147483648) = true := by simp; omega
      by_cases e : q % 2 = 1
      · rw [if_pos (.inr ⟨d, e⟩)] at hev
        rw [e] at hand
        have HE := Lib.hid hev
        clear hev
        rw [HE.out]
        go_enter Try.func64, Try.ntmps64
        go_wp2_with fail
        go_ret
        exact ⟨ret_int (by omega), rfl⟩
      · rw [if_neg (by omega)] at hev
        rw [show q % 2 = 0 by omega] at hand
        have HE := Lib.hid hev
        clear hev
        rw [HE.out]
        go_enter Try.func64, Try.ntmps64
        go_wp2_with fail
        go_ret
        exact ⟨ret_int (by omega), rfl⟩
    · have c2 : (r == 2147483648) = false := by simp; omega
      rw [if_neg (by omega)] at hev
      have HE := Lib.hid hev
      clear hev hand
      rw [HE.out]
      go_enter Try.func64, Try.ntmps64
      go_wp2_with fail
      go_ret
      exact ⟨ret_int (by omega), rfl⟩

/-- are two numbers near 0 -/
def nearB (x y m : Int) : Bool := decide (-m ≤ x) && decide (x ≤ m) && decide (-m ≤ y) && decide (y ≤ m)
/-- a number, if all is well; else 0 -/
def okI (b : Bool) (x : Int) : Int := if b = true then x else 0
/-- what is said of it -/
def okE (b : Bool) : Int := if b = true then 0 else 2

theorem near_any (x y m : Int) (w : World) (m0 : 0 ≤ m) (m1 : m ≤ 4294967296) : Calls Try.prog 61 #[.int .i64 x, .int .i64 y, .int .i64 m] w fun e w' => e = .returned (.tuple #[.int .i64 (okI (nearB x y m) x), .int .i64 (okI (nearB x y m) y), .int .i64 (okE (nearB x y m))]) ∧ w = w' := by
  by_cases h0 : x < -m
  · have hb : nearB x y m = false := by unfold nearB; simp; omega
    rw [hb]
    have c0 : decide (x < -m) = true := by simp; omega
    go_enter Try.func61, Try.ntmps61
    go_wp2_with fail
    go_ret3
    exact ⟨rfl, rfl⟩
  · have c0 : decide (x < -m) = false := by simp; omega
    by_cases h1 : m < x
    · have hb : nearB x y m = false := by unfold nearB; simp; omega
      rw [hb]
      have c1 : decide (m < x) = true := by simp; omega
      go_enter Try.func61, Try.ntmps61
      go_wp2_with fail
      go_ret3
      exact ⟨rfl, rfl⟩
    · have c1 : decide (m < x) = false := by simp; omega
      by_cases h2 : y < -m
      · have hb : nearB x y m = false := by unfold nearB; simp; omega
        rw [hb]
        have c2 : decide (y < -m) = true := by simp; omega
        go_enter Try.func61, Try.ntmps61
        go_wp2_with fail
        go_ret3
        exact ⟨rfl, rfl⟩
      · have c2 : decide (y < -m) = false := by simp; omega
        by_cases h3 : m < y
        · have hb : nearB x y m = false := by unfold nearB; simp; omega
          rw [hb]
          have c3 : decide (m < y) = true := by simp; omega
          go_enter Try.func61, Try.ntmps61
          go_wp2_with fail
          go_ret3
          exact ⟨rfl, rfl⟩
        · have c3 : decide (m < y) = false := by simp; omega
          have hb : nearB x y m = true := by unfold nearB; simp; omega
          rw [hb]
          go_enter Try.func61, Try.ntmps61
          go_wp2_with fail
          go_ret3
          exact ⟨rfl, rfl⟩

theorem two_any (x y m : Int) (w : World) (m0 : 0 ≤ m) (m1 : m ≤ 4294967296) : Calls Try.prog 67 #[.int .i64 x, .int .i64 y, .int .i64 m] w fun e w' => e = .returned (.tuple #[.int .i64 (okI (nearB x y m) x), .int .i64 (okI (nearB x y m) y), .int .i64 (okE (nearB x y m))]) ∧ w = w' := by
  by_cases h0 : x < -m
  · have hb : nearB x y m = false := by unfold nearB; simp; omega
    rw [hb]
    have c0 : decide (x < -m) = true := by simp; omega
    go_enter Try.func67, Try.ntmps67
    go_wp2_with fail
    go_ret3
    exact ⟨rfl, rfl⟩
  · have c0 : decide (x < -m) = false := by simp; omega
    by_cases h1 : m < x
    · have hb : nearB x y m = false := by unfold nearB; simp; omega
      rw [hb]
      have c1 : decide (m < x) = true := by simp; omega
      go_enter Try.func67, Try.ntmps67
      go_wp2_with fail
      go_ret3
      exact ⟨rfl, rfl⟩
    · have c1 : decide (m < x) = false := by simp; omega
      by_cases h2 : y < -m
      · have hb : nearB x y m = false := by unfold nearB; simp; omega
        rw [hb]
        have c2 : decide (y < -m) = true := by simp; omega
        go_enter Try.func67, Try.ntmps67
        go_wp2_with fail
        go_ret3
        exact ⟨rfl, rfl⟩
      · have c2 : decide (y < -m) = false := by simp; omega
        by_cases h3 : m < y
        · have hb : nearB x y m = false := by unfold nearB; simp; omega
          rw [hb]
          have c3 : decide (m < y) = true := by simp; omega
          go_enter Try.func67, Try.ntmps67
          go_wp2_with fail
          go_ret3
          exact ⟨rfl, rfl⟩
        · have c3 : decide (m < y) = false := by simp; omega
          have hb : nearB x y m = true := by unfold nearB; simp; omega
          rw [hb]
          go_enter Try.func67, Try.ntmps67
          go_wp2_with fail
          go_ret3
          exact ⟨rfl, rfl⟩

/-- may a matrix be -/
def mayB (A B C D E F : Int) : Bool := fixB A && fixB B && fixB C && fixB D && fixB E && fixB F
theorem mayB_bd {A B C D E F : Int} (h : mayB A B C D E F = true) : (-1073741823 ≤ A ∧ A ≤ 1073741823) ∧ (-1073741823 ≤ B ∧ B ≤ 1073741823) ∧ (-1073741823 ≤ C ∧ C ≤ 1073741823) ∧ (-1073741823 ≤ D ∧ D ≤ 1073741823) ∧ (-1073741823 ≤ E ∧ E ≤ 1073741823) ∧ (-1073741823 ≤ F ∧ F ≤ 1073741823) := by
  unfold mayB at h
  simp only [Bool.and_eq_true] at h
  obtain ⟨⟨⟨⟨⟨a, b⟩, c⟩, d⟩, e⟩, f⟩ := h
  exact ⟨fixB_bd a, fixB_bd b, fixB_bd c, fixB_bd d, fixB_bd e, fixB_bd f⟩

theorem det_any (A B C D E F : Int) (w : World) (h : mayB A B C D E F = true) : Calls Try.prog 52 #[.agg #[.int .i64 A, .int .i64 B, .int .i64 C, .int .i64 D, .int .i64 E, .int .i64 F]] w fun e w' => e = .returned (.int .i64 (A * D - B * C)) ∧ Below w.heap.size w w' := by
  obtain ⟨a, b, c, d, _, _⟩ := mayB_bd h
  have b1 := fix_mul a d
  have b2 := fix_mul b c
  generalize h1 : A * D = x at *
  generalize h2 : B * C = y at *
  obtain ⟨b10, b11⟩ := b1
  obtain ⟨b20, b21⟩ := b2
  clear a b c d h
  go_enter Try.func52, Try.ntmps52
  go_wp2_with fail
  go_ret
  exact ⟨rfl, by (repeat' (first | exact Below.refl _ _ | exact Below.refl _ _ | refine balloc ?_ _ | refine Below.drew ?_ | refine below_drewN ?_ _ | refine bset ?_ (by first | omega | (simp <;> omega)) _))⟩

theorem rdet_any (A B C D E F : Int) (w : World) (h : mayB A B C D E F = true) : Calls Try.prog 56 #[.agg #[.int .i64 A, .int .i64 B, .int .i64 C, .int .i64 D, .int .i64 E, .int .i64 F]] w fun e w' => e = .returned (.int .i64 (A * D - B * C)) ∧ Below w.heap.size w w' := by
  obtain ⟨a, b, c, d, _, _⟩ := mayB_bd h
  have b1 := fix_mul a d
  have b2 := fix_mul b c
  generalize h1 : A * D = x at *
  generalize h2 : B * C = y at *
  obtain ⟨b10, b11⟩ := b1
  obtain ⟨b20, b21⟩ := b2
  clear a b c d h
  go_enter Try.func56, Try.ntmps56
  go_wp2_with fail
  go_ret
  exact ⟨rfl, by (repeat' (first | exact Below.refl _ _ | exact Below.refl _ _ | refine balloc ?_ _ | refine Below.drew ?_ | refine below_drewN ?_ _ | refine bset ?_ (by first | omega | (simp <;> omega)) _))⟩

set_option maxHeartbeats 3200000 in
theorem rmay_any (A B C D E F : Int) (w : World) : Calls Try.prog 38 #[.agg #[.int .i64 A, .int .i64 B, .int .i64 C, .int .i64 D, .int .i64 E, .int .i64 F]] w fun e w' => e = .returned (.bool (mayB A B C D E F)) ∧ Below w.heap.size w w' := by
  cases h0 : fixB A with
  | false =>
    have HF0 := Lib.hid (fun W => show Calls Try.prog 18 #[.int .i64 A] W fun e w' => e = .returned (.bool false) ∧ W = w' by have := rfix_any A W; rw [h0] at this; exact this)
    have hb : mayB A B C D E F = false := by unfold mayB; simp [h0]
    rw [hb]
    clear hb h0
    go_enter Try.func38, Try.ntmps38
    go_wp2_with fail
    refine (HF0.out _).mono ?_
    rintro e w' ⟨rfl, rfl⟩
    go_wp2_with fail
    go_ret
    exact ⟨rfl, by (repeat' (first | exact Below.refl _ _ | exact Below.refl _ _ | refine balloc ?_ _ | refine Below.drew ?_ | refine below_drewN ?_ _ | refine bset ?_ (by first | omega | (simp <;> omega)) _))⟩
  | true =>
    have HF0 := Lib.hid (fun W => show Calls Try.prog 18 #[.int .i64 A] W fun e w' => e = .returned (.bool true) ∧ W = w' by have := rfix_any A W; rw [h0] at this; exact this)
    cases h1 : fixB B with
    | false =>
      have HF1 := Lib.hid (fun W => show Calls Try.prog 18 #[.int .i64 B] W fun e w' => e = .returned (.bool false) ∧ W = w' by have := rfix_any B W; rw [h1] at this; exact this)
      have hb : mayB A B C D E F = false := by unfold mayB; simp [h1]
      rw [hb]
      clear hb h0 h1
      go_enter Try.func38, Try.ntmps38
      go_wp2_with fail
      refine (HF0.out _).mono ?_
      rintro e w' ⟨rfl, rfl⟩
      go_wp2_with fail
      refine (HF1.out _).mono ?_
      rintro e w' ⟨rfl, rfl⟩
      go_wp2_with fail
      go_ret
      exact ⟨rfl, by (repeat' (first | exact Below.refl _ _ | exact Below.refl _ _ | refine balloc ?_ _ | refine Below.drew ?_ | refine below_drewN ?_ _ | refine bset ?_ (by first | omega | (simp <;> omega)) _))⟩
    | true =>
      have HF1 := Lib.hid (fun W => show Calls Try.prog 18 #[.int .i64 B] W fun e w' => e = .returned (.bool true) ∧ W = w' by have := rfix_any B W; rw [h1] at this; exact this)
      cases h2 : fixB C with
      | false =>
        have HF2 := Lib.hid (fun W => show Calls Try.prog 18 #[.int .i64 C] W fun e w' => e = .returned (.bool false) ∧ W = w' by have := rfix_any C W; rw [h2] at this; exact this)
        have hb : mayB A B C D E F = false := by unfold mayB; simp [h2]
        rw [hb]
        clear hb h0 h1 h2
        go_enter Try.func38, Try.ntmps38
        go_wp2_with fail
        refine (HF0.out _).mono ?_
        rintro e w' ⟨rfl, rfl⟩
        go_wp2_with fail
        refine (HF1.out _).mono ?_
        rintro e w' ⟨rfl, rfl⟩
        go_wp2_with fail
        refine (HF2.out _).mono ?_
        rintro e w' ⟨rfl, rfl⟩
        go_wp2_with fail
        go_ret
        exact ⟨rfl, by (repeat' (first | exact Below.refl _ _ | exact Below.refl _ _ | refine balloc ?_ _ | refine Below.drew ?_ | refine below_drewN ?_ _ | refine bset ?_ (by first | omega | (simp <;> omega)) _))⟩
      | true =>
        have HF2 := Lib.hid (fun W => show Calls Try.prog 18 #[.int .i64 C] W fun e w' => e = .returned (.bool true) ∧ W = w' by have := rfix_any C W; rw [h2] at this; exact this)
        cases h3 : fixB D with
        | false =>
          have HF3 := Lib.hid (fun W => show Calls Try.prog 18 #[.int .i64 D] W fun e w' => e = .returned (.bool false) ∧ W = w' by have := rfix_any D W; rw [h3] at this; exact this)
          have hb : mayB A B C D E F = false := by unfold mayB; simp [h3]
          rw [hb]
          clear hb h0 h1 h2 h3
          go_enter Try.func38, Try.ntmps38
          go_wp2_with fail
          refine (HF0.out _).mono ?_
          rintro e w' ⟨rfl, rfl⟩
          go_wp2_with fail
          refine (HF1.out _).mono ?_
          rintro e w' ⟨rfl, rfl⟩
          go_wp2_with fail
          refine (HF2.out _).mono ?_
          rintro e w' ⟨rfl, rfl⟩
          go_wp2_with fail
          refine (HF3.out _).mono ?_
          rintro e w' ⟨rfl, rfl⟩
          go_wp2_with fail
          go_ret
          exact ⟨rfl, by (repeat' (first | exact Below.refl _ _ | exact Below.refl _ _ | refine balloc ?_ _ | refine Below.drew ?_ | refine below_drewN ?_ _ | refine bset ?_ (by first | omega | (simp <;> omega)) _))⟩
        | true =>
          have HF3 := Lib.hid (fun W => show Calls Try.prog 18 #[.int .i64 D] W fun e w' => e = .returned (.bool true) ∧ W = w' by have := rfix_any D W; rw [h3] at this; exact this)
          cases h4 : fixB E with
          | false =>
            have HF4 := Lib.hid (fun W => show Calls Try.prog 18 #[.int .i64 E] W fun e w' => e = .returned (.bool false) ∧ W = w' by have := rfix_any E W; rw [h4] at this; exact this)
            have hb : mayB A B C D E F = false := by unfold mayB; simp [h4]
            rw [hb]
            clear hb h0 h1 h2 h3 h4
            go_enter Try.func38, Try.ntmps38
            go_wp2_with fail
            refine (HF0.out _).mono ?_
            rintro e w' ⟨rfl, rfl⟩
            go_wp2_with fail
            refine (HF1.out _).mono ?_
            rintro e w' ⟨rfl, rfl⟩
            go_wp2_with fail
            refine (HF2.out _).mono ?_
            rintro e w' ⟨rfl, rfl⟩
            go_wp2_with fail
            refine (HF3.out _).mono ?_
            rintro e w' ⟨rfl, rfl⟩
            go_wp2_with fail
            refine (HF4.out _).mono ?_
            rintro e w' ⟨rfl, rfl⟩
            go_wp2_with fail
            go_ret
            exact ⟨rfl, by (repeat' (first | exact Below.refl _ _ | exact Below.refl _ _ | refine balloc ?_ _ | refine Below.drew ?_ | refine below_drewN ?_ _ | refine bset ?_ (by first | omega | (simp <;> omega)) _))⟩
          | true =>
            have HF4 := Lib.hid (fun W => show Calls Try.prog 18 #[.int .i64 E] W fun e w' => e = .returned (.bool true) ∧ W = w' by have := rfix_any E W; rw [h4] at this; exact this)
            cases h5 : fixB F with
            | false =>
              have HF5 := Lib.hid (fun W => show Calls Try.prog 18 #[.int .i64 F] W fun e w' => e = .returned (.bool false) ∧ W = w' by have := rfix_any F W; rw [h5] at this; exact this)
              have hb : mayB A B C D E F = false := by unfold mayB; simp [h5]
              rw [hb]
              clear hb h0 h1 h2 h3 h4 h5
              go_enter Try.func38, Try.ntmps38
              go_wp2_with fail
              refine (HF0.out _).mono ?_
              rintro e w' ⟨rfl, rfl⟩
              go_wp2_with fail
              refine (HF1.out _).mono ?_
              rintro e w' ⟨rfl, rfl⟩
              go_wp2_with fail
              refine (HF2.out _).mono ?_
              rintro e w' ⟨rfl, rfl⟩
              go_wp2_with fail
              refine (HF3.out _).mono ?_
              rintro e w' ⟨rfl, rfl⟩
              go_wp2_with fail
              refine (HF4.out _).mono ?_
              rintro e w' ⟨rfl, rfl⟩
              go_wp2_with fail
              refine (HF5.out _).mono ?_
              rintro e w' ⟨rfl, rfl⟩
              go_wp2_with fail
              go_ret
              exact ⟨rfl, by (repeat' (first | exact Below.refl _ _ | exact Below.refl _ _ | refine balloc ?_ _ | refine Below.drew ?_ | refine below_drewN ?_ _ | refine bset ?_ (by first | omega | (simp <;> omega)) _))⟩
            | true =>
              have HF5 := Lib.hid (fun W => show Calls Try.prog 18 #[.int .i64 F] W fun e w' => e = .returned (.bool true) ∧ W = w' by have := rfix_any F W; rw [h5] at this; exact this)
              have hb : mayB A B C D E F = true := by unfold mayB; simp [h0, h1, h2, h3, h4, h5]
              rw [hb]
              clear hb h0 h1 h2 h3 h4 h5
              go_enter Try.func38, Try.ntmps38
              go_wp2_with fail
              refine (HF0.out _).mono ?_
              rintro e w' ⟨rfl, rfl⟩
              go_wp2_with fail
              refine (HF1.out _).mono ?_
              rintro e w' ⟨rfl, rfl⟩
              go_wp2_with fail
              refine (HF2.out _).mono ?_
              rintro e w' ⟨rfl, rfl⟩
              go_wp2_with fail
              refine (HF3.out _).mono ?_
              rintro e w' ⟨rfl, rfl⟩
              go_wp2_with fail
              refine (HF4.out _).mono ?_
              rintro e w' ⟨rfl, rfl⟩
              go_wp2_with fail
              refine (HF5.out _).mono ?_
              rintro e w' ⟨rfl, rfl⟩
              go_wp2_with fail
              go_ret
              exact ⟨rfl, by (repeat' (first | exact Below.refl _ _ | exact Below.refl _ _ | refine balloc ?_ _ | refine Below.drew ?_ | refine below_drewN ?_ _ | refine bset ?_ (by first | omega | (simp <;> omega)) _))⟩

end Go.Proofs.Ytaephahcohdbpaa.mt
