/-
  Layer 24's arithmetic: the size of a number, the product of two words.
-/
import Derived.Test.YtegpjjkbbdfggaaBase
import Derived.Laws.BitsLemmas
import Derived.Laws.Bits64
import Derived.BigQuiet
namespace Go.Proofs.Ytegpjjkbbdfggaa.mt
set_option linter.unusedVariables false
set_option linter.unusedSimpArgs false
open Go.RowKit bs

theorem wraps_u64 (n : Int) (h0 : 0 ≤ n) (h1 : n < 2 ^ 64) : IntKind.u64.wrap n = n := by rw [IntKind.wrap_u64]; omega
theorem and32 (x : Int) (h0 : 0 ≤ x) (h1 : x < 18446744073709551616) : bits .and .u64 x 4294967295 = x % 4294967296 := bits_mask .u64 64 (by decide) wraps_u64 32 (by decide) x h0 h1
theorem or32 (x y : Int) (h0 : 0 ≤ x) (hx : x % 4294967296 = 0) (h1 : x < 18446744073709551616) (y0 : 0 ≤ y) (y1 : y < 4294967296) : bits .or .u64 x y = x + y :=
  bits_join .u64 64 (by decide) wraps_u64 32 x y h0 hx h1 y0 y1 (by omega)

/-- the four small products of two words, and what is made of them -/
theorem mul_parts (a b : Int) (ha : 0 ≤ a ∧ a < 18446744073709551616) (hb : 0 ≤ b ∧ b < 18446744073709551616) : ∃ p0 p1 p2 p3 : Int, a % 4294967296 * (b % 4294967296) = p0 ∧ a / 4294967296 * (b % 4294967296) = p1 ∧
    a % 4294967296 * (b / 4294967296) = p2 ∧ a / 4294967296 * (b / 4294967296) = p3 ∧ (0 ≤ p0 ∧ p0 ≤ 18446744065119617025) ∧ (0 ≤ p1 ∧ p1 ≤ 18446744065119617025) ∧ (0 ≤ p2 ∧ p2 ≤ 18446744065119617025) ∧ (0 ≤ p3 ∧ p3 ≤ 18446744065119617025) ∧
    a * b = p3 * 18446744073709551616 + (p1 + p2) * 4294967296 + p0 := by
  have key : ∀ x y : Int, 0 ≤ x → x ≤ 4294967295 → 0 ≤ y → y ≤ 4294967295 → 0 ≤ x * y ∧ x * y ≤ 18446744065119617025 := fun x y x0 x1 y0 y1 =>
    ⟨Int.mul_nonneg x0 y0, by have := Int.mul_le_mul x1 y1 y0 (by omega); omega⟩
  refine ⟨_, _, _, _, rfl, rfl, rfl, rfl, key _ _ (by omega) (by omega) (by omega) (by omega), key _ _ (by omega) (by omega) (by omega) (by omega), key _ _ (by omega) (by omega) (by omega) (by omega), key _ _ (by omega) (by omega) (by omega) (by omega), ?_⟩
  obtain ⟨x, hx⟩ : ∃ x, a / 4294967296 = x := ⟨_, rfl⟩
  obtain ⟨y, hy⟩ : ∃ y, a % 4294967296 = y := ⟨_, rfl⟩
  obtain ⟨z, hz⟩ : ∃ z, b / 4294967296 = z := ⟨_, rfl⟩
  obtain ⟨t, ht⟩ : ∃ t, b % 4294967296 = t := ⟨_, rfl⟩
  have ea : a = x * 4294967296 + y := by omega
  have eb : b = z * 4294967296 + t := by omega
  rw [hx, hy, hz, ht, ea, eb]
  simp only [Int.add_mul, Int.mul_add]
  have e1 : x * 4294967296 * (z * 4294967296) = x * z * 18446744073709551616 := by rw [Int.mul_assoc, Int.mul_left_comm 4294967296 z, ← Int.mul_assoc, ← Int.mul_assoc]; omega
  have e2 : x * 4294967296 * t = x * t * 4294967296 := by rw [Int.mul_assoc, Int.mul_comm 4294967296 t, ← Int.mul_assoc]
  have e3 : y * (z * 4294967296) = y * z * 4294967296 := by rw [← Int.mul_assoc]
  rw [e1, e2, e3]
  omega

/-- how far a number lies from 0 -/
def size (v : Int) : Int := if v < 0 then -v else v
theorem size_bd (v : Int) (h0 : -9223372036854775808 ≤ v) (h1 : v ≤ 9223372036854775807) : 0 ≤ size v ∧ size v ≤ 9223372036854775808 := by unfold size; split <;> omega

theorem size_any (v : Int) (w : World) (h0 : -9223372036854775808 ≤ v) (h1 : v ≤ 9223372036854775807) :
    Calls Try.prog 125 #[.int .i64 v] w fun e w' => e = .returned (.int .u64 (size v)) ∧ w = w' := by
  by_cases h : v < 0
  · have he : size v = -v := by unfold size; rw [if_pos h]
    rw [he]
    clear he
    go_enter Try.func125, Try.ntmps125
    go_wp2_with fail
    go_ret
    exact ⟨ret_int (by omega), rfl⟩
  · have he : size v = v := by unfold size; rw [if_neg h]
    rw [he]
    clear he
    go_enter Try.func125, Try.ntmps125
    go_wp2_with fail
    go_ret
    exact ⟨ret_int (by omega), rfl⟩
set_option maxHeartbeats 1600000 in
theorem product_any (a b : Int) (w : World) (ha : 0 ≤ a ∧ a < 18446744073709551616) (hb : 0 ≤ b ∧ b < 18446744073709551616) :
    Calls Try.prog 124 #[.int .u64 a, .int .u64 b] w fun e w' => e = .returned (.tuple #[.int .u64 (a * b / 18446744073709551616), .int .u64 (a * b % 18446744073709551616)]) ∧ Below w.heap.size w w' := by
  obtain ⟨p0, p1, p2, p3, e0, e1, e2, e3, ⟨b00, b01⟩, ⟨b10, b11⟩, ⟨b20, b21⟩, ⟨b30, b31⟩, hm⟩ := mul_parts a b ha hb
  have HM := Lib.hid hm
  clear hm
  obtain ⟨a0, a1⟩ := ha
  obtain ⟨c0, c1⟩ := hb
  have m0 := and32 a a0 a1
  have m1 := and32 b c0 c1
  have m2 := and32 p0 b00 (by omega)
  have m3 := and32 p1 b10 (by omega)
  have m4 := and32 p2 b20 (by omega)
  obtain ⟨M, hM⟩ : ∃ M, p0 / 4294967296 + p1 % 4294967296 + p2 % 4294967296 = M := ⟨_, rfl⟩
  have M0 : 0 ≤ M := by omega
  have M1 : M ≤ 12884901885 := by omega
  have m5 := or32 (M % 4294967296 * 4294967296) (p0 % 4294967296) (by omega) (by omega) (by omega) (by omega) (by omega)
  go_enter Try.func124, Try.ntmps124
  go_wp2_with fail
  have w1 : IntKind.u64.wrap (p3 + p1 / 4294967296) = p3 + p1 / 4294967296 := wraps_u64 _ (by omega) (by omega)
  have w2 : IntKind.u64.wrap (p3 + p1 / 4294967296 + p2 / 4294967296) = p3 + p1 / 4294967296 + p2 / 4294967296 := wraps_u64 _ (by omega) (by omega)
  have hz : p3 + p1 / 4294967296 + p2 / 4294967296 + M / 4294967296 = a * b / 18446744073709551616 ∧ M % 4294967296 * 4294967296 + p0 % 4294967296 = a * b % 18446744073709551616 := by have := HM.out; omega
  have w3 : IntKind.u64.wrap (p3 + p1 / 4294967296 + p2 / 4294967296 + M / 4294967296) = p3 + p1 / 4294967296 + p2 / 4294967296 + M / 4294967296 := wraps_u64 _ (by omega) (by
    have hx : p3 ≤ 18446744065119617025 := b31
    omega)
  have w4 : IntKind.u64.wrap (M * 4294967296) = M % 4294967296 * 4294967296 := by rw [IntKind.wrap_u64]; omega
  have HZ := Lib.hid hz
  clear hz
  go_quiet (fail)
  go_wp2_with fail
  go_ret2
  exact ⟨by rw [HZ.out.1, HZ.out.2]; rfl, by (repeat' (first | exact Below.refl _ _ | exact Below.refl _ _ | refine balloc ?_ _ | refine Below.drew ?_ | refine below_drewN ?_ _ | refine bset ?_ (by first | omega | (simp <;> omega)) _))⟩
end Go.Proofs.Ytegpjjkbbdfggaa.mt
