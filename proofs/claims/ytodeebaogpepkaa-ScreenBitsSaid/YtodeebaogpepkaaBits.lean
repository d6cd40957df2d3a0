/-
  Plain lemmas: the low bits of 64-bit numbers, as div and mod.
-/
import Derived.Laws.BitsAllLaws
import Derived.Laws.BitsLemmas
import Derived.WalkKit
namespace Go.Proofs.Ytodeebaogpepkaa.nb
set_option linter.unusedVariables false
set_option linter.unusedSimpArgs false

theorem wrap_mod (n : Int) : (IntKind.i64.wrap n) % 18446744073709551616 = n % 18446744073709551616 := by
  rw [IntKind.wrap_i64]; omega

theorem bits_and_one (x : Int) : bits .and .i64 x 1 = x % 2 := by
  show IntKind.i64.wrap ((BitVec.ofInt 64 x &&& BitVec.ofInt 64 1).toNat : Int) = _
  have h1 : (BitVec.ofInt 64 1).toNat = 1 := by decide
  rw [BitVec.toNat_and, h1, Nat.and_one_is_mod, BitVec.toNat_ofInt, IntKind.wrap_i64]
  omega

theorem xor_bit (a b k : Nat) : (a ^^^ b) / 2 ^ k % 2 = (a / 2 ^ k + b / 2 ^ k) % 2 := by
  have h := Nat.testBit_xor a b k
  simp only [Nat.testBit_eq_decide_div_mod_eq] at h
  rcases Nat.mod_two_eq_zero_or_one (a / 2 ^ k) with ha | ha <;> rcases Nat.mod_two_eq_zero_or_one (b / 2 ^ k) with hb | hb <;>
    rcases Nat.mod_two_eq_zero_or_one ((a ^^^ b) / 2 ^ k) with hc | hc <;> simp [ha, hb, hc] at h <;> omega

theorem xor_eq (i j : Int) : ∃ a b : Nat, (a : Int) = i % 18446744073709551616 ∧ (b : Int) = j % 18446744073709551616 ∧
    (bits .xor .i64 i j) % 18446744073709551616 = ((a ^^^ b : Nat) : Int) := by
  refine ⟨(BitVec.ofInt 64 i).toNat, (BitVec.ofInt 64 j).toNat, by rw [BitVec.toNat_ofInt]; omega, by rw [BitVec.toNat_ofInt]; omega, ?_⟩
  show (IntKind.i64.wrap ((BitVec.ofInt 64 i ^^^ BitVec.ofInt 64 j).toNat : Int)) % _ = _
  rw [wrap_mod, BitVec.toNat_xor]
  have : (BitVec.ofInt 64 i).toNat ^^^ (BitVec.ofInt 64 j).toNat < 2 ^ 64 := Nat.xor_lt_two_pow (BitVec.isLt _) (BitVec.isLt _)
  omega

theorem xor_and0 (i j : Int) : bits .and .i64 (bits .xor .i64 i j) 1 = (i + j) % 2 := by
  obtain ⟨a, b, ha, hb, hx⟩ := xor_eq i j
  rw [bits_and_one]
  have := xor_bit a b 0
  simp only [Nat.pow_zero, Nat.div_one] at this
  omega
theorem xor_and1 (i j : Int) : bits .and .i64 (bits .xor .i64 i j / 2) 1 = (i / 2 + j / 2) % 2 := by
  obtain ⟨a, b, ha, hb, hx⟩ := xor_eq i j
  rw [bits_and_one]
  have := xor_bit a b 1
  simp only [Nat.pow_one] at this
  omega
theorem xor_and2 (i j : Int) : bits .and .i64 (bits .xor .i64 i j / 4) 1 = (i / 4 + j / 4) % 2 := by
  obtain ⟨a, b, ha, hb, hx⟩ := xor_eq i j
  rw [bits_and_one]
  have := xor_bit a b 2
  simp only [show (2 : Nat) ^ 2 = 4 from rfl] at this
  omega

end Go.Proofs.Ytodeebaogpepkaa.nb
