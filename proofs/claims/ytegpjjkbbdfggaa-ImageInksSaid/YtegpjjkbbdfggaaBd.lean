/-
  Layer 37: a sample's bounds, its grey.
-/
import Derived.Test.YtegpjjkbbdfggaaAt2
namespace Go.Proofs.Ytegpjjkbbdfggaa.im
set_option linter.unusedVariables false
set_option linter.unusedSimpArgs false
open Go.RowKit bs mt

theorem wraps_i64 (n : Int) (h0 : 0 ≤ n) (h1 : n < 2 ^ 63) : IntKind.i64.wrap n = n := by rw [IntKind.wrap_i64]; omega
theorem mask_bits (x : Int) (m : Nat) (hm : m ≤ 8) (h0 : 0 ≤ x) (h1 : x < 2 ^ 63) : bits .and .i64 x (2 ^ m - 1) = x % 2 ^ m := by
  have := bits_mask .i64 63 (by decide) wraps_i64 m (by omega) x h0 h1
  simpa using this
theorem bitsV_bd {b k B : Int} (hb : 0 ≤ b ∧ b ≤ 255) (hB : B = 1 ∨ B = 2 ∨ B = 4 ∨ B = 8) : 0 ≤ bitsV b k B ∧ bitsV b k B < 2 ^ B.toNat := by
  have hq : 0 ≤ b / 2 ^ k.toNat ∧ b / 2 ^ k.toNat ≤ 255 := by
    have hp : (0 : Int) < 2 ^ k.toNat := Int.pow_pos (by decide)
    refine ⟨Int.ediv_nonneg hb.1 (Int.le_of_lt hp), ?_⟩
    exact Int.le_trans (Int.ediv_le_self _ hb.1) hb.2
  unfold bitsV
  generalize b / 2 ^ k.toNat = q at *
  rcases hB with rfl | rfl | rfl | rfl
  · have := mask_bits q 1 (by decide) hq.1 (by omega)
    rw [show wrap64 (wrap64 (2 ^ (1 : Int).toNat) - 1) = 2 ^ 1 - 1 by kernel_rfl, this]
    simp; omega
  · have := mask_bits q 2 (by decide) hq.1 (by omega)
    rw [show wrap64 (wrap64 (2 ^ (2 : Int).toNat) - 1) = 2 ^ 2 - 1 by kernel_rfl, this]
    simp; omega
  · have := mask_bits q 4 (by decide) hq.1 (by omega)
    rw [show wrap64 (wrap64 (2 ^ (4 : Int).toNat) - 1) = 2 ^ 4 - 1 by kernel_rfl, this]
    simp; omega
  · have := mask_bits q 8 (by decide) hq.1 (by omega)
    rw [show wrap64 (wrap64 (2 ^ (8 : Int).toNat) - 1) = 2 ^ 8 - 1 by kernel_rfl, this]
    simp; omega
theorem sampV_ge {W H B n : Int} {s : ByteArray} {x y : Int} (hm : mayI W H B n = true) (hn : n = s.size) : -1 ≤ sampV W H B s x y := by
  unfold sampV
  cases hb : inB W H x y with
  | false => simp
  | true =>
    rw [if_pos rfl]
    obtain ⟨hx, hy⟩ := inB_true hb
    obtain ⟨_, p2, p3, _, _, _, _, p8⟩ := place_in hm hx hy
    subst hn
    have := (bitsV_bd (k := 8 - B - x * B % 8) (byte_in s (y * rowI W B + x * B / 8) (by omega) p8).1 (mayI_bd hm).1).1
    omega
theorem sampV_le {W H B n : Int} {s : ByteArray} {x y : Int} (hm : mayI W H B n = true) (hn : n = s.size) : sampV W H B s x y ≤ 2 ^ B.toNat - 1 := by
  unfold sampV
  cases hb : inB W H x y with
  | false =>
    rcases (mayI_bd hm).1 with rfl | rfl | rfl | rfl <;> simp
  | true =>
    rw [if_pos rfl]
    obtain ⟨hx, hy⟩ := inB_true hb
    obtain ⟨_, p2, p3, _, _, _, _, p8⟩ := place_in hm hx hy
    subst hn
    have := (bitsV_bd (k := 8 - B - x * B % 8) (byte_in s (y * rowI W B + x * B / 8) (by omega) p8).1 (mayI_bd hm).1).2
    omega
theorem pow_bd {B : Int} (hB : B = 1 ∨ B = 2 ∨ B = 4 ∨ B = 8) : 2 ≤ (2 : Int) ^ B.toNat ∧ (2 : Int) ^ B.toNat ≤ 256 := by
  rcases hB with rfl | rfl | rfl | rfl <;> simp
theorem atV_bd (W H B a b c d e f x y : Int) (s : ByteArray) (hm : mayI W H B s.size = true) : -1 ≤ atV W H B s a b c d e f x y ∧ atV W H B s a b c d e f x y ≤ 2 ^ B.toNat - 1 := by
  have hp := pow_bd (mayI_bd hm).1
  unfold atV
  split
  · omega
  · exact ⟨sampV_ge hm rfl, sampV_le hm rfl⟩
/-- a sample's grey -/
def greyV (B v : Int) : Int := v * 255 / (2 ^ B.toNat - 1)
theorem greyV_bd {B v : Int} (hB : B = 1 ∨ B = 2 ∨ B = 4 ∨ B = 8) (h0 : 0 ≤ v) (h1 : v ≤ 2 ^ B.toNat - 1) : 0 ≤ greyV B v ∧ greyV B v ≤ 255 := by
  unfold greyV
  rcases hB with rfl | rfl | rfl | rfl <;> simp at * <;> omega
end Go.Proofs.Ytegpjjkbbdfggaa.im
