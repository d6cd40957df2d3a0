/-
  Layer 36: the contracts of Blend, side, May, New and At. (PRUNE)
-/
import Derived.Test.YtegpjjkbbdfggaaBase
import Derived.BigRegion
namespace Go.Proofs.Ytegpjjkbbdfggaa.ik
set_option linter.unusedVariables false
set_option linter.unusedSimpArgs false
open Go.RowKit bs

def blend (u o a : Int) : Int := (2 * (u * (255 - a) + o * a) + 255) / 510

theorem prod_bd (u a : Int) (h0 : 0 ≤ u) (h1 : u ≤ 255) (k0 : 0 ≤ a) (k1 : a ≤ 255) : 0 ≤ u * a ∧ u * a ≤ 255 * a := by
  exact ⟨Int.mul_nonneg h0 k0, Int.mul_le_mul_of_nonneg_right h1 k0⟩

/-- the two products, named, with their bounds -/
theorem blend_names (u o a : Int) (hu : 0 ≤ u ∧ u ≤ 255) (ho : 0 ≤ o ∧ o ≤ 255) (ha : 0 ≤ a ∧ a ≤ 255) :
    ∃ p q : Int, u * (255 - a) = p ∧ o * a = q ∧ 0 ≤ p ∧ 0 ≤ q ∧ p ≤ 65025 ∧ q ≤ 65025 ∧ p + q ≤ 65025 ∧ blend u o a = (2 * (p + q) + 255) / 510 := by
  have h1 := prod_bd u (255 - a) hu.1 hu.2 (by omega) (by omega)
  have h2 := prod_bd o a ho.1 ho.2 ha.1 ha.2
  exact ⟨_, _, rfl, rfl, by omega, by omega, by omega, by omega, by omega, rfl⟩

theorem blend_bd (u o a : Int) (hu : 0 ≤ u ∧ u ≤ 255) (ho : 0 ≤ o ∧ o ≤ 255) (ha : 0 ≤ a ∧ a ≤ 255) : 0 ≤ blend u o a ∧ blend u o a ≤ 255 := by
  obtain ⟨p, q, _, _, _, _, _, _, _, h⟩ := blend_names u o a hu ho ha
  omega

theorem blend_any (u o a : Int) (w : World) (hu : 0 ≤ u ∧ u ≤ 255) (ho : 0 ≤ o ∧ o ≤ 255) (ha : 0 ≤ a ∧ a ≤ 255) :
    Calls Try.prog 101 #[.int .u8 u, .int .u8 o, .int .u8 a] w fun e w' => e = .returned (.int .u8 (blend u o a)) ∧ w = w' := by
  obtain ⟨p, q, hp, hq, p0, q0, p1, q1, pq, hb⟩ := blend_names u o a hu ho ha
  rw [hb]
  clear hb
  obtain ⟨u0, u1⟩ := hu
  obtain ⟨o0, o1⟩ := ho
  obtain ⟨a0, a1⟩ := ha
  go_enter Try.func101, Try.ntmps101
  go_wp2_with fail
  go_ret
  exact ⟨ret_int rfl, rfl⟩

/-! ### InkBlends, plain -/
theorem blend_all (u o : Int) (hu : 0 ≤ u ∧ u ≤ 255) (ho : 0 ≤ o ∧ o ≤ 255) : blend u o 255 = o := by unfold blend; omega
theorem blend_none (u o : Int) (hu : 0 ≤ u ∧ u ≤ 255) (ho : 0 ≤ o ∧ o ≤ 255) : blend u o 0 = u := by unfold blend; omega
theorem blend_same (u a : Int) (hu : 0 ≤ u ∧ u ≤ 255) : blend u u a = u := by
  have h : u * (255 - a) + u * a = 255 * u := by rw [← Int.mul_add, show (255 - a) + a = (255 : Int) by omega, Int.mul_comm]
  unfold blend; rw [h]; omega
theorem blend_swap (u o a : Int) : blend o u (255 - a) = blend u o a := by
  unfold blend
  have h : o * (255 - (255 - a)) + u * (255 - a) = u * (255 - a) + o * a := by rw [show (255 - (255 - a)) = a by omega, Int.add_comm]
  rw [h]
theorem blend_between (u o a lo hi : Int) (ha : 0 ≤ a ∧ a ≤ 255) (h1 : lo ≤ u) (h2 : lo ≤ o) (h3 : u ≤ hi) (h4 : o ≤ hi) : lo ≤ blend u o a ∧ blend u o a ≤ hi := by
  have a1 := Int.mul_le_mul_of_nonneg_right h1 (show 0 ≤ 255 - a by omega)
  have a2 := Int.mul_le_mul_of_nonneg_right h2 ha.1
  have b1 := Int.mul_le_mul_of_nonneg_right h3 (show 0 ≤ 255 - a by omega)
  have b2 := Int.mul_le_mul_of_nonneg_right h4 ha.1
  have c1 : lo * (255 - a) + lo * a = 255 * lo := by rw [← Int.mul_add, show (255 - a) + a = (255 : Int) by omega, Int.mul_comm]
  have c2 : hi * (255 - a) + hi * a = 255 * hi := by rw [← Int.mul_add, show (255 - a) + a = (255 : Int) by omega, Int.mul_comm]
  unfold blend
  generalize u * (255 - a) = p at *
  generalize o * a = q at *
  omega

def sideB (n : Int) : Bool := decide (1 ≤ n ∧ n ≤ 64)
theorem side_any (n : Int) (w : World) :
    Calls Try.prog 73 #[.int .i64 n] w fun e w' => e = .returned (.bool (sideB n)) ∧ w = w' := by
  by_cases h1 : 1 ≤ n
  · go_enter Try.func73, Try.ntmps73
    go_wp2_with fail
    go_ret
    exact ⟨ret_bool (by unfold sideB; simp; omega), rfl⟩
  · go_enter Try.func73, Try.ntmps73
    go_wp2_with fail
    go_ret
    exact ⟨ret_bool (by unfold sideB; simp; omega), rfl⟩
end Go.Proofs.Ytegpjjkbbdfggaa.ik
