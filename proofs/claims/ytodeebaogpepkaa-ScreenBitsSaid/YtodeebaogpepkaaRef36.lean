/-
  The reference for a screen (tympanref36): the contracts of Level, Tone, GreyOf.
-/
import Derived.Test.YtodeebaogpepkaaLevel
namespace Go.Proofs.Ytodeebaogpepkaa.sc
set_option linter.unusedVariables false
set_option linter.unusedSimpArgs false
open Go.RowKit bs

def rp1 (i j : Int) : Int := 2 * ((i + j) % 2) + j % 2
def rp2 (i j : Int) : Int := 4 * rp1 i j + 2 * ((i / 2 + j / 2) % 2) + j / 2 % 2
def rpart (i j : Int) : Nat → Int
  | 0 => 0
  | 1 => rp1 i j
  | 2 => rp2 i j
  | _ => level i j

set_option maxHeartbeats 1000000 in
theorem rlevel_any (i j : Int) (w : World) :
    Calls Try.prog 18 #[.int .i64 i, .int .i64 j] w fun e w' => e = .returned (.int .i64 (level i j)) ∧ w = w' := by
  obtain ⟨x0, x1, x2, y0, y1, y2, hx0, hx1, hx2, hy0, hy1, hy2, bx0, bx1, bx2, by0, by1, by2, he⟩ := bit_names i j
  have HE := Lib.hid he
  clear he
  go_enter Try.func18, Try.ntmps18
  go_wp2
  go_loop [5, 6] (fun n c => ∃ k : Nat, k ≤ 3 ∧ c = .int .i64 k ∧ ∃ v : Int, 0 ≤ v ∧ v ≤ 100 ∧ n = .int .i64 v ∧ Hid (v = rpart i j k)) (fun _ c => 3 - (intOf c).toNat)
  case atStart => exact ⟨0, by omega, rfl, 0, by omega, by omega, rfl, rfl⟩
  case round =>
    obtain ⟨k, hk, rfl, v, hv0, hv1, rfl, hv⟩ := hrel
    rcases (show k = 0 ∨ k = 1 ∨ k = 2 ∨ k = 3 by omega) with h | h | h | h <;> subst h
    · obtain rfl : v = 0 := hv.out
      go_wp2
      go_round
      case rel => exact ⟨1, by omega, rfl, _, by omega, by omega, rfl, (by show _ = rp1 i j; unfold rp1; have := HE.out; omega : _ = _)⟩
      case measure => simp [intOf]
    · have hv2 : v ≤ 3 := by have h1 : v = rp1 i j := hv.out; unfold rp1 at h1; omega
      go_wp2
      go_round
      case rel => exact ⟨2, by omega, rfl, _, by omega, by omega, rfl, (by show _ = rp2 i j; have h1 : v = rp1 i j := hv.out; unfold rp2; rw [← h1]; have := HE.out; omega : _ = _)⟩
      case measure => simp [intOf]
    · have hv2 : v ≤ 15 := by have h1 : v = rp2 i j := hv.out; unfold rp2 rp1 at h1; omega
      go_wp2
      go_round
      case rel => exact ⟨3, by omega, rfl, _, by omega, by omega, rfl, (by show _ = level i j; have h1 : v = rp2 i j := hv.out; unfold rp2 rp1 at h1; unfold level; have := HE.out; omega : _ = _)⟩
      case measure => simp [intOf]
    · go_wp2
      go_ret
      exact ⟨ret_int hv.out, rfl⟩

theorem rtone_any (g i j : Int) (w : World) (h0 : -9223372036854775808 ≤ g) (h1 : g ≤ 9223372036854775807) :
    Calls Try.prog 19 #[.int .i64 g, .int .i64 i, .int .i64 j] w fun e w' => e = .returned (.bool (tone g i j)) ∧ w = w' := by
  have hb := level_bd i j
  obtain ⟨b0, b1⟩ := hb
  go_enter Try.func19, Try.ntmps19
  go_wp2_with fail
  refine (rlevel_any _ _ _).mono ?_
  rintro e w' ⟨rfl, rfl⟩
  generalize hl : level i j = l at *
  have HL := Lib.hid hl
  clear hl
  go_wp2_with fail
  go_ret
  exact ⟨ret_bool (by unfold tone; rw [HL.out]), rfl⟩

theorem rgrey_any (r g b a : Int) (w : World) (hr : 0 ≤ r ∧ r ≤ 255) (hg : 0 ≤ g ∧ g ≤ 255) (hb : 0 ≤ b ∧ b ≤ 255) :
    Calls Try.prog 20 #[.agg #[.int .u8 r, .int .u8 g, .int .u8 b, .int .u8 a]] w fun e w' => e = .returned (.int .i64 (grey r g b)) ∧ Below w.heap.size w w' := by
  obtain ⟨r0, r1⟩ := hr
  obtain ⟨g0, g1⟩ := hg
  obtain ⟨b0, b1⟩ := hb
  go_enter Try.func20, Try.ntmps20
  go_wp2_with fail
  go_ret
  exact ⟨ret_int rfl, (Below.refl _ _).alloc (Nat.le_refl _) _⟩
end Go.Proofs.Ytodeebaogpepkaa.sc
