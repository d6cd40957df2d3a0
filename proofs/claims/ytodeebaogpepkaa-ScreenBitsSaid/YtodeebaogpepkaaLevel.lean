/-
  Layer 38: the contracts of Level, Tone, Grey.
-/
import Derived.Test.YtodeebaogpepkaaBase
import Derived.Test.YtodeebaogpepkaaBits
namespace Go.Proofs.Ytodeebaogpepkaa.sc
set_option linter.unusedVariables false
set_option linter.unusedSimpArgs false
open Go.RowKit bs

/-- the level of a place -/
def level (i j : Int) : Int :=
  16 * (2 * ((i + j) % 2) + j % 2) + (4 * (2 * ((i / 2 + j / 2) % 2) + (j / 2) % 2) + (2 * ((i / 4 + j / 4) % 2) + (j / 4) % 2))

theorem level_bd (i j : Int) : 0 ≤ level i j ∧ level i j ≤ 63 := by unfold level; omega

def part0 (i j : Int) : Int := 16 * (2 * ((i + j) % 2) + j % 2)
def part1 (i j : Int) : Int := part0 i j + 4 * (2 * ((i / 2 + j / 2) % 2) + (j / 2) % 2)
def part (i j : Int) : Nat → Int
  | 0 => 0
  | 1 => part0 i j
  | 2 => part1 i j
  | _ => level i j

theorem idx0 (w : World) : (Instr.index 69 (.agg #[.int .i64 16, .int .i64 4, .int .i64 1]) (.int .i64 0)).run Try.prog w = .ok (.int .i64 16) w := by kernel_rfl
theorem idx1 (w : World) : (Instr.index 69 (.agg #[.int .i64 16, .int .i64 4, .int .i64 1]) (.int .i64 1)).run Try.prog w = .ok (.int .i64 4) w := by kernel_rfl
theorem idx2 (w : World) : (Instr.index 69 (.agg #[.int .i64 16, .int .i64 4, .int .i64 1]) (.int .i64 2)).run Try.prog w = .ok (.int .i64 1) w := by kernel_rfl

/-- the six bits, named -/
theorem bit_names (i j : Int) : ∃ x0 x1 x2 y0 y1 y2 : Int, bits .and .i64 (bits .xor .i64 i j) 1 = x0 ∧ bits .and .i64 (bits .xor .i64 i j / 2) 1 = x1 ∧ bits .and .i64 (bits .xor .i64 i j / 4) 1 = x2 ∧
    bits .and .i64 j 1 = y0 ∧ bits .and .i64 (j / 2) 1 = y1 ∧ bits .and .i64 (j / 4) 1 = y2 ∧ (0 ≤ x0 ∧ x0 ≤ 1) ∧ (0 ≤ x1 ∧ x1 ≤ 1) ∧ (0 ≤ x2 ∧ x2 ≤ 1) ∧ (0 ≤ y0 ∧ y0 ≤ 1) ∧ (0 ≤ y1 ∧ y1 ≤ 1) ∧ (0 ≤ y2 ∧ y2 ≤ 1) ∧
    (x0 = (i + j) % 2 ∧ x1 = (i / 2 + j / 2) % 2 ∧ x2 = (i / 4 + j / 4) % 2 ∧ y0 = j % 2 ∧ y1 = j / 2 % 2 ∧ y2 = j / 4 % 2) :=
  ⟨_, _, _, _, _, _, nb.xor_and0 i j, nb.xor_and1 i j, nb.xor_and2 i j, nb.bits_and_one j, nb.bits_and_one (j / 2), nb.bits_and_one (j / 4), by omega, by omega, by omega, by omega, by omega, by omega, rfl, rfl, rfl, rfl, rfl, rfl⟩

set_option maxHeartbeats 1000000 in
theorem level_any (i j : Int) (w : World) :
    Calls Try.prog 13 #[.int .i64 i, .int .i64 j] w fun e w' => e = .returned (.int .i64 (level i j)) ∧ ∃ n, w.drewN n = w' := by
  obtain ⟨x0, x1, x2, y0, y1, y2, hx0, hx1, hx2, hy0, hy1, hy2, bx0, bx1, bx2, by0, by1, by2, he⟩ := bit_names i j
  have HE := Lib.hid he
  clear he
  have i0 := idx0
  have i1 := idx1
  have i2 := idx2
  go_enter Try.func13, Try.ntmps13
  go_wp2
  go_loopw [5, 9] (fun n c wr => ∃ k : Nat, k ≤ 3 ∧ c = .int .i64 k ∧ ∃ v : Int, 0 ≤ v ∧ v ≤ 100 ∧ n = .int .i64 v ∧ Hid (v = part i j k) ∧ ∃ m, wr = w.drewN m) (fun _ c _ => 3 - (intOf c).toNat)
  case atStart => exact ⟨0, by omega, rfl, 0, by omega, by omega, rfl, rfl, 0, rfl⟩
  case round =>
    obtain ⟨k, hk, rfl, v, hv0, hv1, rfl, hv, m, rfl⟩ := hrel
    rcases (show k = 0 ∨ k = 1 ∨ k = 2 ∨ k = 3 by omega) with h | h | h | h <;> subst h
    · obtain rfl : v = 0 := hv.out
      go_wp2
      go_quiet (fail)
      go_wp2
      go_roundw
      case rel => exact ⟨1, by omega, rfl, _, by omega, by omega, rfl, (by show _ = part0 i j; unfold part0; have := HE.out; omega : _ = _), _, rfl⟩
      case measure => simp [intOf]
    · have hv2 : v ≤ 48 := by have h1 : v = part0 i j := hv.out; unfold part0 at h1; omega
      go_wp2
      go_quiet (fail)
      go_wp2
      go_roundw
      case rel => exact ⟨2, by omega, rfl, _, by omega, by omega, rfl, (by show _ = part1 i j; have h1 : v = part0 i j := hv.out; unfold part1; have := HE.out; omega : _ = _), _, rfl⟩
      case measure => simp [intOf]
    · have hv2 : v ≤ 60 := by have h1 : v = part1 i j := hv.out; unfold part1 part0 at h1; omega
      go_wp2
      go_quiet (fail)
      go_wp2
      go_roundw
      case rel => exact ⟨3, by omega, rfl, _, by omega, by omega, rfl, (by show _ = level i j; have h1 : v = part1 i j := hv.out; unfold part1 part0 at h1; unfold level; have := HE.out; omega : _ = _), _, rfl⟩
      case measure => simp [intOf]
    · go_wp2
      go_ret
      exact ⟨ret_int hv.out, _, rfl⟩

/-- is a grey dark there -/
def tone (g i j : Int) : Bool := decide (g < 4 * level i j + 2)

theorem tone_any (g i j : Int) (w : World) (h0 : 0 ≤ g) (h1 : g ≤ 255) :
    Calls Try.prog 14 #[.int .u8 g, .int .i64 i, .int .i64 j] w fun e w' => e = .returned (.bool (tone g i j)) ∧ ∃ n, w.drewN n = w' := by
  have hb := level_bd i j
  obtain ⟨b0, b1⟩ := hb
  go_enter Try.func14, Try.ntmps14
  go_wp2_with fail
  refine (level_any _ _ _).mono ?_
  rintro e w' ⟨rfl, n, rfl⟩
  generalize hl : level i j = l at *
  have HL := Lib.hid hl
  clear hl
  go_wp2_with fail
  go_ret
  exact ⟨ret_bool (by unfold tone; rw [HL.out]), n, rfl⟩

def grey (r g b : Int) : Int := (77 * r + 151 * g + 28 * b) / 256

theorem grey_bd (r g b : Int) (hr : 0 ≤ r ∧ r ≤ 255) (hg : 0 ≤ g ∧ g ≤ 255) (hb : 0 ≤ b ∧ b ≤ 255) : 0 ≤ grey r g b ∧ grey r g b ≤ 255 := by unfold grey; omega

theorem grey_any (r g b a : Int) (w : World) (hr : 0 ≤ r ∧ r ≤ 255) (hg : 0 ≤ g ∧ g ≤ 255) (hb : 0 ≤ b ∧ b ≤ 255) :
    Calls Try.prog 15 #[.agg #[.int .u8 r, .int .u8 g, .int .u8 b, .int .u8 a]] w fun e w' => e = .returned (.int .u8 (grey r g b)) ∧ Below w.heap.size w w' := by
  obtain ⟨r0, r1⟩ := hr
  obtain ⟨g0, g1⟩ := hg
  obtain ⟨b0, b1⟩ := hb
  go_enter Try.func15, Try.ntmps15
  go_wp2_with fail
  go_ret
  exact ⟨ret_int rfl, (Below.refl _ _).alloc (Nat.le_refl _) _⟩

theorem tmod_cases (v n : Int) (h0 : 0 < n) : ∃ q : Int, v.tmod n = q ∧ -n < q ∧ q < n ∧ (q < 0 → q + n = v % n) ∧ (0 ≤ q → q = v % n) := by
  refine ⟨_, rfl, ?_⟩
  rcases Int.lt_or_le v 0 with hv | hv
  · have e : v.tmod n = -((-v) % n) := by
      have := Int.neg_tmod (-v) n
      rw [Int.neg_neg] at this
      rw [this, Int.tmod_eq_emod_of_nonneg (by omega)]
    have b0 := Int.emod_nonneg (-v) (show n ≠ 0 by omega)
    have b1 := Int.emod_lt_of_pos (-v) h0
    have c0 := Int.emod_nonneg v (show n ≠ 0 by omega)
    have c1 := Int.emod_lt_of_pos v h0
    have d1 := Int.mul_ediv_add_emod (-v) n
    have d2 := Int.mul_ediv_add_emod v n
    rw [e]
    have key : (v % n = 0 ∧ (-v) % n = 0) ∨ v % n = n - (-v) % n := by
      have hs : n * ((-v) / n + v / n) = -((-v) % n + v % n) := by rw [Int.mul_add]; omega
      have hb : (-v) / n + v / n = 0 ∨ (-v) / n + v / n = -1 := by
        have h1 : n * ((-v) / n + v / n) ≤ 0 := by omega
        have h2 : -(2 * n) < n * ((-v) / n + v / n) := by omega
        have h3 : (-v) / n + v / n ≤ 0 := by
          rcases Int.lt_or_le 0 ((-v) / n + v / n) with h | h
          · have := Int.mul_pos h0 h; omega
          · exact h
        have h4 : -2 < (-v) / n + v / n := by
          rcases Int.lt_or_le (-2) ((-v) / n + v / n) with h | h
          · exact h
          · have := Int.mul_le_mul_of_nonneg_left h (show 0 ≤ n by omega); omega
        omega
      rcases hb with hb | hb <;> rw [hb] at hs <;> omega
    omega
  · rw [Int.tmod_eq_emod_of_nonneg hv]
    have b0 := Int.emod_nonneg v (show n ≠ 0 by omega)
    have b1 := Int.emod_lt_of_pos v h0
    omega

theorem place_any (v n : Int) (w : World) (h0 : 0 < n) (h1 : n ≤ 1152921504606846976) :
    Calls Try.prog 12 #[.int .i64 v, .int .i64 n] w fun e w' => e = .returned (.int .i64 (v % n)) ∧ w = w' := by
  have hne : (n == 0) = false := by simp; omega
  obtain ⟨q, hq, q0, q1, q2, q3⟩ := tmod_cases v n h0
  have Q2 := Lib.hid q2
  have Q3 := Lib.hid q3
  clear q2 q3
  go_enter Try.func12, Try.ntmps12
  go_wp2_with fail
  all_goals go_ret
  all_goals refine ⟨ret_int ?_, rfl⟩
  · exact Q2.out (by omega)
  · exact Q3.out (by omega)

theorem known_any (w : World) : Calls Try.prog 11 #[] w fun e w' => e = .returned (.bool true) ∧ Below w.heap.size w w' := by
  have k1 : level 0 0 = 0 := by decide
  have k2 : level 1 0 = 32 := by decide
  have k3 : level 0 1 = 48 := by decide
  have k4 : level 1 1 = 16 := by decide
  have k5 : tone 128 0 0 = false := by decide
  have k6 : tone 0 0 0 = true := by decide
  have k7 : grey 255 255 255 = 255 := by decide
  go_enter Try.func11, Try.ntmps11
  go_wp2_with (first
    | (go_at_call 13; refine (level_any _ _ _).mono ?_; rintro e w' ⟨rfl, n, rfl⟩)
    | (go_at_call 14; refine (tone_any _ _ _ _ (by omega) (by omega)).mono ?_; rintro e w' ⟨rfl, n, rfl⟩)
    | (go_at_call 15; refine (grey_any _ _ _ _ _ (by omega) (by omega) (by omega)).mono ?_; rintro e w' ⟨rfl, hb1⟩))
  go_ret
  exact ⟨rfl, below_of_drewN hb1⟩
end Go.Proofs.Ytodeebaogpepkaa.sc
