/-
  Layer 37: where Back says a point came from, and the sample that lies there: the plain law.
-/
import Derived.Test.YtegpjjkbbdfggaaBackI
import Derived.Test.YtegpjjkbbdfggaaMade2
namespace Go.Proofs.Ytegpjjkbbdfggaa.im
set_option linter.unusedVariables false
set_option linter.unusedSimpArgs false
open Go.RowKit bs mt

theorem rdiv_near (n D : Nat) (hD : 0 < D) : 2 * (rdiv n D * D) ≤ 2 * n + D ∧ 2 * n ≤ 2 * (rdiv n D * D) + D := by
  have h1 := Nat.div_add_mod n D
  have h2 := Nat.mod_lt n hD
  rw [Nat.mul_comm] at h1
  unfold rdiv
  split
  · rw [Nat.add_mul, Nat.one_mul]; omega
  · omega
/-- the numerator, over a positive divisor -/
def numI (N t : Int) : Int := if t < 0 then -N else N
theorem mulDiv_near {N t r : Int} (h0 : t ≠ 0) (h : mulDiv N 65536 t = some r) :
    2 * (r * size t) ≤ 2 * (numI N t * 65536) + size t ∧ 2 * (numI N t * 65536) ≤ 2 * (r * size t) + size t := by
  unfold mulDiv at h
  rw [if_neg h0] at h
  have hs : 0 < size t := by unfold size; split <;> omega
  have h65 : size 65536 = 65536 := rfl
  have hN : 0 ≤ size N := by unfold size; split <;> omega
  rw [h65] at h
  obtain ⟨D, hD⟩ := Int.eq_ofNat_of_zero_le (Int.le_of_lt hs)
  obtain ⟨n, hn⟩ := Int.eq_ofNat_of_zero_le (show 0 ≤ size N * 65536 by omega)
  rw [hD] at hs ⊢
  rw [hn, hD, Int.toNat_natCast, Int.toNat_natCast] at h
  obtain ⟨m1, m2⟩ := rdiv_near n D (by omega)
  generalize rdiv n D = m at *
  have c1 : ((m * D : Nat) : Int) = (m : Int) * (D : Int) := by push_cast; rfl
  have e : numI N t * 65536 = (if neg N 65536 t = true then -(n : Int) else (n : Int)) := by
    rw [← hn]
    unfold numI neg size
    by_cases a1 : N < 0 <;> by_cases a2 : t < 0 <;> simp [a1, a2] <;> omega
  unfold sgn at h
  rw [e]
  cases hg : neg N 65536 t
  · rw [hg] at h
    simp only [Bool.false_eq_true, if_false] at h ⊢
    split at h
    · cases h
      omega
    · cases h
  · rw [hg] at h
    simp only [if_true] at h ⊢
    split at h
    · cases h
      rw [Int.neg_mul]
      omega
    · cases h
theorem downI_num {N t : Int} (h0 : t ≠ 0) : downI N t = numI N t / size t := by
  unfold downI numI size
  split <;> rfl
theorem size_pos {t : Int} (h0 : t ≠ 0) : 0 < size t := by unfold size; split <;> omega
/-- a fix that is not beside a whole number lies in the square of its sample -/
theorem down_of {N t r : Int} (h0 : t ≠ 0) (h : mulDiv N 65536 t = some r) : ∃ x : Int, r = downI N t * 65536 + x ∧ 0 ≤ x ∧ x ≤ 65536 := by
  obtain ⟨h1, h2⟩ := mulDiv_near h0 h
  have hs := size_pos h0
  rw [downI_num h0]
  generalize numI N t = n at *
  generalize size t = T at *
  have e := Int.mul_ediv_add_emod n T
  have g0 := Int.emod_nonneg n (show T ≠ 0 by omega)
  have g1 := Int.emod_lt_of_pos n hs
  generalize n / T = F at *
  generalize n % T = g at *
  refine ⟨r - F * 65536, by omega, ?_, ?_⟩
  · rcases Int.lt_or_le (r - F * 65536) 0 with hx | hx
    · exfalso
      have := Int.mul_le_mul_of_nonneg_right (show r - F * 65536 ≤ -1 by omega) (Int.le_of_lt hs)
      rw [Int.sub_mul, show F * 65536 * T = T * F * 65536 by rw [Int.mul_comm T F, Int.mul_assoc, Int.mul_comm 65536 T, ← Int.mul_assoc]] at this
      omega
    · exact hx
  · rcases Int.lt_or_le 65536 (r - F * 65536) with hx | hx
    · exfalso
      have := Int.mul_le_mul_of_nonneg_right (show 65537 ≤ r - F * 65536 by omega) (Int.le_of_lt hs)
      rw [Int.sub_mul, show F * 65536 * T = T * F * 65536 by rw [Int.mul_comm T F, Int.mul_assoc, Int.mul_comm 65536 T, ← Int.mul_assoc]] at this
      omega
    · exact hx
theorem down_beside {N t r : Int} (h0 : t ≠ 0) (h : mulDiv N 65536 t = some r) (hb : besideB r = false) : r / 65536 = downI N t := by
  obtain ⟨x, h1, h2, h3⟩ := down_of h0 h
  unfold besideB at hb
  simp at hb
  omega
/-- what lies among the samples has a way back -/
theorem down_in {N t : Int} (h0 : t ≠ 0) (hF : 0 ≤ downI N t ∧ downI N t < 64) : ∃ r, mulDiv N 65536 t = some r ∧ 0 ≤ r ∧ r ≤ 4194304 := by
  have hs := size_pos h0
  have key : ∃ r, mulDiv N 65536 t = some r := by
    rw [downI_num h0] at hF
    unfold mulDiv
    rw [if_neg h0]
    have hn : 0 ≤ numI N t := by
      rcases Int.lt_or_le (numI N t) 0 with h | h
      · have := Int.ediv_neg_of_neg_of_pos h hs; omega
      · exact h
    have hn2 : numI N t < 64 * size t := by
      have e := Int.mul_ediv_add_emod (numI N t) (size t)
      have g1 := Int.emod_lt_of_pos (numI N t) hs
      have := Int.mul_le_mul_of_nonneg_left (show numI N t / size t ≤ 63 by omega) (Int.le_of_lt hs)
      omega
    have hsn : size N = numI N t := by
      unfold numI size at *
      split <;> split <;> omega
    rw [show size 65536 = 65536 from rfl, hsn]
    obtain ⟨D, hD⟩ := Int.eq_ofNat_of_zero_le (Int.le_of_lt hs)
    obtain ⟨n, hnn⟩ := Int.eq_ofNat_of_zero_le hn
    rw [hnn, hD] at hn2
    rw [hD] at hs
    rw [hD, hnn]
    rw [show ((n : Int) * 65536).toNat = n * 65536 by omega, Int.toNat_natCast]
    obtain ⟨m1, _⟩ := rdiv_near (n * 65536) D (by omega)
    have hm : rdiv (n * 65536) D ≤ 4194305 := by
      rcases Nat.lt_or_ge 4194305 (rdiv (n * 65536) D) with h | h
      · have := Nat.mul_le_mul_right D (show 4194306 ≤ rdiv (n * 65536) D by omega)
        omega
      · exact h
    generalize rdiv (n * 65536) D = m at *
    unfold sgn
    split
    · rw [if_pos (by omega)]; exact ⟨_, rfl⟩
    · rw [if_pos (by omega)]; exact ⟨_, rfl⟩
  obtain ⟨r, hr⟩ := key
  obtain ⟨x, h1, h2, h3⟩ := down_of h0 hr
  exact ⟨r, hr, by omega, by omega⟩
theorem sampV_out {W H B : Int} {s : ByteArray} {x y : Int} (hW : W ≤ 64) (hH : H ≤ 64) (h : ¬ (0 ≤ x ∧ x < 64) ∨ ¬ (0 ≤ y ∧ y < 64)) : sampV W H B s x y = -1 := by
  unfold sampV
  rw [if_neg]
  unfold inB
  simp
  omega
theorem wraps_i64 (n : Int) (h0 : 0 ≤ n) (h1 : n < 2 ^ 63) : IntKind.i64.wrap n = n := by rw [IntKind.wrap_i64]; omega
theorem mask_bits (x : Int) (m : Nat) (hm : m ≤ 8) (h0 : 0 ≤ x) (h1 : x < 2 ^ 63) : bits .and .i64 x (2 ^ m - 1) = x % 2 ^ m := by
  have := bits_mask .i64 63 (by decide) wraps_i64 m (by omega) x h0 h1
  simpa using this
theorem bitsV_bd {b k B : Int} (hb : 0 ≤ b ∧ b ≤ 255) (hB : B = 1 ∨ B = 2 ∨ B = 4 ∨ B = 8) : 0 ≤ bitsV b k B ∧ bitsV b k B < 2 ^ B.toNat := by
  have hq : 0 ≤ b / 2 ^ k.toNat ∧ b / 2 ^ k.toNat ≤ 255 := by
    have hp : (0 : Int) < 2 ^ k.toNat := Int.pow_pos (by decide)
    refine ⟨Int.ediv_nonneg hb.1 (Int.le_of_lt hp), ?_⟩
    exact Int.le_trans (Int.ediv_le_self _ hb.1) hb.2
  unfold bitsV
  generalize b / 2 ^ k.toNat = q at *
  rcases hB with rfl | rfl | rfl | rfl
  · have := mask_bits q 1 (by decide) hq.1 (by omega)
    rw [show wrap64 (wrap64 (2 ^ (1 : Int).toNat) - 1) = 2 ^ 1 - 1 by kernel_rfl, this]
    simp; omega
  · have := mask_bits q 2 (by decide) hq.1 (by omega)
    rw [show wrap64 (wrap64 (2 ^ (2 : Int).toNat) - 1) = 2 ^ 2 - 1 by kernel_rfl, this]
    simp; omega
  · have := mask_bits q 4 (by decide) hq.1 (by omega)
    rw [show wrap64 (wrap64 (2 ^ (4 : Int).toNat) - 1) = 2 ^ 4 - 1 by kernel_rfl, this]
    simp; omega
  · have := mask_bits q 8 (by decide) hq.1 (by omega)
    rw [show wrap64 (wrap64 (2 ^ (8 : Int).toNat) - 1) = 2 ^ 8 - 1 by kernel_rfl, this]
    simp; omega
theorem sampV_ge {W H B n : Int} {s : ByteArray} {x y : Int} (hm : mayI W H B n = true) (hn : n = s.size) : -1 ≤ sampV W H B s x y := by
  unfold sampV
  cases hb : inB W H x y with
  | false => simp
  | true =>
    rw [if_pos rfl]
    obtain ⟨hx, hy⟩ := inB_true hb
    obtain ⟨_, p2, p3, _, _, _, _, p8⟩ := place_in hm hx hy
    subst hn
    have := (bitsV_bd (k := 8 - B - x * B % 8) (byte_in s (y * rowI W B + x * B / 8) (by omega) p8).1 (mayI_bd hm).1).1
    omega

section
variable {W H B a b c d e f x y : Int} {s : ByteArray}
theorem back_det (ht : a * d - b * c = 0) : AtV W H B s a b c d e f x y = -1 := by
  unfold AtV atV
  split
  · rw [if_pos (.inl ht)]
  · rfl
theorem at_eq (hi : mayI W H B s.size = true) (hm : mayB a b c d e f = true) (ht : ¬ a * d - b * c = 0) (hx : -8191 ≤ x ∧ x ≤ 8191) (hy : -8191 ≤ y ∧ y ≤ 8191) :
    AtV W H B s a b c d e f x y = sampV W H B s (downI (d * (x * 65536 - e) - c * (y * 65536 - f)) (a * d - b * c)) (downI (a * (y * 65536 - f) - b * (x * 65536 - e)) (a * d - b * c)) := by
  unfold AtV atV
  rw [hi, hm, if_pos (show (true && true) = true from rfl), if_neg]
  rintro (h | h)
  · exact ht h
  · unfold coordB at h
    simp at h
    omega
end
end Go.Proofs.Ytegpjjkbbdfggaa.im
