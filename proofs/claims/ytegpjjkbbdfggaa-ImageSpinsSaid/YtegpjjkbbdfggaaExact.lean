/-
  Layer 24 in the seat of the images: exact division (the text of mat/XExact).
-/
import Derived.Test.YtegpjjkbbdfggaaMulA
import Derived.Test.YtegpjjkbbdfggaaPts
namespace Go.Proofs.Ytegpjjkbbdfggaa.mt
set_option linter.unusedVariables false
set_option linter.unusedSimpArgs false
open Go.RowKit bs
set_option maxRecDepth 100000 in
theorem size_abs (v : Int) : size v = (v.natAbs : Int) := by unfold size; split <;> omega
set_option maxRecDepth 100000 in
theorem sign_of (a b d r : Int) (hd : d ≠ 0) (h : a * b = r * d) : (neg a b d = true → r ≤ 0) ∧ (neg a b d = false → 0 ≤ r) := by
  have ab : (a < 0 ∧ b < 0 ∧ 0 < a * b) ∨ (a < 0 ∧ 0 ≤ b ∧ a * b ≤ 0) ∨ (0 ≤ a ∧ b < 0 ∧ a * b ≤ 0) ∨ (0 ≤ a ∧ 0 ≤ b ∧ 0 ≤ a * b) := by
    rcases Int.lt_or_le a 0 with ha | ha <;> rcases Int.lt_or_le b 0 with hb | hb
    · exact .inl ⟨ha, hb, Int.mul_pos_of_neg_of_neg ha hb⟩
    · exact .inr (.inl ⟨ha, hb, Int.mul_nonpos_of_nonpos_of_nonneg (Int.le_of_lt ha) hb⟩)
    · exact .inr (.inr (.inl ⟨ha, hb, Int.mul_nonpos_of_nonneg_of_nonpos ha (Int.le_of_lt hb)⟩))
    · exact .inr (.inr (.inr ⟨ha, hb, Int.mul_nonneg ha hb⟩))
  have rd : ∀ {x y : Int}, (0 < x → 0 < y → 0 < x * y) ∧ (0 < x → y < 0 → x * y < 0) ∧ (x < 0 → 0 < y → x * y < 0) ∧ (x < 0 → y < 0 → 0 < x * y) :=
    ⟨Int.mul_pos, Int.mul_neg_of_pos_of_neg, Int.mul_neg_of_neg_of_pos, Int.mul_pos_of_neg_of_neg⟩
  obtain ⟨r1, r2, r3, r4⟩ := @rd r d
  rw [← h] at r1 r2 r3 r4
  generalize a * b = z at *
  unfold neg
  constructor
  · intro hn
    rcases Int.lt_or_le 0 r with hr | hr
    · exfalso
      rcases Int.lt_or_le d 0 with hd0 | hd0
      · have := r2 hr hd0
        rcases ab with ⟨x1, x2, x3⟩ | ⟨x1, x2, x3⟩ | ⟨x1, x2, x3⟩ | ⟨x1, x2, x3⟩
        · omega
        · rw [decide_eq_true x1, decide_eq_false (by omega : ¬ b < 0), decide_eq_true hd0] at hn; cases hn
        · rw [decide_eq_false (by omega : ¬ a < 0), decide_eq_true x2, decide_eq_true hd0] at hn; cases hn
        · omega
      · have := r1 hr (by omega)
        rcases ab with ⟨x1, x2, x3⟩ | ⟨x1, x2, x3⟩ | ⟨x1, x2, x3⟩ | ⟨x1, x2, x3⟩
        · rw [decide_eq_true x1, decide_eq_true x2, decide_eq_false (by omega : ¬ d < 0)] at hn; cases hn
        · omega
        · omega
        · rw [decide_eq_false (by omega : ¬ a < 0), decide_eq_false (by omega : ¬ b < 0), decide_eq_false (by omega : ¬ d < 0)] at hn; cases hn
    · exact hr
  · intro hn
    rcases Int.lt_or_le r 0 with hr | hr
    · exfalso
      rcases Int.lt_or_le d 0 with hd0 | hd0
      · have := r4 hr hd0
        rcases ab with ⟨x1, x2, x3⟩ | ⟨x1, x2, x3⟩ | ⟨x1, x2, x3⟩ | ⟨x1, x2, x3⟩
        · rw [decide_eq_true x1, decide_eq_true x2, decide_eq_true hd0] at hn; cases hn
        · omega
        · omega
        · rw [decide_eq_false (by omega : ¬ a < 0), decide_eq_false (by omega : ¬ b < 0), decide_eq_true hd0] at hn; cases hn
      · have := r3 hr (by omega)
        rcases ab with ⟨x1, x2, x3⟩ | ⟨x1, x2, x3⟩ | ⟨x1, x2, x3⟩ | ⟨x1, x2, x3⟩
        · omega
        · rw [decide_eq_true x1, decide_eq_false (by omega : ¬ b < 0), decide_eq_false (by omega : ¬ d < 0)] at hn; cases hn
        · rw [decide_eq_false (by omega : ¬ a < 0), decide_eq_true x2, decide_eq_false (by omega : ¬ d < 0)] at hn; cases hn
        · omega
    · exact hr
set_option maxRecDepth 100000 in
/-- a product that the divisor divides -/
theorem mulDiv_exact {a b d r : Int} (hd : d ≠ 0) (h : a * b = r * d) (h0 : -9223372036854775808 < r) (h1 : r < 9223372036854775808) : mulDiv a b d = some r := by
  obtain ⟨s1, s2⟩ := sign_of a b d r hd h
  have hN : size a * size b = ((r.natAbs * d.natAbs : Nat) : Int) := by
    rw [size_abs, size_abs, ← Int.natAbs_mul, ← h, Int.natAbs_mul]
    push_cast; rfl
  have hD : size d = (d.natAbs : Int) := size_abs d
  have hD0 : 0 < d.natAbs := by omega
  have hr : rdiv (r.natAbs * d.natAbs) d.natAbs = r.natAbs := by
    unfold rdiv
    rw [Nat.mul_mod_left, Nat.mul_div_cancel _ hD0, if_neg (by omega)]
  unfold mulDiv
  rw [if_neg hd, hN, hD]
  simp only [Int.toNat_natCast]
  rw [hr]
  unfold sgn
  cases hn : neg a b d with
  | true =>
    have := s1 hn
    rw [if_pos rfl, if_pos (by omega)]
    congr 1
    omega
  | false =>
    have := s2 hn
    rw [if_neg (by decide), if_pos (by omega)]
    congr 1
    omega
set_option maxRecDepth 100000 in
theorem even32_exact (k : Int) : even (k * 4294967296) 4294967296 2147483648 = k := by unfold even; rw [if_neg (by omega)]; omega
set_option maxRecDepth 100000 in
theorem even16_exact (k : Int) : even (k * 65536) 65536 32768 = k := by unfold even; rw [if_neg (by omega)]; omega
set_option maxRecDepth 100000 in
theorem mayB_true {A B C D E F : Int} (a : -1073741823 ≤ A ∧ A ≤ 1073741823) (b : -1073741823 ≤ B ∧ B ≤ 1073741823) (c : -1073741823 ≤ C ∧ C ≤ 1073741823) (d : -1073741823 ≤ D ∧ D ≤ 1073741823) (e : -1073741823 ≤ E ∧ E ≤ 1073741823) (f : -1073741823 ≤ F ∧ F ≤ 1073741823) : mayB A B C D E F = true := by
  unfold mayB
  rw [fixB_true a, fixB_true b, fixB_true c, fixB_true d, fixB_true e, fixB_true f]
  rfl
set_option maxRecDepth 100000 in
theorem goodB_true {A B C D E F x y : Int} (h : mayB A B C D E F = true) (hx : -1073741823 ≤ x ∧ x ≤ 1073741823) (hy : -1073741823 ≤ y ∧ y ≤ 1073741823) : goodB A B C D E F x y = true := by
  unfold goodB
  rw [h, fixB_true hx, fixB_true hy]
  rfl
set_option maxRecDepth 100000 in
theorem nearB_true {x y m : Int} (hx : -m ≤ x ∧ x ≤ m) (hy : -m ≤ y ∧ y ≤ m) : nearB x y m = true := by unfold nearB; simp; omega
end Go.Proofs.Ytegpjjkbbdfggaa.mt
