/-
  Layer 7, plain: what is written in a form is read again, with anything behind it; cut off it ends too early; too long it is over the limit.
-/
import Derived.Test.YtdonjnngohmknaaQPlain
namespace Go.Proofs.Ytdonjnngohmknaa.qt
set_option linter.unusedVariables false
set_option linter.unusedSimpArgs false
open ch

/-! ### ( ) -/
theorem n8 (c : UInt8) : c.toNat < 256 := c.toNat_lt
theorem ofN (n : Nat) (h : n < 256) : (UInt8.ofNat n).toNat = n := by rw [UInt8.toNat_ofNat']; omega
theorem u8lt (a b : UInt8) : a < b ↔ a.toNat < b.toNat := UInt8.lt_iff_toNat_lt
theorem u8lee (a b : UInt8) : a ≤ b ↔ a.toNat ≤ b.toNat := UInt8.le_iff_toNat_le
/-- a digit to eight -/
theorem oct_dig (f : Nat) (k : Nat) (h : k < 8) (r : List UInt8) (v n : Nat) : oct (f + 1) (UInt8.ofNat (48 + k) :: r) v n = oct f r (8 * v + k) (n + 1) := by
  have e := ofN (48 + k) (by omega)
  rw [oct, if_pos, e]
  · rw [show 48 + k - 48 = k by omega]
  · rw [u8lee, u8lee, e]
    exact ⟨by show 48 ≤ 48 + k; omega, by show 48 + k ≤ 55; omega⟩
theorem oct_none (f v k : Nat) : oct f [] v k = (v, k) := by cases f <;> rfl
theorem esc_oct (k : Nat) (h : k < 8) (r : List UInt8) : esc (UInt8.ofNat (48 + k) :: r) = (some (UInt8.ofNat (oct 3 (UInt8.ofNat (48 + k) :: r) 0 0).1), (oct 3 (UInt8.ofNat (48 + k) :: r) 0 0).2) := by
  rcases (show k = 0 ∨ k = 1 ∨ k = 2 ∨ k = 3 ∨ k = 4 ∨ k = 5 ∨ k = 6 ∨ k = 7 by omega) with rfl | rfl | rfl | rfl | rfl | rfl | rfl | rfl <;> rfl
theorem esc_oct3 (c : UInt8) (r : List UInt8) : esc (UInt8.ofNat (48 + c.toNat / 64) :: UInt8.ofNat (48 + c.toNat / 8 % 8) :: UInt8.ofNat (48 + c.toNat % 8) :: r) = (some c, 3) := by
  have hc := n8 c
  rw [esc_oct _ (by omega), oct_dig _ _ (by omega), oct_dig _ _ (by omega), oct_dig _ _ (by omega)]
  have e : 8 * (8 * (8 * 0 + c.toNat / 64) + c.toNat / 8 % 8) + c.toNat % 8 = c.toNat := by omega
  show (some (UInt8.ofNat (8 * (8 * (8 * 0 + c.toNat / 64) + c.toNat / 8 % 8) + c.toNat % 8)), 3) = _
  rw [e, UInt8.ofNat_toNat]
/-- a byte within ( ), read -/
theorem tok (f : Nat) (c : UInt8) (r : List UInt8) (d : Nat) (b : List UInt8) (n : Nat) : parenR (f + 1) (pone c ++ r) d b n = if 4000 ≤ b.length then bad 5 else parenR f r d (b ++ [c]) (n + (pone c).length) := by
  unfold pone
  by_cases h1 : c = 40 ∨ c = 41 ∨ c = 92
  · rw [if_pos h1]
    rcases h1 with rfl | rfl | rfl <;> simp [parenR, esc, Nat.add_assoc]
  · rw [if_neg h1]
    by_cases h2 : short c ≠ 0
    · rw [if_pos h2]
      have h3 : c = 8 ∨ c = 9 ∨ c = 10 ∨ c = 12 ∨ c = 13 := by
        unfold short at h2
        by_cases e8 : c = 8
        · exact .inl e8
        by_cases e9 : c = 9
        · exact .inr (.inl e9)
        by_cases e10 : c = 10
        · exact .inr (.inr (.inl e10))
        by_cases e12 : c = 12
        · exact .inr (.inr (.inr (.inl e12)))
        by_cases e13 : c = 13
        · exact .inr (.inr (.inr (.inr e13)))
        rw [if_neg e8, if_neg e9, if_neg e10, if_neg e12, if_neg e13] at h2
        exact absurd rfl h2
      rcases h3 with rfl | rfl | rfl | rfl | rfl <;> simp [parenR, esc, short, Nat.add_assoc]
    · rw [if_neg h2]
      by_cases h3 : c < 32 ∨ 126 < c
      · rw [if_pos h3]
        have e := esc_oct3 c r
        simp only [List.cons_append, List.nil_append]
        generalize UInt8.ofNat (48 + c.toNat / 64) = p1 at *
        generalize UInt8.ofNat (48 + c.toNat / 8 % 8) = p2 at *
        generalize UInt8.ofNat (48 + c.toNat % 8) = p3 at *
        rw [parenR]
        simp [e, Nat.add_assoc]
      · rw [if_neg h3]
        have e40 : c ≠ 40 := fun e => h1 (.inl e)
        have e41 : c ≠ 41 := fun e => h1 (.inr (.inl e))
        have e92 : c ≠ 92 := fun e => h1 (.inr (.inr e))
        have e13 : c ≠ 13 := fun e => h3 (.inl (by rw [e]; decide))
        simp [parenR, e40, e41, e92, e13]
theorem paren_all (l : List UInt8) : ∀ (f d : Nat) (r b : List UInt8) (n : Nat), l.length ≤ f → b.length + l.length ≤ 4000 → parenR f (l.flatMap pone ++ r) d b n = parenR (f - l.length) r d (b ++ l) (n + (l.flatMap pone).length) := by
  induction l with
  | nil => intro f d r b n _ _; simp
  | cons c l ih =>
    intro f d r b n hf hb
    obtain ⟨g, rfl⟩ : ∃ g, f = g + 1 := ⟨f - 1, by simp at hf; omega⟩
    rw [List.length_cons] at hb hf
    rw [List.flatMap_cons, List.append_assoc, tok, if_neg (by omega), ih g d r (b ++ [c]) _ (by omega) (by simp; omega)]
    simp only [List.append_assoc, List.singleton_append, List.length_append, List.length_cons]
    congr 1
    · omega
    · omega
theorem pone_pos (c : UInt8) : 1 ≤ (pone c).length := by
  unfold pone
  split
  · simp
  split
  · simp
  split <;> simp
theorem fm_len_ge (l : List UInt8) : l.length ≤ (l.flatMap pone).length := by
  induction l with
  | nil => simp
  | cons c l ih => have := pone_pos c; rw [List.flatMap_cons, List.length_append, List.length_cons]; omega
theorem parenL_len (l : List UInt8) : (parenL l).length = (l.flatMap pone).length + 2 := by
  unfold parenL
  rw [List.length_cons, List.length_append]; rfl
theorem back_paren (l more : List UInt8) (h : l.length ≤ 4000) : takeL (parenL l ++ more) = (l, ((parenL l).length : Int), 0) := by
  have e : takeL (parenL l ++ more) = parenR (parenL l ++ more).length ((l.flatMap pone ++ [41]) ++ more) 1 [] 1 := by
    unfold parenL
    rw [takeL, if_pos (by rfl)]; rfl
  have hl := fm_len_ge l
  rw [e, List.append_assoc, paren_all l _ 1 ([41] ++ more) [] 1 (by rw [List.length_append, parenL_len]; omega) (by simpa using h)]
  obtain ⟨g, hg⟩ : ∃ g, (parenL l ++ more).length - l.length = g + 1 := ⟨(parenL l ++ more).length - l.length - 1, by rw [List.length_append, parenL_len]; omega⟩
  rw [hg]
  show parenR (g + 1) (41 :: more) 1 ([] ++ l) _ = _
  rw [parenL_len, parenR, if_neg (by decide), if_pos rfl, if_pos rfl, List.nil_append]
  congr 2
  omega
/-- a token that is cut, or nothing: the end comes too early -/
theorem tok_cut (f : Nat) (c : UInt8) (k : Nat) (hk : k < (pone c).length) (d : Nat) (b : List UInt8) (n : Nat) (hb : b.length < 4000) : parenR f ((pone c).take k) d b n = bad 4 := by
  cases f with
  | zero => rfl
  | succ f =>
  have nil : ∀ g d b n, parenR g [] d b n = bad 4 := fun g d b n => by cases g <;> rfl
  unfold pone at hk ⊢
  by_cases h1 : c = 40 ∨ c = 41 ∨ c = 92
  · rw [if_pos h1] at hk ⊢
    rcases (show k = 0 ∨ k = 1 by simp at hk; omega) with rfl | rfl
    · exact nil _ _ _ _
    · simp [parenR]
  · rw [if_neg h1] at hk ⊢
    by_cases h2 : short c ≠ 0
    · rw [if_pos h2] at hk ⊢
      rcases (show k = 0 ∨ k = 1 by simp at hk; omega) with rfl | rfl
      · exact nil _ _ _ _
      · simp [parenR]
    · rw [if_neg h2] at hk ⊢
      by_cases h3 : c < 32 ∨ 126 < c
      · rw [if_pos h3] at hk ⊢
        have hc := n8 c
        rcases (show k = 0 ∨ k = 1 ∨ k = 2 ∨ k = 3 by simp only [List.length_cons, List.length_nil] at hk; omega) with rfl | rfl | rfl | rfl
        · exact nil _ _ _ _
        · simp [parenR]
        · have e := esc_oct (c.toNat / 64) (by omega) []
          rw [oct_dig _ _ (by omega), oct_none] at e
          show parenR (f + 1) [92, UInt8.ofNat (48 + c.toNat / 64)] d b n = _
          generalize UInt8.ofNat (48 + c.toNat / 64) = p1 at *
          rw [parenR]
          simp [e, nil]
          omega
        · have e := esc_oct (c.toNat / 64) (by omega) [UInt8.ofNat (48 + c.toNat / 8 % 8)]
          rw [oct_dig _ _ (by omega), oct_dig _ _ (by omega), oct_none] at e
          show parenR (f + 1) [92, UInt8.ofNat (48 + c.toNat / 64), UInt8.ofNat (48 + c.toNat / 8 % 8)] d b n = _
          generalize UInt8.ofNat (48 + c.toNat / 64) = p1 at *
          generalize UInt8.ofNat (48 + c.toNat / 8 % 8) = p2 at *
          rw [parenR]
          simp [e, nil]
          omega
      · rw [if_neg h3] at hk ⊢
        rcases (show k = 0 by simp at hk; omega) with rfl
        exact nil _ _ _ _
theorem paren_cut (l : List UInt8) : ∀ (f d k : Nat) (b : List UInt8) (n : Nat), k ≤ (l.flatMap pone).length → b.length + l.length ≤ 4000 → parenR f ((l.flatMap pone).take k) d b n = bad 4 := by
  induction l with
  | nil => intro f d k b n hk _; simp; cases f <;> rfl
  | cons c l ih =>
    intro f d k b n hk hb
    rw [List.length_cons] at hb
    rw [List.flatMap_cons] at hk ⊢
    rw [List.take_append]
    by_cases h : k < (pone c).length
    · rw [show k - (pone c).length = 0 by omega, List.take_zero, List.append_nil]
      exact tok_cut f c k h d b n (by omega)
    · rw [List.take_of_length_le (by omega)]
      cases f with
      | zero => rfl
      | succ f =>
        rw [tok, if_neg (by omega)]
        exact ih f d _ _ _ (by rw [List.length_append] at hk; omega) (by simp; omega)
theorem cut_paren (l : List UInt8) (k : Nat) (h : l.length ≤ 4000) (h0 : 1 ≤ k) (hk : k < (parenL l).length) : takeL ((parenL l).take k) = bad 4 := by
  obtain ⟨k, rfl⟩ : ∃ j, k = j + 1 := ⟨k - 1, by omega⟩
  unfold parenL at hk ⊢
  rw [List.take_succ_cons, takeL, if_pos (by rfl)]
  show parenR _ ((l.flatMap pone ++ [41]).take k) 1 [] 1 = _
  simp only [List.length_cons, List.length_append, List.length_nil] at hk
  rw [List.take_append_of_le_length (by omega)]
  exact paren_cut l _ 1 k [] 1 (by omega) (by simpa using h)
/-- one byte too many -/
theorem paren_many (l : List UInt8) (r : List UInt8) : ∀ (f d : Nat) (b : List UInt8) (n : Nat), l.length ≤ f → b.length ≤ 4000 → 4000 < b.length + l.length → parenR f (l.flatMap pone ++ r) d b n = bad 5 := by
  induction l with
  | nil => intro f d b n _ h1 h2; simp at h2; omega
  | cons c l ih =>
    intro f d b n hf h1 h2
    obtain ⟨g, rfl⟩ : ∃ g, f = g + 1 := ⟨f - 1, by simp at hf; omega⟩
    rw [List.length_cons] at h2 hf
    rw [List.flatMap_cons, List.append_assoc, tok]
    by_cases h : 4000 ≤ b.length
    · rw [if_pos h]
    · rw [if_neg h]
      exact ih g d _ _ (by omega) (by simp; omega) (by simp; omega)
theorem many_paren (l : List UInt8) (h : 4000 < l.length) : takeL (parenL l) = bad 5 := by
  unfold parenL
  have hl := fm_len_ge l
  rw [takeL, if_pos (by rfl)]
  exact paren_many l [41] _ 1 [] 1 (by rw [List.length_cons, List.length_append]; omega) (by simp) (by simpa using h)
end Go.Proofs.Ytdonjnngohmknaa.qt
