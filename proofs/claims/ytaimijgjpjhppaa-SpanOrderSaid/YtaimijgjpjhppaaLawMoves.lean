/-
  Layer 30: the law SpanMoves.
-/
import Derived.Test.YtaimijgjpjhppaaFew
import Derived.Test.YtaimijgjpjhppaaRefSays2
namespace Go.Proofs.Ytaimijgjpjhppaa.sp
set_option linter.unusedVariables false
set_option linter.unusedSimpArgs false
open Go.RowKit bs

theorem moved_none {l : List (Int × Int)} {b : Int} {t : Nat} (h : (t : Int) - b < 0) : moved l b 64 t = false := by
  unfold moved; rw [show decide (0 ≤ (t : Int) - b) = false by simp; omega]; rfl
theorem moved_over {l : List (Int × Int)} {b : Int} {t : Nat} (h : 64 ≤ (t : Int) - b) : moved l b 64 t = false := by
  unfold moved; rw [show decide ((t : Int) - b < 64) = false by simp; omega]; simp
theorem moved_at {l : List (Int × Int)} {b : Int} {t i : Nat} (h : (t : Int) - b = i) (hi : i < 64) (ht : t < 64) : moved l b 64 t = inRuns l i := by
  unfold moved
  rw [h, Int.toNat_natCast, show decide ((0 : Int) ≤ (i : Int)) = true by simp, show decide ((i : Int) < 64) = true by simp; omega, show decide ((t : Int) < 64) = true by simp; omega]
  simp
theorem shift_64 (l : List (Int × Int)) (b : Int) (h : -64 < b ∧ b < 64) : shift l b 64 = rl (moved l b 64) 64 := shift_cut l b 64 h
theorem inRuns_shift (l : List (Int × Int)) (b : Int) (h : -64 < b ∧ b < 64) (i : Nat) (hi : i < 64) : inRuns (shift l b 64) i = moved l b 64 i := by
  rw [shift_64 l b h, inRuns_rl]; simp [hi]
theorem mv1 (l : List (Int × Int)) (hl : InRow l) (a : Nat) (ha : a < 14) : shift (shift l a 64) (-(a : Int)) 64 = norm l 64 := by
  rw [norm_64, shift_64 _ _ (by omega)]
  refine rl_ext 64 fun i hi => ?_
  by_cases h : i + a < 64
  · rw [moved_at (i := i + a) (by omega) h hi, inRuns_shift l a (by omega) _ h, moved_at (i := i) (by omega) hi h]
  · rw [moved_over (by omega), hl.far i (by omega)]
theorem mv2 (l : List (Int × Int)) (hl : InRow l) (a b : Nat) (ha : a < 14) (hb : b < 9) : shift (shift l a 64) b 64 = shift l ((a : Int) + b) 64 := by
  rw [shift_64 (shift l a 64) b (by omega), shift_64 l ((a : Int) + b) (by omega)]
  refine rl_ext 64 fun i hi => ?_
  by_cases h : i < b
  · rw [moved_none (by omega), moved_none (by omega)]
  · rw [moved_at (i := i - b) (by omega) (by omega) hi, inRuns_shift l a (by omega) _ (by omega)]
    by_cases h2 : i - b < a
    · rw [moved_none (by omega), moved_none (by omega)]
    · rw [moved_at (i := i - b - a) (by omega) (by omega) (by omega), moved_at (i := i - b - a) (by omega) (by omega) hi]
theorem mv6 (l : List (Int × Int)) (hl : InRow l) (a : Nat) (ha : a < 14) : shift (shift l (-(a : Int)) 64) a 64 = two (fun x y => x && !y) l [(0, (a : Int))] := by
  rw [shift_64 _ _ (by omega)]
  refine rl_ext 64 fun i hi => ?_
  show _ = (inRuns l i && !inRuns [(0, (a : Int))] i)
  rw [inRuns_one]
  by_cases h : i < a
  · rw [moved_none (by omega), show decide ((i : Int) < (a : Int)) = true by simp; omega]; simp
  · rw [moved_at (i := i - a) (by omega) (by omega) hi, inRuns_shift l _ (by omega) _ (by omega), moved_at (i := i) (by omega) hi (by omega), show decide ((i : Int) < (a : Int)) = false by simp; omega]; simp
theorem cnt_stay (S : Nat → Bool) (k : Nat) (h : ∀ j, k ≤ j → S j = false) (m : Nat) : cnt S (k + m) = cnt S k := by
  induction m with
  | zero => rfl
  | succ m ih => rw [← Nat.add_assoc, cnt_no (h (k + m) (by omega)), ih]
theorem cnt_head (S : Nat → Bool) (a : Nat) (h : ∀ j, j < a → S j = false) : cnt S a = 0 := by
  induction a with
  | zero => rfl
  | succ a ih => rw [cnt_no (h a (by omega)), ih fun j hj => h j (by omega)]
theorem cnt_move (S T : Nat → Bool) (a k : Nat) (h0 : ∀ j, j < a → T j = false) (h : ∀ j, j < k → T (a + j) = S j) : cnt T (a + k) = cnt S k := by
  induction k with
  | zero => exact cnt_head T a h0
  | succ k ih =>
    have e := ih fun j hj => h j (by omega)
    rw [← Nat.add_assoc]
    show cnt T (a + k) + _ = cnt S k + _
    rw [e, h k (by omega)]
theorem inRuns_over (S : Nat → Bool) (k j : Nat) (h : k ≤ j) : inRuns (rl S k) j = false := by rw [inRuns_rl, show decide (j < k) = false by simp; omega, Bool.and_false]
theorem mv3 (l : List (Int × Int)) (hl : InRow l) (a : Nat) (ha : a < 14) : cnt (inRuns (shift l a 64)) 64 = cnt (inRuns l) 64 := by
  have e1 : cnt (inRuns l) 64 = cnt (inRuns l) 40 := cnt_stay _ 40 (fun j hj => hl.far j hj) 24
  have e2 : cnt (inRuns (shift l a 64)) 64 = cnt (inRuns (shift l a 64)) (a + 40) := by
    have := cnt_stay (inRuns (shift l a 64)) (a + 40) (fun j hj => ?_) (24 - a)
    · rw [show a + 40 + (24 - a) = 64 by omega] at this; exact this
    · by_cases h64 : j < 64
      · rw [inRuns_shift l a (by omega) j h64, moved_at (i := j - a) (by omega) (by omega) h64, hl.far _ (by omega)]
      · rw [shift_64 l a (by omega)]; exact inRuns_over _ 64 j (by omega)
  rw [e1, e2]
  refine cnt_move _ _ a 40 (fun j hj => ?_) (fun j hj => ?_)
  · rw [inRuns_shift l a (by omega) j (by omega), moved_none (by omega)]
  · rw [inRuns_shift l a (by omega) _ (by omega), moved_at (i := j) (by omega) (by omega) (by omega)]
theorem mv4 (l : List (Int × Int)) : shift l 64 64 = [] := by unfold shift; rw [if_neg (by omega)]
theorem mv5 (l : List (Int × Int)) : shift l (-64) 64 = [] := by unfold shift; rw [if_neg (by omega)]
theorem shift_none (A : Option Addr) (n c : Nat) (l : List (Int × Int)) (b x : Int) (w : World) (hr : Runs w A n c l) (hn : n ≤ 9223372036854775807) (h : shift l b x = []) :
    Calls Try.prog 18 #[.slice A n c, .int .i64 b, .int .i64 x] w fun e w' => ∃ A' c', e = .returned (.slice A' 0 c') ∧ Below w.heap.size w w' :=
  (shift_any A n c l b x w hr hn).mono fun e w' ⟨A', c', he, _, hb⟩ => ⟨A', c', by rw [he, h]; rfl, hb⟩

set_option maxRecDepth 100000 in
set_option maxHeartbeats 3200000 in
theorem moves_law (A : Option Addr) (n c : Nat) (ns : Nat → Int) (by_ again : Int) (w : World) (hr : Ints w A n c ns) (hn : n ≤ 9223372036854775807) (hy : -9223372036854775808 ≤ by_ ∧ by_ ≤ 9223372036854775807) (hz : -9223372036854775808 ≤ again ∧ again ≤ 9223372036854775807) :
    Calls Try.prog 4 #[.slice A n c, .int .i64 by_, .int .i64 again] w fun e w' => e = .returned (.bool true) ∧ Below w.heap.size w w' := by
  go_enter Try.func4, Try.ntmps4
  go_wp2_with (go_at_call 9; refine (known_any _).mono ?_; rintro e w1 ⟨rfl, hb1⟩)
  have H := hb1
  replace hr := hr.below hb1
  clear hb1
  refine (few_any A n c ns _ hr hn).mono ?_
  rintro e w2 ⟨l, P2, f2, rfl, hl, hlen, hin, hb2⟩
  replace H := btrans H hb2
  clear hb2 hr
  go_wp2_with fail
  refine (place_in by_ 14 _ (by omega) (by omega)).mono ?_
  rintro e w' ⟨a, rfl, a0, a1, rfl⟩
  obtain ⟨a, rfl⟩ := Int.eq_ofNat_of_zero_le a0
  go_wp2_with fail
  refine (place_in again 9 _ (by omega) (by omega)).mono ?_
  rintro e w' ⟨b, rfl, b0, b1, rfl⟩
  obtain ⟨b, rfl⟩ := Int.eq_ofNat_of_zero_le b0
  have E1 := Lib.hid (mv1 l hin a (by omega))
  have E2 := Lib.hid (mv2 l hin a b (by omega) (by omega))
  have E3 := Lib.hid (mv3 l hin a (by omega))
  have E6 := Lib.hid (mv6 l hin a (by omega))
  clear hin
  obtain ⟨X, hX, hX64⟩ : ∃ X : Nat, cnt (inRuns l) 64 = X ∧ X ≤ 64 := ⟨_, rfl, cnt_le _ _⟩
  have E7 := Lib.hid hX
  have E8 := Lib.hid (E3.out.trans hX)
  clear hX
  go_wp2_with fail
  refine (shift_any _ _ _ l a 64 _ hl (by omega)).mono ?_
  rintro e w3 ⟨P3, f3, rfl, hm, hb3⟩
  replace hl := hl.below hb3
  replace H := btrans H hb3
  clear hb3
  go_wp2_with fail
  refine (shift_any _ _ _ _ b 64 _ hm (shift_short _ _ _)).mono ?_
  rintro e w4 ⟨P4, f4, rfl, ht, hb4⟩
  replace hl := hl.below hb4
  replace hm := hm.below hb4
  replace H := btrans H hb4
  clear hb4
  go_wp2_with fail
  refine (shift_none _ _ _ l 64 64 _ hl (by omega) (mv4 l)).mono ?_
  rintro e w5 ⟨P5, f5, rfl, hb5⟩
  replace hl := hl.below hb5
  replace hm := hm.below hb5
  replace ht := ht.below hb5
  replace H := btrans H hb5
  clear hb5
  go_wp2_with fail
  refine (shift_none _ _ _ l (-64) 64 _ hl (by omega) (mv5 l)).mono ?_
  rintro e w6 ⟨P6, f6, rfl, hb6⟩
  replace hl := hl.below hb6
  replace hm := hm.below hb6
  replace ht := ht.below hb6
  replace H := btrans H hb6
  clear hb6
  go_wp2_with fail
  refine (shift_any _ _ _ l (-(a : Int)) 64 _ hl (by omega)).mono ?_
  rintro e w7 ⟨P7, f7, rfl, hd, hb7⟩
  replace hl := hl.below hb7
  replace hm := hm.below hb7
  replace ht := ht.below hb7
  replace H := btrans H hb7
  clear hb7
  go_wp2_with fail
  refine (shift_any _ _ _ _ a 64 _ hd (shift_short _ _ _)).mono ?_
  rintro e w8 ⟨P8, f8, rfl, hd2, hb8⟩
  replace hl := hl.below hb8
  replace hm := hm.below hb8
  replace ht := ht.below hb8
  replace H := btrans H hb8
  clear hb8 hd
  go_wp2_with fail
  refine (shift_any _ _ _ _ (-(a : Int)) 64 _ hm (shift_short _ _ _)).mono ?_
  rintro e w9 ⟨P9, f9, rfl, h9, hb9⟩
  replace hl := hl.below hb9
  replace hm := hm.below hb9
  replace ht := ht.below hb9
  replace hd2 := hd2.below hb9
  replace H := btrans H hb9
  clear hb9
  go_wp2_with fail
  refine (norm_any _ _ _ l 64 _ hl (by omega)).mono ?_
  rintro e w10 ⟨P10, f10, rfl, h10, hb10⟩
  replace hl := hl.below hb10
  replace hm := hm.below hb10
  replace ht := ht.below hb10
  replace hd2 := hd2.below hb10
  replace h9 := h9.below hb10
  replace H := btrans H hb10
  clear hb10
  go_wp2_with fail
  refine (same_yes _ _ _ _ _ _ _ _ _ h9 h10 (shift_short _ _ _) (norm_short _ _) E1.out).mono ?_
  rintro e w11 ⟨rfl, hb11⟩
  replace hl := hl.below hb11
  replace hm := hm.below hb11
  replace ht := ht.below hb11
  replace hd2 := hd2.below hb11
  replace H := btrans H hb11
  clear hb11 h9 h10
  go_wp2_with fail
  refine (shift_any _ _ _ l ((a : Int) + b) 64 _ hl (by omega)).mono ?_
  rintro e w12 ⟨P12, f12, rfl, h12, hb12⟩
  replace hl := hl.below hb12
  replace hm := hm.below hb12
  replace ht := ht.below hb12
  replace hd2 := hd2.below hb12
  replace H := btrans H hb12
  clear hb12
  go_wp2_with fail
  refine (same_yes _ _ _ _ _ _ _ _ _ ht h12 (shift_short _ _ _) (shift_short _ _ _) E2.out).mono ?_
  rintro e w13 ⟨rfl, hb13⟩
  replace hl := hl.below hb13
  replace hm := hm.below hb13
  replace hd2 := hd2.below hb13
  replace H := btrans H hb13
  clear hb13 ht h12
  go_wp2_with fail
  refine (count_is X _ _ _ _ _ hm (shift_short _ _ _) E8.out).mono ?_
  rintro e w14 ⟨rfl, hb14⟩
  replace hl := hl.below hb14
  replace hd2 := hd2.below hb14
  replace H := btrans H hb14
  clear hb14 hm
  go_wp2_with fail
  refine (count_is X _ _ _ _ _ hl (by omega) E7.out).mono ?_
  rintro e w15 ⟨rfl, hb15⟩
  replace hl := hl.below hb15
  replace hd2 := hd2.below hb15
  replace H := btrans H hb15
  clear hb15
  go_wp2_with fail
  have q1 := Runs.lits w15 [(0, (a : Int))] 26 1 (Nat.le_refl _)
  refine (less_any _ _ _ _ 1 1 l [(0, (a : Int))] _ (hl.below (balloc (Below.refl _ _) _)) q1 (by omega) (by omega)).mono ?_
  rintro e w16 ⟨P16, f16, rfl, h16, hb16⟩
  have hb17 := btrans (balloc (Below.refl _ _) _) hb16
  replace hd2 := hd2.below hb17
  replace H := btrans H hb17
  clear hb16 hb17 q1
  go_wp2_with fail
  refine (same_yes _ _ _ _ _ _ _ _ _ hd2 h16 (shift_short _ _ _) (two_short _ _ _) E6.out).mono ?_
  rintro e w18 ⟨rfl, hb18⟩
  replace H := btrans H hb18
  go_wp2_with fail
  go_ret
  exact ⟨rfl, H⟩
end Go.Proofs.Ytaimijgjpjhppaa.sp
