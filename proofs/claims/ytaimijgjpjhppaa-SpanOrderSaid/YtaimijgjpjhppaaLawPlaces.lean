/-
  Layer 30: the law SpanPlaces. (printed by gen_places.py)
-/
import Derived.Test.YtaimijgjpjhppaaLawMoves
namespace Go.Proofs.Ytaimijgjpjhppaa.sp
set_option linter.unusedVariables false
set_option linter.unusedSimpArgs false
open Go.RowKit bs

theorem has_nat (l : List (Int × Int)) (i : Nat) (h : i < 64) : hasB l i = inRuns l i := by unfold hasB; simp; intros; omega
theorem has_two (h : Bool → Bool → Bool) (l m : List (Int × Int)) (i : Nat) (hi : i < 50) : hasB (two h l m) i = h (hasB l i) (hasB m i) := by
  rw [has_nat _ i (by omega), has_nat _ i (by omega), has_nat _ i (by omega), inRuns_two _ _ _ i (by omega)]
theorem has_not (l : List (Int × Int)) (i : Nat) (hi : i < 50) : hasB (notL l 50) i = !hasB l i := by
  rw [has_nat _ i (by omega), has_nat _ i (by omega)]
  unfold notL; rw [inRuns_rl]; simp; intros; omega
theorem has_shift (l : List (Int × Int)) (v : Int) (hv : -64 < v ∧ v < 64) (i : Nat) (hi : i < 50) : hasB (shift l v 50) i = hasB l ((i : Int) - v) := by
  rw [has_nat _ i (by omega), shift_cut l v 50 hv, inRuns_rl]
  unfold moved hasB
  have e1 : decide (i < (max (0 : Int) (min 50 64)).toNat) = true := by simp; omega
  have e2 : decide ((i : Int) < 64) = true := by simp; omega
  rw [e1, e2, Bool.and_true, Bool.and_true]
theorem has_neg (l : List (Int × Int)) : hasB l (-1) = false := rfl
theorem has_end (l : List (Int × Int)) : hasB l 64 = false := rfl
theorem mayB_of {l : List (Int × Int)} {x : Int} (h0 : 0 ≤ x) (h1 : x ≤ 64) (h : mayFrom x (-1) l = true) : mayB l x = true := by
  unfold mayB; rw [h]; simp; omega
theorem may_two (h : Bool → Bool → Bool) (l m : List (Int × Int)) : mayB (two h l m) 64 = true := mayB_of (by omega) (by omega) (may_rl _ 64 64 (by omega))
theorem may_not (l : List (Int × Int)) : mayB (notL l 50) 50 = true := mayB_of (by omega) (by omega) (may_rl _ 50 50 (by omega))
theorem may_shift (l : List (Int × Int)) (v : Int) (hv : -64 < v ∧ v < 64) : mayB (shift l v 50) 50 = true := mayB_of (by omega) (by omega) (by rw [shift_cut l v 50 hv]; exact may_rl _ 50 50 (by omega))
theorem cnt_ext {S T : Nat → Bool} (k : Nat) (h : ∀ i, i < k → S i = T i) : cnt S k = cnt T k := by
  induction k with
  | zero => rfl
  | succ k ih => unfold cnt; rw [h k (by omega), ih fun i hi => h i (by omega)]
theorem cnt_two (h : Bool → Bool → Bool) (l m : List (Int × Int)) : cnt (inRuns (two h l m)) 64 = cnt (fun i => h (inRuns l i) (inRuns m i)) 64 := cnt_ext 64 fun i hi => inRuns_two h l m i hi
theorem cnt_sum (S T : Nat → Bool) (k : Nat) : cnt (fun i => S i || T i) k + cnt (fun i => S i && T i) k = cnt S k + cnt T k ∧ cnt (fun i => S i != T i) k + cnt (fun i => S i && T i) k = cnt (fun i => S i || T i) k := by
  induction k with
  | zero => exact ⟨rfl, rfl⟩
  | succ k ih =>
    obtain ⟨i1, i2⟩ := ih
    unfold cnt
    cases S k <;> cases T k <;> simp <;> omega
theorem has_is (v : Bool) (A : Option Addr) (n c : Nat) (l : List (Int × Int)) (i : Int) (w : World) (hr : Runs w A n c l) (hn : n ≤ 9223372036854775807) (h : hasB l i = v) :
    Calls Try.prog 27 #[.slice A n c, .int .i64 i] w fun e w' => e = .returned (.bool v) ∧ Below w.heap.size w w' := by subst h; exact has_any A n c l i w hr hn
theorem may_is (v : Bool) (A : Option Addr) (n c : Nat) (l : List (Int × Int)) (x : Int) (w : World) (hr : Runs w A n c l) (hn : n ≤ 9223372036854775807) (h : mayB l x = v) :
    Calls Try.prog 22 #[.slice A n c, .int .i64 x] w fun e w' => e = .returned (.bool v) ∧ Below w.heap.size w w' := by subst h; exact may_any A n c l x w hr hn

set_option maxRecDepth 100000 in
set_option maxHeartbeats 6400000 in
theorem places_law (A : Option Addr) (n c : Nat) (ns : Nat → Int) (B : Option Addr) (n2 c2 : Nat) (ns2 : Nat → Int) (by_ : Int) (w : World) (hr : Ints w A n c ns) (hn : n ≤ 9223372036854775807) (hr2 : Ints w B n2 c2 ns2) (hn2 : n2 ≤ 9223372036854775807) (hy : -9223372036854775808 ≤ by_ ∧ by_ ≤ 9223372036854775807) :
    Calls Try.prog 8 #[.slice A n c, .slice B n2 c2, .int .i64 by_] w fun e w' => e = .returned (.bool true) ∧ Below w.heap.size w w' := by
  go_enter Try.func8, Try.ntmps8
  go_wp2_with (go_at_call 9; refine (known_any _).mono ?_; rintro e w1 ⟨rfl, hb1⟩)
  have H := hb1
  replace hr := hr.below hb1
  replace hr2 := hr2.below hb1
  clear hb1
  refine (few_any A n c ns _ hr hn).mono ?_
  rintro e w2 ⟨l, P2, f2, rfl, hl, hlen, hin, hb2⟩
  replace H := btrans H hb2
  replace hr2 := hr2.below hb2
  clear hb2 hr hin
  go_wp2_with fail
  refine (few_any B n2 c2 ns2 _ hr2 hn2).mono ?_
  rintro e w3 ⟨m, P3, f3, rfl, hm, hlen2, hin2, hb3⟩
  replace H := btrans H hb3
  replace hl := hl.below hb3
  clear hb3 hr2 hin2
  go_wp2_with fail
  refine (place_in by_ 90 _ (by omega) (by omega)).mono ?_
  rintro e w' ⟨q, rfl, q0, q1, rfl⟩
  obtain ⟨v, hv, v0, v1⟩ : ∃ v : Int, q - 45 = v ∧ -45 ≤ v ∧ v ≤ 44 := ⟨_, rfl, by omega, by omega⟩
  go_wp2_with fail
  clear hv
  refine (join_any _ _ _ _ _ _ l m _ hl hm (by omega) (by omega)).mono ?_
  rintro e w4 ⟨P4, f4, rfl, hj, hb4⟩
  replace hl := hl.below hb4
  replace hm := hm.below hb4
  replace H := btrans H hb4
  clear hb4
  go_wp2_with fail
  refine (meet_any _ _ _ _ _ _ l m _ hl hm (by omega) (by omega)).mono ?_
  rintro e w5 ⟨P5, f5, rfl, hme, hb5⟩
  replace hl := hl.below hb5
  replace hm := hm.below hb5
  replace hj := hj.below hb5
  replace H := btrans H hb5
  clear hb5
  go_wp2_with fail
  refine (less_any _ _ _ _ _ _ l m _ hl hm (by omega) (by omega)).mono ?_
  rintro e w6 ⟨P6, f6, rfl, hle, hb6⟩
  replace hl := hl.below hb6
  replace hm := hm.below hb6
  replace hj := hj.below hb6
  replace hme := hme.below hb6
  replace H := btrans H hb6
  clear hb6
  go_wp2_with fail
  refine (other_any _ _ _ _ _ _ l m _ hl hm (by omega) (by omega)).mono ?_
  rintro e w7 ⟨P7, f7, rfl, ho, hb7⟩
  replace hl := hl.below hb7
  replace hm := hm.below hb7
  replace hj := hj.below hb7
  replace hme := hme.below hb7
  replace hle := hle.below hb7
  replace H := btrans H hb7
  clear hb7
  go_wp2_with fail
  refine (not_any _ _ _ l 50 _ hl (by omega)).mono ?_
  rintro e w8 ⟨P8, f8, rfl, ht, hb8⟩
  replace hl := hl.below hb8
  replace hm := hm.below hb8
  replace hj := hj.below hb8
  replace hme := hme.below hb8
  replace hle := hle.below hb8
  replace ho := ho.below hb8
  replace H := btrans H hb8
  clear hb8
  go_wp2_with fail
  refine (shift_any _ _ _ l v 50 _ hl (by omega)).mono ?_
  rintro e w9 ⟨P9, f9, rfl, hs, hb9⟩
  replace hl := hl.below hb9
  replace hm := hm.below hb9
  replace hj := hj.below hb9
  replace hme := hme.below hb9
  replace hle := hle.below hb9
  replace ho := ho.below hb9
  replace ht := ht.below hb9
  replace H := btrans H hb9
  clear hb9
  go_wp2_with fail
  refine (may_is true _ _ _ _ 64 _ hj (two_short _ _ _) (may_two _ _ _)).mono ?_
  rintro e w10 ⟨rfl, hb10⟩
  replace hl := hl.below hb10
  replace hm := hm.below hb10
  replace hj := hj.below hb10
  replace hme := hme.below hb10
  replace hle := hle.below hb10
  replace ho := ho.below hb10
  replace ht := ht.below hb10
  replace hs := hs.below hb10
  replace H := btrans H hb10
  clear hb10
  go_wp2_with fail
  refine (may_is true _ _ _ _ 64 _ hme (two_short _ _ _) (may_two _ _ _)).mono ?_
  rintro e w11 ⟨rfl, hb11⟩
  replace hl := hl.below hb11
  replace hm := hm.below hb11
  replace hj := hj.below hb11
  replace hme := hme.below hb11
  replace hle := hle.below hb11
  replace ho := ho.below hb11
  replace ht := ht.below hb11
  replace hs := hs.below hb11
  replace H := btrans H hb11
  clear hb11
  go_wp2_with fail
  refine (may_is true _ _ _ _ 64 _ hle (two_short _ _ _) (may_two _ _ _)).mono ?_
  rintro e w12 ⟨rfl, hb12⟩
  replace hl := hl.below hb12
  replace hm := hm.below hb12
  replace hj := hj.below hb12
  replace hme := hme.below hb12
  replace hle := hle.below hb12
  replace ho := ho.below hb12
  replace ht := ht.below hb12
  replace hs := hs.below hb12
  replace H := btrans H hb12
  clear hb12
  go_wp2_with fail
  refine (may_is true _ _ _ _ 64 _ ho (two_short _ _ _) (may_two _ _ _)).mono ?_
  rintro e w13 ⟨rfl, hb13⟩
  replace hl := hl.below hb13
  replace hm := hm.below hb13
  replace hj := hj.below hb13
  replace hme := hme.below hb13
  replace hle := hle.below hb13
  replace ho := ho.below hb13
  replace ht := ht.below hb13
  replace hs := hs.below hb13
  replace H := btrans H hb13
  clear hb13
  go_wp2_with fail
  refine (may_is true _ _ _ _ 50 _ ht (notL_short _ _) (may_not _)).mono ?_
  rintro e w14 ⟨rfl, hb14⟩
  replace hl := hl.below hb14
  replace hm := hm.below hb14
  replace hj := hj.below hb14
  replace hme := hme.below hb14
  replace hle := hle.below hb14
  replace ho := ho.below hb14
  replace ht := ht.below hb14
  replace hs := hs.below hb14
  replace H := btrans H hb14
  clear hb14
  go_wp2_with fail
  refine (may_is true _ _ _ _ 50 _ hs (shift_short _ _ _) (may_shift _ _ (by omega))).mono ?_
  rintro e w15 ⟨rfl, hb15⟩
  replace hl := hl.below hb15
  replace hm := hm.below hb15
  replace hj := hj.below hb15
  replace hme := hme.below hb15
  replace hle := hle.below hb15
  replace ho := ho.below hb15
  replace ht := ht.below hb15
  replace hs := hs.below hb15
  replace H := btrans H hb15
  clear hb15
  go_wp2_with fail
  go_loopw [16] (fun iv wr => ∃ i : Nat, i ≤ 50 ∧ iv = .int .i64 i ∧ Below w15.heap.size w15 wr) (fun iv _ => 50 - (intOf iv).toNat)
  case atStart => exact ⟨0, by omega, rfl, Below.refl _ _⟩
  case round =>
    obtain ⟨i, hi, rfl, hbw⟩ := hrel
    replace H := btrans H hbw
    replace hl := hl.below hbw
    replace hm := hm.below hbw
    replace hj := hj.below hbw
    replace hme := hme.below hbw
    replace hle := hle.below hbw
    replace ho := ho.below hbw
    replace ht := ht.below hbw
    replace hs := hs.below hbw
    by_cases hlt : i < 50
    · have Hj := Lib.hid (has_two (fun x y => x || y) l m i hlt)
      have Hme := Lib.hid (has_two (fun x y => x && y) l m i hlt)
      have Hle := Lib.hid (has_two (fun x y => x && !y) l m i hlt)
      have Ho := Lib.hid (has_two (fun x y => x != y) l m i hlt)
      have Ht := Lib.hid (has_not l i hlt)
      have Hs := Lib.hid (has_shift l v (by omega) i hlt)
      obtain ⟨x, Hx⟩ : ∃ x, Hid (hasB l i = x) := ⟨_, rfl⟩
      obtain ⟨y, Hy⟩ : ∃ y, Hid (hasB m i = y) := ⟨_, rfl⟩
      obtain ⟨z, Hz⟩ : ∃ z, Hid (hasB l ((i : Int) - v) = z) := ⟨_, rfl⟩
      have Hj := Lib.hid (Hj.out.trans (by rw [Hx.out, Hy.out]))
      have Hme := Lib.hid (Hme.out.trans (by rw [Hx.out, Hy.out]))
      have Hle := Lib.hid (Hle.out.trans (by rw [Hx.out, Hy.out]))
      have Ho := Lib.hid (Ho.out.trans (by rw [Hx.out, Hy.out]))
      have Ht := Lib.hid (Ht.out.trans (by rw [Hx.out]))
      have Hs := Lib.hid (Hs.out.trans Hz.out)
      cases x <;> cases y <;> cases z
      all_goals
        have B0 := Below.refl w15.heap.size w15
        clear B0
        have hbl := hbw
        go_wp2_with fail
        refine (has_is _ _ _ _ _ (i : Int) _ hl (by omega) Hx.out).mono ?_
        rintro e w101 ⟨rfl, hb101⟩
        replace hl := hl.below hb101
        replace hm := hm.below hb101
        replace hj := hj.below hb101
        replace hme := hme.below hb101
        replace hle := hle.below hb101
        replace ho := ho.below hb101
        replace ht := ht.below hb101
        replace hs := hs.below hb101
        replace H := btrans H hb101
        replace hbl := btrans hbl hb101
        clear hb101
        go_wp2_with fail
        refine (has_is _ _ _ _ _ (i : Int) _ hm (by omega) Hy.out).mono ?_
        rintro e w102 ⟨rfl, hb102⟩
        replace hl := hl.below hb102
        replace hm := hm.below hb102
        replace hj := hj.below hb102
        replace hme := hme.below hb102
        replace hle := hle.below hb102
        replace ho := ho.below hb102
        replace ht := ht.below hb102
        replace hs := hs.below hb102
        replace H := btrans H hb102
        replace hbl := btrans hbl hb102
        clear hb102
        go_wp2_with fail
        refine (has_is _ _ _ _ _ (i : Int) _ hj (two_short _ _ _) Hj.out).mono ?_
        rintro e w103 ⟨rfl, hb103⟩
        replace hl := hl.below hb103
        replace hm := hm.below hb103
        replace hj := hj.below hb103
        replace hme := hme.below hb103
        replace hle := hle.below hb103
        replace ho := ho.below hb103
        replace ht := ht.below hb103
        replace hs := hs.below hb103
        replace H := btrans H hb103
        replace hbl := btrans hbl hb103
        clear hb103
        go_wp2_with fail
        refine (has_is _ _ _ _ _ (i : Int) _ hme (two_short _ _ _) Hme.out).mono ?_
        rintro e w104 ⟨rfl, hb104⟩
        replace hl := hl.below hb104
        replace hm := hm.below hb104
        replace hj := hj.below hb104
        replace hme := hme.below hb104
        replace hle := hle.below hb104
        replace ho := ho.below hb104
        replace ht := ht.below hb104
        replace hs := hs.below hb104
        replace H := btrans H hb104
        replace hbl := btrans hbl hb104
        clear hb104
        go_wp2_with fail
        refine (has_is _ _ _ _ _ (i : Int) _ hle (two_short _ _ _) Hle.out).mono ?_
        rintro e w105 ⟨rfl, hb105⟩
        replace hl := hl.below hb105
        replace hm := hm.below hb105
        replace hj := hj.below hb105
        replace hme := hme.below hb105
        replace hle := hle.below hb105
        replace ho := ho.below hb105
        replace ht := ht.below hb105
        replace hs := hs.below hb105
        replace H := btrans H hb105
        replace hbl := btrans hbl hb105
        clear hb105
        go_wp2_with fail
        refine (has_is _ _ _ _ _ (i : Int) _ ho (two_short _ _ _) Ho.out).mono ?_
        rintro e w106 ⟨rfl, hb106⟩
        replace hl := hl.below hb106
        replace hm := hm.below hb106
        replace hj := hj.below hb106
        replace hme := hme.below hb106
        replace hle := hle.below hb106
        replace ho := ho.below hb106
        replace ht := ht.below hb106
        replace hs := hs.below hb106
        replace H := btrans H hb106
        replace hbl := btrans hbl hb106
        clear hb106
        go_wp2_with fail
        refine (has_is _ _ _ _ _ (i : Int) _ ht (notL_short _ _) Ht.out).mono ?_
        rintro e w107 ⟨rfl, hb107⟩
        replace hl := hl.below hb107
        replace hm := hm.below hb107
        replace hj := hj.below hb107
        replace hme := hme.below hb107
        replace hle := hle.below hb107
        replace ho := ho.below hb107
        replace ht := ht.below hb107
        replace hs := hs.below hb107
        replace H := btrans H hb107
        replace hbl := btrans hbl hb107
        clear hb107
        go_wp2_with fail
        refine (has_is _ _ _ _ _ (i : Int) _ hs (shift_short _ _ _) Hs.out).mono ?_
        rintro e w108 ⟨rfl, hb108⟩
        replace hl := hl.below hb108
        replace hm := hm.below hb108
        replace hj := hj.below hb108
        replace hme := hme.below hb108
        replace hle := hle.below hb108
        replace ho := ho.below hb108
        replace ht := ht.below hb108
        replace hs := hs.below hb108
        replace H := btrans H hb108
        replace hbl := btrans hbl hb108
        clear hb108
        go_wp2_with fail
        refine (has_is _ _ _ _ _ ((i : Int) - v) _ hl (by omega) Hz.out).mono ?_
        rintro e w109 ⟨rfl, hb109⟩
        replace hl := hl.below hb109
        replace hm := hm.below hb109
        replace hj := hj.below hb109
        replace hme := hme.below hb109
        replace hle := hle.below hb109
        replace ho := ho.below hb109
        replace ht := ht.below hb109
        replace hs := hs.below hb109
        replace H := btrans H hb109
        replace hbl := btrans hbl hb109
        clear hb109
        go_wp2_with fail
        go_roundw
        case rel => exact ⟨i + 1, by omega, by go_num, hbl⟩
        case measure => simp [intOf]; omega
    · obtain rfl : i = 50 := by omega
      have s1 := cnt_sum (inRuns l) (inRuns m) 64
      have r1 := cnt_two (fun x y => x || y) l m
      have r2 := cnt_two (fun x y => x && y) l m
      have r3 := cnt_two (fun x y => x != y) l m
      rw [← r1, ← r2, ← r3] at s1
      obtain ⟨X, CX⟩ : ∃ X, Hid (cnt (inRuns l) 64 = X) := ⟨_, rfl⟩
      obtain ⟨Y, CY⟩ : ∃ X, Hid (cnt (inRuns m) 64 = X) := ⟨_, rfl⟩
      obtain ⟨J, CJ⟩ : ∃ X, Hid (cnt (inRuns (two (fun x y => x || y) l m)) 64 = X) := ⟨_, rfl⟩
      obtain ⟨M, CM⟩ : ∃ X, Hid (cnt (inRuns (two (fun x y => x && y) l m)) 64 = X) := ⟨_, rfl⟩
      obtain ⟨O, CO⟩ : ∃ X, Hid (cnt (inRuns (two (fun x y => x != y) l m)) 64 = X) := ⟨_, rfl⟩
      have cX : X ≤ 64 := CX.out ▸ cnt_le _ _
      have cY : Y ≤ 64 := CY.out ▸ cnt_le _ _
      have cJ : J ≤ 64 := CJ.out ▸ cnt_le _ _
      have cM : M ≤ 64 := CM.out ▸ cnt_le _ _
      have cO : O ≤ 64 := CO.out ▸ cnt_le _ _
      rw [CX.out, CY.out, CJ.out, CM.out, CO.out] at s1
      obtain ⟨s1, s2⟩ := s1
      have t1 : ((J : Int) + (M : Int) == (X : Int) + (Y : Int)) = true := by rw [beq_iff_eq]; omega
      have t2 : ((O : Int) + (M : Int) == (J : Int)) = true := by rw [beq_iff_eq]; omega
      clear s1 s2 r1 r2 r3
      go_wp2_with fail
      refine (count_is J _ _ _ _ _ hj (two_short _ _ _) CJ.out).mono ?_
      rintro e w201 ⟨rfl, hb201⟩
      replace hl := hl.below hb201
      replace hm := hm.below hb201
      replace hj := hj.below hb201
      replace hme := hme.below hb201
      replace ho := ho.below hb201
      replace H := btrans H hb201
      clear hb201
      go_wp2_with fail
      refine (count_is M _ _ _ _ _ hme (two_short _ _ _) CM.out).mono ?_
      rintro e w202 ⟨rfl, hb202⟩
      replace hl := hl.below hb202
      replace hm := hm.below hb202
      replace hj := hj.below hb202
      replace hme := hme.below hb202
      replace ho := ho.below hb202
      replace H := btrans H hb202
      clear hb202
      go_wp2_with fail
      refine (count_is X _ _ _ _ _ hl (by omega) CX.out).mono ?_
      rintro e w203 ⟨rfl, hb203⟩
      replace hl := hl.below hb203
      replace hm := hm.below hb203
      replace hj := hj.below hb203
      replace hme := hme.below hb203
      replace ho := ho.below hb203
      replace H := btrans H hb203
      clear hb203
      go_wp2_with fail
      refine (count_is Y _ _ _ _ _ hm (by omega) CY.out).mono ?_
      rintro e w204 ⟨rfl, hb204⟩
      replace hl := hl.below hb204
      replace hm := hm.below hb204
      replace hj := hj.below hb204
      replace hme := hme.below hb204
      replace ho := ho.below hb204
      replace H := btrans H hb204
      clear hb204
      go_wp2_with fail
      refine (count_is O _ _ _ _ _ ho (two_short _ _ _) CO.out).mono ?_
      rintro e w205 ⟨rfl, hb205⟩
      replace hl := hl.below hb205
      replace hm := hm.below hb205
      replace hj := hj.below hb205
      replace hme := hme.below hb205
      replace ho := ho.below hb205
      replace H := btrans H hb205
      clear hb205
      go_wp2_with fail
      refine (count_is M _ _ _ _ _ hme (two_short _ _ _) CM.out).mono ?_
      rintro e w206 ⟨rfl, hb206⟩
      replace hl := hl.below hb206
      replace hm := hm.below hb206
      replace hj := hj.below hb206
      replace hme := hme.below hb206
      replace ho := ho.below hb206
      replace H := btrans H hb206
      clear hb206
      go_wp2_with fail
      refine (count_is J _ _ _ _ _ hj (two_short _ _ _) CJ.out).mono ?_
      rintro e w207 ⟨rfl, hb207⟩
      replace hl := hl.below hb207
      replace hm := hm.below hb207
      replace hj := hj.below hb207
      replace hme := hme.below hb207
      replace ho := ho.below hb207
      replace H := btrans H hb207
      clear hb207
      go_wp2_with fail
      refine (has_is false _ _ _ _ (-1) _ hl (by omega) (has_neg l)).mono ?_
      rintro e w208 ⟨rfl, hb208⟩
      replace hl := hl.below hb208
      replace hm := hm.below hb208
      replace hj := hj.below hb208
      replace hme := hme.below hb208
      replace ho := ho.below hb208
      replace H := btrans H hb208
      clear hb208
      go_wp2_with fail
      refine (has_is false _ _ _ _ 64 _ hl (by omega) (has_end l)).mono ?_
      rintro e w209 ⟨rfl, hb209⟩
      replace hl := hl.below hb209
      replace hm := hm.below hb209
      replace hj := hj.below hb209
      replace hme := hme.below hb209
      replace ho := ho.below hb209
      replace H := btrans H hb209
      clear hb209
      go_wp2_with fail
      go_ret
      exact ⟨rfl, H⟩
end Go.Proofs.Ytaimijgjpjhppaa.sp
