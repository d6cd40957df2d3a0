/-
  Layer 30: the law SpanLaws. (printed by gen_spanlaws.py)
-/
import Derived.Test.YtaimijgjpjhppaaLawTwo
namespace Go.Proofs.Ytaimijgjpjhppaa.sp
set_option linter.unusedVariables false
set_option linter.unusedSimpArgs false
open Go.RowKit bs

theorem inRuns_two (h : Bool → Bool → Bool) (l k : List (Int × Int)) (i : Nat) (hi : i < 64) : inRuns (two h l k) i = h (inRuns l i) (inRuns k i) := by
  unfold two; rw [inRuns_rl]; simp [hi]
theorem inRuns_notL (l : List (Int × Int)) (i : Nat) (hi : i < 64) : inRuns (notL l 64) i = !inRuns l i := by
  unfold notL; rw [inRuns_rl]; simp; intros; omega
theorem notL_64 (l : List (Int × Int)) : notL l 64 = rl (fun i => !inRuns l i) 64 := rfl
theorem norm_64 (l : List (Int × Int)) : norm l 64 = rl (inRuns l) 64 := rfl
theorem eq1 (l k : List (Int × Int)) : two (fun x y => x || y) l k = two (fun x y => x || y) k l := rl_ext 64 fun i hi => Bool.or_comm _ _
theorem eq2 (l k : List (Int × Int)) : two (fun x y => x && y) l k = two (fun x y => x && y) k l := rl_ext 64 fun i hi => Bool.and_comm _ _
theorem eq3 (l k : List (Int × Int)) : two (fun x y => x != y) (two (fun x y => x != y) l k) k = norm l 64 := by
  rw [norm_64]; refine rl_ext 64 fun i hi => ?_
  show (inRuns (two (fun x y => x != y) l k) i != inRuns k i) = _
  rw [inRuns_two _ _ _ i hi]; cases inRuns l i <;> cases inRuns k i <;> rfl
theorem eq4 (l k j : List (Int × Int)) : two (fun x y => x || y) (two (fun x y => x || y) l k) j = two (fun x y => x || y) l (two (fun x y => x || y) k j) := by
  refine rl_ext 64 fun i hi => ?_
  show (inRuns (two _ l k) i || inRuns j i) = (inRuns l i || inRuns (two _ k j) i)
  rw [inRuns_two _ _ _ i hi, inRuns_two _ _ _ i hi, Bool.or_assoc]
theorem eq5 (l k j : List (Int × Int)) : two (fun x y => x && y) l (two (fun x y => x || y) k j) = two (fun x y => x || y) (two (fun x y => x && y) l k) (two (fun x y => x && y) l j) := by
  refine rl_ext 64 fun i hi => ?_
  show (inRuns l i && inRuns (two _ k j) i) = (inRuns (two _ l k) i || inRuns (two _ l j) i)
  rw [inRuns_two _ _ _ i hi, inRuns_two _ _ _ i hi, inRuns_two _ _ _ i hi]; cases inRuns l i <;> cases inRuns k i <;> rfl
theorem eq6 (l : List (Int × Int)) : notL (notL l 64) 64 = norm l 64 := by
  rw [norm_64, notL_64 (notL l 64)]; refine rl_ext 64 fun i hi => ?_
  show (!inRuns (notL l 64) i) = _
  rw [inRuns_notL _ i hi, Bool.not_not]
theorem eq7 (l k : List (Int × Int)) : notL (two (fun x y => x || y) l k) 64 = two (fun x y => x && y) (notL l 64) (notL k 64) := by
  rw [notL_64 (two _ l k)]; refine rl_ext 64 fun i hi => ?_
  show (!inRuns (two _ l k) i) = (inRuns (notL l 64) i && inRuns (notL k 64) i)
  rw [inRuns_two _ _ _ i hi, inRuns_notL _ i hi, inRuns_notL _ i hi, Bool.not_or]
theorem eq8 (l : List (Int × Int)) : two (fun x y => x && y) l (notL l 64) = [] := by
  rw [← rl_none 64]; refine rl_ext 64 fun i hi => ?_
  show (inRuns l i && inRuns (notL l 64) i) = false
  rw [inRuns_notL _ i hi]; cases inRuns l i <;> rfl
theorem cnt_not (S T : Nat → Bool) (k : Nat) (h : ∀ i, i < k → T i = !S i) : cnt S k + cnt T k = k := by
  induction k with
  | zero => rfl
  | succ k ih =>
    have e := ih fun i hi => h i (by omega)
    unfold cnt
    rw [h k (by omega)]
    cases S k <;> simp <;> omega
theorem eq9 (l : List (Int × Int)) : cnt (inRuns l) 64 + cnt (inRuns (notL l 64)) 64 = 64 := cnt_not _ _ 64 fun i hi => inRuns_notL l i hi
theorem eq11 (l k : List (Int × Int)) : two (fun x y => x && !y) l k = two (fun x y => x && y) l (notL k 64) := by
  refine rl_ext 64 fun i hi => ?_
  show (inRuns l i && !inRuns k i) = (inRuns l i && inRuns (notL k 64) i)
  rw [inRuns_notL _ i hi]

theorem count_is (v : Nat) (A : Option Addr) (n c : Nat) (l : List (Int × Int)) (w : World) (hr : Runs w A n c l) (hn : n ≤ 9223372036854775807) (h : cnt (inRuns l) 64 = v) :
    Calls Try.prog 20 #[.slice A n c] w fun e w' => e = .returned (.int .i64 v) ∧ Below w.heap.size w w' := by subst h; exact count_any A n c l w hr hn
theorem meet_none (A B : Option Addr) (n c m d : Nat) (l k : List (Int × Int)) (w : World) (hl : Runs w A n c l) (hk : Runs w B m d k) (hn : n ≤ 9223372036854775807) (hm : m ≤ 9223372036854775807) (h : two (fun x y => x && y) l k = []) :
    Calls Try.prog 13 #[.slice A n c, .slice B m d] w fun e w' => ∃ A' c', e = .returned (.slice A' 0 c') ∧ Below w.heap.size w w' :=
  (meet_any A B n c m d l k w hl hk hn hm).mono fun e w' ⟨A', c', he, _, hb⟩ => ⟨A', c', by rw [he, h]; rfl, hb⟩

set_option maxRecDepth 100000 in
set_option maxHeartbeats 3200000 in
theorem laws_law (A : Option Addr) (n c : Nat) (l : List (Int × Int)) (B : Option Addr) (m d : Nat) (k : List (Int × Int)) (C : Option Addr) (o e : Nat) (j : List (Int × Int)) (w : World) (hl : Runs w A n c l) (hn : n ≤ 9223372036854775807) (hk : Runs w B m d k) (hm : m ≤ 9223372036854775807) (hj : Runs w C o e j) (ho : o ≤ 9223372036854775807) :
    Calls Try.prog 5 #[.slice A n c, .slice B m d, .slice C o e] w fun e w' => e = .returned (.bool true) ∧ Below w.heap.size w w' := by
  by_cases hbig : 100 < n ∨ 100 < m ∨ 100 < o
  · have h1 : 100 < n ∨ (n ≤ 100 ∧ 100 < m) ∨ (n ≤ 100 ∧ m ≤ 100 ∧ 100 < o) := by omega
    clear hbig
    rcases h1 with h1 | ⟨h1, h2⟩ | ⟨h1, h2, h3⟩
    all_goals
      go_enter Try.func5, Try.ntmps5
      go_wp2_with (go_at_call 9; refine (known_any _).mono ?_; rintro e w1 ⟨rfl, hb1⟩)
      go_ret
      exact ⟨rfl, hb1⟩
  · have h1 : n ≤ 100 := by omega
    have h2 : m ≤ 100 := by omega
    have h3 : o ≤ 100 := by omega
    clear hbig
    obtain ⟨X, Y, hX, hY, hXY⟩ : ∃ X Y : Nat, cnt (inRuns l) 64 = X ∧ cnt (inRuns (notL l 64)) 64 = Y ∧ X + Y = 64 := ⟨_, _, rfl, rfl, eq9 l⟩
    have hX64 : X ≤ 64 := by omega
    have hY64 : Y ≤ 64 := by omega
    have hXY1 : ((X : Int) + (Y : Int) == 64) = true := by rw [beq_iff_eq]; omega
    have E1 := Lib.hid (eq1 l k)
    have E2 := Lib.hid (eq2 l k)
    have E3 := Lib.hid (eq3 l k)
    have E4 := Lib.hid (eq4 l k j)
    have E5 := Lib.hid (eq5 l k j)
    have E6 := Lib.hid (eq6 l)
    have E7 := Lib.hid (eq7 l k)
    have E8 := Lib.hid (eq8 l)
    have E9 := Lib.hid hX
    have E10 := Lib.hid hY
    have E11 := Lib.hid (eq11 l k)
    clear hX hY hXY
    go_enter Try.func5, Try.ntmps5
    go_wp2_with (go_at_call 9; refine (known_any _).mono ?_; rintro e w1 ⟨rfl, hb1⟩)
    have H := hb1
    replace hl := hl.below hb1
    replace hk := hk.below hb1
    replace hj := hj.below hb1
    clear hb1
    refine (join_any _ _ _ _ _ _ _ _ _ hl hk (hn) (hm)).mono ?_
    rintro e w2 ⟨P2, f2, rfl, hr2, hb2⟩
    replace hl := hl.below hb2
    replace hk := hk.below hb2
    replace hj := hj.below hb2
    replace H := btrans H hb2
    clear hb2
    go_wp2_with fail
    refine (join_any _ _ _ _ _ _ _ _ _ hk hl (hm) (hn)).mono ?_
    rintro e w3 ⟨P3, f3, rfl, hr3, hb3⟩
    replace hl := hl.below hb3
    replace hk := hk.below hb3
    replace hj := hj.below hb3
    replace hr2 := hr2.below hb3
    replace H := btrans H hb3
    clear hb3
    go_wp2_with fail
    refine (same_yes _ _ _ _ _ _ _ _ _ hr2 hr3 (two_short _ _ _) (two_short _ _ _) E1.out).mono ?_
    rintro e w4 ⟨rfl, hb4⟩
    clear hr2
    clear hr3
    replace hl := hl.below hb4
    replace hk := hk.below hb4
    replace hj := hj.below hb4
    replace H := btrans H hb4
    clear hb4
    go_wp2_with fail
    refine (meet_any _ _ _ _ _ _ _ _ _ hl hk (hn) (hm)).mono ?_
    rintro e w5 ⟨P5, f5, rfl, hr5, hb5⟩
    replace hl := hl.below hb5
    replace hk := hk.below hb5
    replace hj := hj.below hb5
    replace H := btrans H hb5
    clear hb5
    go_wp2_with fail
    refine (meet_any _ _ _ _ _ _ _ _ _ hk hl (hm) (hn)).mono ?_
    rintro e w6 ⟨P6, f6, rfl, hr6, hb6⟩
    replace hl := hl.below hb6
    replace hk := hk.below hb6
    replace hj := hj.below hb6
    replace hr5 := hr5.below hb6
    replace H := btrans H hb6
    clear hb6
    go_wp2_with fail
    refine (same_yes _ _ _ _ _ _ _ _ _ hr5 hr6 (two_short _ _ _) (two_short _ _ _) E2.out).mono ?_
    rintro e w7 ⟨rfl, hb7⟩
    clear hr5
    clear hr6
    replace hl := hl.below hb7
    replace hk := hk.below hb7
    replace hj := hj.below hb7
    replace H := btrans H hb7
    clear hb7
    go_wp2_with fail
    refine (other_any _ _ _ _ _ _ _ _ _ hl hk (hn) (hm)).mono ?_
    rintro e w8 ⟨P8, f8, rfl, hr8, hb8⟩
    replace hl := hl.below hb8
    replace hk := hk.below hb8
    replace hj := hj.below hb8
    replace H := btrans H hb8
    clear hb8
    go_wp2_with fail
    refine (other_any _ _ _ _ _ _ _ _ _ hr8 hk (two_short _ _ _) (hm)).mono ?_
    rintro e w9 ⟨P9, f9, rfl, hr9, hb9⟩
    replace hl := hl.below hb9
    replace hk := hk.below hb9
    replace hj := hj.below hb9
    replace hr8 := hr8.below hb9
    replace H := btrans H hb9
    clear hb9
    go_wp2_with fail
    refine (norm_any _ _ _ _ 64 _ hl (hn)).mono ?_
    rintro e w10 ⟨P10, f10, rfl, hr10, hb10⟩
    replace hl := hl.below hb10
    replace hk := hk.below hb10
    replace hj := hj.below hb10
    replace hr8 := hr8.below hb10
    replace hr9 := hr9.below hb10
    replace H := btrans H hb10
    clear hb10
    go_wp2_with fail
    refine (same_yes _ _ _ _ _ _ _ _ _ hr9 hr10 (two_short _ _ _) (norm_short _ _) E3.out).mono ?_
    rintro e w11 ⟨rfl, hb11⟩
    clear hr8
    clear hr9
    clear hr10
    replace hl := hl.below hb11
    replace hk := hk.below hb11
    replace hj := hj.below hb11
    replace H := btrans H hb11
    clear hb11
    go_wp2_with fail
    refine (join_any _ _ _ _ _ _ _ _ _ hl hk (hn) (hm)).mono ?_
    rintro e w12 ⟨P12, f12, rfl, hr12, hb12⟩
    replace hl := hl.below hb12
    replace hk := hk.below hb12
    replace hj := hj.below hb12
    replace H := btrans H hb12
    clear hb12
    go_wp2_with fail
    refine (join_any _ _ _ _ _ _ _ _ _ hr12 hj (two_short _ _ _) (ho)).mono ?_
    rintro e w13 ⟨P13, f13, rfl, hr13, hb13⟩
    replace hl := hl.below hb13
    replace hk := hk.below hb13
    replace hj := hj.below hb13
    replace hr12 := hr12.below hb13
    replace H := btrans H hb13
    clear hb13
    go_wp2_with fail
    refine (join_any _ _ _ _ _ _ _ _ _ hk hj (hm) (ho)).mono ?_
    rintro e w14 ⟨P14, f14, rfl, hr14, hb14⟩
    replace hl := hl.below hb14
    replace hk := hk.below hb14
    replace hj := hj.below hb14
    replace hr12 := hr12.below hb14
    replace hr13 := hr13.below hb14
    replace H := btrans H hb14
    clear hb14
    go_wp2_with fail
    refine (join_any _ _ _ _ _ _ _ _ _ hl hr14 (hn) (two_short _ _ _)).mono ?_
    rintro e w15 ⟨P15, f15, rfl, hr15, hb15⟩
    replace hl := hl.below hb15
    replace hk := hk.below hb15
    replace hj := hj.below hb15
    replace hr12 := hr12.below hb15
    replace hr13 := hr13.below hb15
    replace hr14 := hr14.below hb15
    replace H := btrans H hb15
    clear hb15
    go_wp2_with fail
    refine (same_yes _ _ _ _ _ _ _ _ _ hr13 hr15 (two_short _ _ _) (two_short _ _ _) E4.out).mono ?_
    rintro e w16 ⟨rfl, hb16⟩
    clear hr12
    clear hr13
    clear hr14
    clear hr15
    replace hl := hl.below hb16
    replace hk := hk.below hb16
    replace hj := hj.below hb16
    replace H := btrans H hb16
    clear hb16
    go_wp2_with fail
    refine (join_any _ _ _ _ _ _ _ _ _ hk hj (hm) (ho)).mono ?_
    rintro e w17 ⟨P17, f17, rfl, hr17, hb17⟩
    replace hl := hl.below hb17
    replace hk := hk.below hb17
    replace hj := hj.below hb17
    replace H := btrans H hb17
    clear hb17
    go_wp2_with fail
    refine (meet_any _ _ _ _ _ _ _ _ _ hl hr17 (hn) (two_short _ _ _)).mono ?_
    rintro e w18 ⟨P18, f18, rfl, hr18, hb18⟩
    replace hl := hl.below hb18
    replace hk := hk.below hb18
    replace hj := hj.below hb18
    replace hr17 := hr17.below hb18
    replace H := btrans H hb18
    clear hb18
    go_wp2_with fail
    refine (meet_any _ _ _ _ _ _ _ _ _ hl hk (hn) (hm)).mono ?_
    rintro e w19 ⟨P19, f19, rfl, hr19, hb19⟩
    replace hl := hl.below hb19
    replace hk := hk.below hb19
    replace hj := hj.below hb19
    replace hr17 := hr17.below hb19
    replace hr18 := hr18.below hb19
    replace H := btrans H hb19
    clear hb19
    go_wp2_with fail
    refine (meet_any _ _ _ _ _ _ _ _ _ hl hj (hn) (ho)).mono ?_
    rintro e w20 ⟨P20, f20, rfl, hr20, hb20⟩
    replace hl := hl.below hb20
    replace hk := hk.below hb20
    replace hj := hj.below hb20
    replace hr17 := hr17.below hb20
    replace hr18 := hr18.below hb20
    replace hr19 := hr19.below hb20
    replace H := btrans H hb20
    clear hb20
    go_wp2_with fail
    refine (join_any _ _ _ _ _ _ _ _ _ hr19 hr20 (two_short _ _ _) (two_short _ _ _)).mono ?_
    rintro e w21 ⟨P21, f21, rfl, hr21, hb21⟩
    replace hl := hl.below hb21
    replace hk := hk.below hb21
    replace hj := hj.below hb21
    replace hr17 := hr17.below hb21
    replace hr18 := hr18.below hb21
    replace hr19 := hr19.below hb21
    replace hr20 := hr20.below hb21
    replace H := btrans H hb21
    clear hb21
    go_wp2_with fail
    refine (same_yes _ _ _ _ _ _ _ _ _ hr18 hr21 (two_short _ _ _) (two_short _ _ _) E5.out).mono ?_
    rintro e w22 ⟨rfl, hb22⟩
    clear hr17
    clear hr18
    clear hr19
    clear hr20
    clear hr21
    replace hl := hl.below hb22
    replace hk := hk.below hb22
    replace hj := hj.below hb22
    replace H := btrans H hb22
    clear hb22
    go_wp2_with fail
    refine (not_any _ _ _ _ 64 _ hl (hn)).mono ?_
    rintro e w23 ⟨P23, f23, rfl, hr23, hb23⟩
    replace hl := hl.below hb23
    replace hk := hk.below hb23
    replace hj := hj.below hb23
    replace H := btrans H hb23
    clear hb23
    go_wp2_with fail
    refine (not_any _ _ _ _ 64 _ hk (hm)).mono ?_
    rintro e w24 ⟨P24, f24, rfl, hr24, hb24⟩
    replace hl := hl.below hb24
    replace hk := hk.below hb24
    replace hj := hj.below hb24
    replace hr23 := hr23.below hb24
    replace H := btrans H hb24
    clear hb24
    go_wp2_with fail
    refine (not_any _ _ _ _ 64 _ hr23 (notL_short _ _)).mono ?_
    rintro e w25 ⟨P25, f25, rfl, hr25, hb25⟩
    replace hl := hl.below hb25
    replace hk := hk.below hb25
    replace hj := hj.below hb25
    replace hr23 := hr23.below hb25
    replace hr24 := hr24.below hb25
    replace H := btrans H hb25
    clear hb25
    go_wp2_with fail
    refine (norm_any _ _ _ _ 64 _ hl (hn)).mono ?_
    rintro e w26 ⟨P26, f26, rfl, hr26, hb26⟩
    replace hl := hl.below hb26
    replace hk := hk.below hb26
    replace hj := hj.below hb26
    replace hr23 := hr23.below hb26
    replace hr24 := hr24.below hb26
    replace hr25 := hr25.below hb26
    replace H := btrans H hb26
    clear hb26
    go_wp2_with fail
    refine (same_yes _ _ _ _ _ _ _ _ _ hr25 hr26 (notL_short _ _) (norm_short _ _) E6.out).mono ?_
    rintro e w27 ⟨rfl, hb27⟩
    clear hr25
    clear hr26
    replace hl := hl.below hb27
    replace hk := hk.below hb27
    replace hj := hj.below hb27
    replace hr23 := hr23.below hb27
    replace hr24 := hr24.below hb27
    replace H := btrans H hb27
    clear hb27
    go_wp2_with fail
    refine (join_any _ _ _ _ _ _ _ _ _ hl hk (hn) (hm)).mono ?_
    rintro e w28 ⟨P28, f28, rfl, hr28, hb28⟩
    replace hl := hl.below hb28
    replace hk := hk.below hb28
    replace hj := hj.below hb28
    replace hr23 := hr23.below hb28
    replace hr24 := hr24.below hb28
    replace H := btrans H hb28
    clear hb28
    go_wp2_with fail
    refine (not_any _ _ _ _ 64 _ hr28 (two_short _ _ _)).mono ?_
    rintro e w29 ⟨P29, f29, rfl, hr29, hb29⟩
    replace hl := hl.below hb29
    replace hk := hk.below hb29
    replace hj := hj.below hb29
    replace hr23 := hr23.below hb29
    replace hr24 := hr24.below hb29
    replace hr28 := hr28.below hb29
    replace H := btrans H hb29
    clear hb29
    go_wp2_with fail
    refine (meet_any _ _ _ _ _ _ _ _ _ hr23 hr24 (notL_short _ _) (notL_short _ _)).mono ?_
    rintro e w30 ⟨P30, f30, rfl, hr30, hb30⟩
    replace hl := hl.below hb30
    replace hk := hk.below hb30
    replace hj := hj.below hb30
    replace hr23 := hr23.below hb30
    replace hr24 := hr24.below hb30
    replace hr28 := hr28.below hb30
    replace hr29 := hr29.below hb30
    replace H := btrans H hb30
    clear hb30
    go_wp2_with fail
    refine (same_yes _ _ _ _ _ _ _ _ _ hr29 hr30 (notL_short _ _) (two_short _ _ _) E7.out).mono ?_
    rintro e w31 ⟨rfl, hb31⟩
    clear hr28
    clear hr29
    clear hr30
    replace hl := hl.below hb31
    replace hk := hk.below hb31
    replace hj := hj.below hb31
    replace hr23 := hr23.below hb31
    replace hr24 := hr24.below hb31
    replace H := btrans H hb31
    clear hb31
    go_wp2_with fail
    refine (meet_none _ _ _ _ _ _ _ _ _ hl hr23 (hn) (notL_short _ _) E8.out).mono ?_
    rintro e w32 ⟨P32, f32, rfl, hb32⟩
    replace hl := hl.below hb32
    replace hk := hk.below hb32
    replace hj := hj.below hb32
    replace hr23 := hr23.below hb32
    replace hr24 := hr24.below hb32
    replace H := btrans H hb32
    clear hb32
    go_wp2_with fail
    refine (count_is X _ _ _ _ _ hl (hn) E9.out).mono ?_
    rintro e w33 ⟨rfl, hb33⟩
    replace hl := hl.below hb33
    replace hk := hk.below hb33
    replace hj := hj.below hb33
    replace hr23 := hr23.below hb33
    replace hr24 := hr24.below hb33
    replace H := btrans H hb33
    clear hb33
    go_wp2_with fail
    refine (count_is Y _ _ _ _ _ hr23 (notL_short _ _) E10.out).mono ?_
    rintro e w34 ⟨rfl, hb34⟩
    replace hl := hl.below hb34
    replace hk := hk.below hb34
    replace hj := hj.below hb34
    replace hr23 := hr23.below hb34
    replace hr24 := hr24.below hb34
    replace H := btrans H hb34
    clear hb34
    go_wp2_with fail
    refine (less_any _ _ _ _ _ _ _ _ _ hl hk (hn) (hm)).mono ?_
    rintro e w35 ⟨P35, f35, rfl, hr35, hb35⟩
    replace hl := hl.below hb35
    replace hk := hk.below hb35
    replace hj := hj.below hb35
    replace hr23 := hr23.below hb35
    replace hr24 := hr24.below hb35
    replace H := btrans H hb35
    clear hb35
    go_wp2_with fail
    refine (meet_any _ _ _ _ _ _ _ _ _ hl hr24 (hn) (notL_short _ _)).mono ?_
    rintro e w36 ⟨P36, f36, rfl, hr36, hb36⟩
    replace hl := hl.below hb36
    replace hk := hk.below hb36
    replace hj := hj.below hb36
    replace hr23 := hr23.below hb36
    replace hr24 := hr24.below hb36
    replace hr35 := hr35.below hb36
    replace H := btrans H hb36
    clear hb36
    go_wp2_with fail
    refine (same_yes _ _ _ _ _ _ _ _ _ hr35 hr36 (two_short _ _ _) (two_short _ _ _) E11.out).mono ?_
    rintro e w37 ⟨rfl, hb37⟩
    clear hr35
    clear hr36
    replace hl := hl.below hb37
    replace hk := hk.below hb37
    replace hj := hj.below hb37
    replace hr23 := hr23.below hb37
    replace hr24 := hr24.below hb37
    replace H := btrans H hb37
    clear hb37
    go_wp2_with fail
    go_ret
    exact ⟨rfl, H⟩
end Go.Proofs.Ytaimijgjpjhppaa.sp
