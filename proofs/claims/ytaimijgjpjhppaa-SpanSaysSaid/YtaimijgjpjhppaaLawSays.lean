/-
  Layer 30: the law SpanSays.
-/
import Derived.Test.YtaimijgjpjhppaaRefSays
import Derived.Test.YtaimijgjpjhppaaRefSays2
namespace Go.Proofs.Ytaimijgjpjhppaa.sp
set_option linter.unusedVariables false
set_option linter.unusedSimpArgs false
open Go.RowKit bs

set_option maxRecDepth 100000 in
set_option maxHeartbeats 3200000 in
theorem says_law (A : Option Addr) (n c : Nat) (l : List (Int × Int)) (x i : Int) (w : World) (hr : Runs w A n c l) (hn : n ≤ 9223372036854775807) (hx : -9223372036854775808 ≤ x ∧ x ≤ 9223372036854775807) (hi : -9223372036854775808 ≤ i ∧ i ≤ 9223372036854775807) :
    Calls Try.prog 7 #[.slice A n c, .int .i64 x, .int .i64 i] w fun e w' => e = .returned (.bool true) ∧ Below w.heap.size w w' := by
  obtain ⟨hx0, hx1⟩ := hx
  obtain ⟨hi0, hi1⟩ := hi
  by_cases h1 : 200 < n
  · go_enter Try.func7, Try.ntmps7
    go_wp2_with (go_at_call 9; refine (known_any _).mono ?_; rintro e w1 ⟨rfl, hb1⟩)
    go_ret
    exact ⟨rfl, hb1⟩
  · go_enter Try.func7, Try.ntmps7
    go_wp2_with (go_at_call 9; refine (known_any _).mono ?_; rintro e w1 ⟨rfl, hb1⟩)
    have H := hb1
    replace hr := hr.below hb1
    clear hb1
    refine (may_any A n c l x _ hr hn).mono ?_
    rintro e w2 ⟨rfl, hb2⟩
    replace hr := hr.below hb2
    replace H := btrans H hb2
    clear hb2
    go_wp2_with fail
    refine (rmay_any A n c l x _ hr hn).mono ?_
    rintro e w3 ⟨rfl, hb3⟩
    replace hr := hr.below hb3
    replace H := btrans H hb3
    clear hb3
    go_wp2_with fail
    refine (norm_any A n c l x _ hr hn).mono ?_
    rintro e w4 ⟨P4, f4, rfl, hr4, hb4⟩
    replace hr := hr.below hb4
    replace H := btrans H hb4
    clear hb4
    go_wp2_with fail
    refine (places_any A n c l _ hr hn).mono ?_
    rintro e w5 ⟨rfl, hb5⟩
    replace hr := hr.below hb5
    replace hr4 := hr4.below hb5
    replace H := btrans H hb5
    clear hb5
    go_wp2_with fail
    refine (rruns_any (inRuns l) x _).mono ?_
    rintro e w6 ⟨P6, f6, rfl, hr6, hb6⟩
    replace hr := hr.below hb6
    replace hr4 := hr4.below hb6
    replace H := btrans H hb6
    clear hb6
    go_wp2_with fail
    refine (same_yes _ _ _ _ _ _ _ _ _ hr4 hr6 (norm_short _ _) (norm_short _ _) rfl).mono ?_
    rintro e w7 ⟨rfl, hb7⟩
    replace hr := hr.below hb7
    replace H := btrans H hb7
    clear hb7 hr4 hr6
    go_wp2_with fail
    refine (not_any A n c l x _ hr hn).mono ?_
    rintro e w8 ⟨P8, f8, rfl, hr8, hb8⟩
    replace hr := hr.below hb8
    replace H := btrans H hb8
    clear hb8
    go_wp2_with fail
    refine (rnot_any A n c l x _ hr hn).mono ?_
    rintro e w9 ⟨P9, f9, rfl, hr9, hb9⟩
    replace hr := hr.below hb9
    replace hr8 := hr8.below hb9
    replace H := btrans H hb9
    clear hb9
    go_wp2_with fail
    refine (same_yes _ _ _ _ _ _ _ _ _ hr8 hr9 (notL_short _ _) (notL_short _ _) rfl).mono ?_
    rintro e w10 ⟨rfl, hb10⟩
    replace hr := hr.below hb10
    replace H := btrans H hb10
    clear hb10 hr8 hr9
    go_wp2_with fail
    refine (has_any A n c l i _ hr hn).mono ?_
    rintro e w11 ⟨rfl, hb11⟩
    replace hr := hr.below hb11
    replace H := btrans H hb11
    clear hb11
    go_wp2_with fail
    refine (rhas_any A n c l i _ hr hn).mono ?_
    rintro e w12 ⟨rfl, hb12⟩
    replace hr := hr.below hb12
    replace H := btrans H hb12
    clear hb12
    go_wp2_with fail
    refine (count_any A n c l _ hr hn).mono ?_
    rintro e w13 ⟨rfl, hb13⟩
    replace hr := hr.below hb13
    replace H := btrans H hb13
    clear hb13
    go_wp2_with fail
    refine (rcount_any A n c l _ hr hn).mono ?_
    rintro e w14 ⟨rfl, hb14⟩
    replace hr := hr.below hb14
    replace H := btrans H hb14
    clear hb14
    go_wp2_with fail
    refine (shift_any A n c l i x _ hr hn).mono ?_
    rintro e w15 ⟨P15, f15, rfl, hr15, hb15⟩
    replace hr := hr.below hb15
    replace H := btrans H hb15
    clear hb15
    go_wp2_with fail
    refine (rshift_any A n c l i x _ hr hn).mono ?_
    rintro e w16 ⟨P16, f16, rfl, hr16, hb16⟩
    replace hr15 := hr15.below hb16
    replace H := btrans H hb16
    clear hb16
    go_wp2_with fail
    refine (same_yes _ _ _ _ _ _ _ _ _ hr15 hr16 (shift_short _ _ _) (shift_short _ _ _) rfl).mono ?_
    rintro e w17 ⟨rfl, hb17⟩
    replace H := btrans H hb17
    clear hb17 hr15 hr16
    go_wp2_with fail
    go_ret
    exact ⟨rfl, H⟩
end Go.Proofs.Ytaimijgjpjhppaa.sp
