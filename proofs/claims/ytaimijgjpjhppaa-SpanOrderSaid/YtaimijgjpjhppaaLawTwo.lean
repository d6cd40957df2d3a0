/-
  Layer 30: known() returns true; the law SpanTwo.
-/
import Derived.Test.YtaimijgjpjhppaaTwo
namespace Go.Proofs.Ytaimijgjpjhppaa.sp
set_option linter.unusedVariables false
set_option linter.unusedSimpArgs false
open Go.RowKit bs

theorem Runs.lits (w : World) (l : List (Int × Int)) (t : TypeId) (c : Nat) (hc : l.length ≤ c) : Runs (w.alloc (.cells (flat l).toArray t)) (some ⟨w.heap.size, 0, none⟩) l.length c l := by
  have K := Blk.new w t (flat l).toArray
  refine ⟨rfl, hc, fun _ => ⟨w.heap.size, 0, rfl, K.lt, fun j hj => ?_⟩⟩
  obtain ⟨e1, e2⟩ := flat_get l j hj
  rw [K.cell, K.cell]
  simp only [Nat.zero_add, List.getElem?_toArray]
  exact ⟨e1, e2⟩
theorem same_yes (A B : Option Addr) (n c m d : Nat) (l k : List (Int × Int)) (w : World) (hl : Runs w A n c l) (hk : Runs w B m d k) (hn : n ≤ 9223372036854775807) (hm : m ≤ 9223372036854775807) (h : l = k) :
    Calls Try.prog 10 #[.slice A n c, .slice B m d] w fun e w' => e = .returned (.bool true) ∧ Below w.heap.size w w' :=
  (same_any A B n c m d l k w hl hk hn hm).mono fun e w' ⟨he, hb⟩ => ⟨by rw [he]; simp [h], hb⟩
theorem rl_short (S : Nat → Bool) (k : Nat) (h : k ≤ 64) : (rl S k).length ≤ 9223372036854775807 := by have := (rl_len S k).1; omega
theorem two_short (h : Bool → Bool → Bool) (l m : List (Int × Int)) : (two h l m).length ≤ 9223372036854775807 := rl_short _ 64 (by omega)
theorem norm_short (l : List (Int × Int)) (x : Int) : (norm l x).length ≤ 9223372036854775807 := rl_short _ _ (by omega)
theorem notL_short (l : List (Int × Int)) (x : Int) : (notL l x).length ≤ 9223372036854775807 := rl_short _ _ (by omega)
theorem shift_short (l : List (Int × Int)) (b x : Int) : (shift l b x).length ≤ 9223372036854775807 := by
  unfold shift
  split
  · exact rl_short _ 64 (by omega)
  · exact Nat.zero_le _

theorem k1 : norm [(5, 7), (0, 2), (2, 3)] 6 = [(0, 3), (5, 6)] := by decide +kernel
theorem k2 : two (fun x y => x && !y) [(0, 8)] [(2, 4)] = [(0, 2), (4, 8)] := by decide +kernel
theorem k3 : shift [(0, 3)] (-1) 8 = [(0, 2)] := by decide +kernel

set_option maxRecDepth 100000 in
set_option maxHeartbeats 1600000 in
theorem known_any (w : World) : Calls Try.prog 9 #[] w fun e w' => e = .returned (.bool true) ∧ Below w.heap.size w w' := by
  go_enter Try.func9, Try.ntmps9
  go_wp2_with fail
  refine (norm_any _ 3 3 [(5, 7), (0, 2), (2, 3)] 6 _ (Runs.lits w [(5, 7), (0, 2), (2, 3)] 26 3 (Nat.le_refl _)) (by omega)).mono ?_
  rintro e w1 ⟨A1, c1, rfl, hr1, hb1⟩
  have H1 : Below w.heap.size w w1 := btrans (balloc (Below.refl _ _) _) hb1
  clear hb1
  go_wp2_with fail
  have q1 := Runs.lits w1 [(0, 8)] 26 1 (Nat.le_refl _)
  have q2 := Runs.lits (w1.alloc (.cells #[.int .i64 0, .int .i64 8] 26)) [(2, 4)] 26 1 (Nat.le_refl _)
  rw [show (w1.alloc (.cells #[.int .i64 0, .int .i64 8] 26)).heap.size = w1.heap.size + 1 by simp] at q2
  refine (less_any _ _ 1 1 1 1 [(0, 8)] [(2, 4)] _ (q1.below (balloc (Below.refl _ _) _)) q2 (by omega) (by omega)).mono ?_
  rintro e w2 ⟨A2, c2, rfl, hr2, hb2⟩
  have H2 : Below w1.heap.size w1 w2 := btrans (balloc (balloc (Below.refl _ _) _) _) hb2
  clear hb2 q1 q2
  go_wp2_with fail
  refine (shift_any _ 1 1 [(0, 3)] (-1) 8 _ (Runs.lits w2 [(0, 3)] 26 1 (Nat.le_refl _)) (by omega)).mono ?_
  rintro e w3 ⟨A3, c3, rfl, hr3, hb3⟩
  have H3 : Below w2.heap.size w2 w3 := btrans (balloc (Below.refl _ _) _) hb3
  clear hb3
  go_wp2_with fail
  refine (same_yes A1 _ _ c1 2 2 _ [(0, 3), (5, 6)] _ (hr1.below (balloc (btrans H2 H3) _)) (Runs.lits w3 [(0, 3), (5, 6)] 26 2 (Nat.le_refl _)) (norm_short _ _) (by omega) k1).mono ?_
  rintro e w4 ⟨rfl, hb4⟩
  have H4 : Below w3.heap.size w3 w4 := btrans (balloc (Below.refl _ _) _) hb4
  clear hb4
  go_wp2_with fail
  refine (same_yes A2 _ _ c2 2 2 _ [(0, 2), (4, 8)] _ (hr2.below (balloc (btrans H3 H4) _)) (Runs.lits w4 [(0, 2), (4, 8)] 26 2 (Nat.le_refl _)) (two_short _ _ _) (by omega) k2).mono ?_
  rintro e w5 ⟨rfl, hb5⟩
  have H5 : Below w4.heap.size w4 w5 := btrans (balloc (Below.refl _ _) _) hb5
  clear hb5
  go_wp2_with fail
  refine (same_yes A3 _ _ c3 1 1 _ [(0, 2)] _ (hr3.below (balloc (btrans H4 H5) _)) (Runs.lits w5 [(0, 2)] 26 1 (Nat.le_refl _)) (shift_short _ _ _) (by omega) k3).mono ?_
  rintro e w6 ⟨rfl, hb6⟩
  have H6 : Below w5.heap.size w5 w6 := btrans (balloc (Below.refl _ _) _) hb6
  clear hb6
  go_wp2_with fail
  go_ret
  exact ⟨rfl, btrans (btrans (btrans (btrans (btrans H1 H2) H3) H4) H5) H6⟩

set_option maxRecDepth 100000 in
set_option maxHeartbeats 1600000 in
theorem two_law (A : Option Addr) (n c : Nat) (l : List (Int × Int)) (B : Option Addr) (m d : Nat) (k : List (Int × Int)) (w : World) (hl : Runs w A n c l) (hn : n ≤ 9223372036854775807) (hk : Runs w B m d k) (hm : m ≤ 9223372036854775807) :
    Calls Try.prog 3 #[.slice A n c, .slice B m d] w fun e w' => e = .returned (.bool true) ∧ Below w.heap.size w w' := by
  by_cases hbig : 200 < n ∨ 200 < m
  · by_cases h1 : 200 < n
    · go_enter Try.func3, Try.ntmps3
      go_wp2_with (go_at_call 9; refine (known_any _).mono ?_; rintro e w1 ⟨rfl, hb1⟩)
      go_ret
      exact ⟨rfl, hb1⟩
    · go_enter Try.func3, Try.ntmps3
      go_wp2_with (go_at_call 9; refine (known_any _).mono ?_; rintro e w1 ⟨rfl, hb1⟩)
      go_ret
      exact ⟨rfl, hb1⟩
  · have h1 : n ≤ 200 := by omega
    have h2 : m ≤ 200 := by omega
    clear hbig
    have e1 : two (fun x y => x || y) l k = two (ofB 1) l k := rfl
    have e2 : two (fun x y => x && y) l k = two (ofB 2) l k := rfl
    have e3 : two (fun x y => x && !y) l k = two (ofB 3) l k := rfl
    have e4 : two (fun x y => x != y) l k = two (ofB 4) l k := rfl
    have E1 := Lib.hid e1
    have E2 := Lib.hid e2
    have E3 := Lib.hid e3
    have E4 := Lib.hid e4
    clear e1 e2 e3 e4
    go_enter Try.func3, Try.ntmps3
    go_wp2_with (go_at_call 9; refine (known_any _).mono ?_; rintro e w1 ⟨rfl, hb1⟩)
    have H := hb1
    clear hb1
    refine (join_any A B n c m d l k _ (hl.below H) (hk.below H) hn hm).mono ?_
    rintro e w2 ⟨P2, f2, rfl, hr2, hb2⟩
    have H2 := btrans H hb2
    go_wp2_with fail
    refine (rtwo_any 1 A B n c m d l k _ (hl.below H2) (hk.below H2) hn hm).mono ?_
    rintro e w3 ⟨P3, f3, rfl, hr3, hb3⟩
    have H3 := btrans H2 hb3
    go_wp2_with fail
    refine (same_yes _ _ _ _ _ _ _ _ _ (hr2.below hb3) hr3 (two_short _ _ _) (two_short _ _ _) E1.out).mono ?_
    rintro e w4 ⟨rfl, hb4⟩
    have H4 := btrans H3 hb4
    clear H H2 H3 hb2 hb3 hb4 hr2 hr3
    have H := H4
    clear H4
    go_wp2_with fail
    refine (meet_any A B n c m d l k _ (hl.below H) (hk.below H) hn hm).mono ?_
    rintro e w5 ⟨P5, f5, rfl, hr5, hb5⟩
    have H5 := btrans H hb5
    go_wp2_with fail
    refine (rtwo_any 2 A B n c m d l k _ (hl.below H5) (hk.below H5) hn hm).mono ?_
    rintro e w6 ⟨P6, f6, rfl, hr6, hb6⟩
    have H6 := btrans H5 hb6
    go_wp2_with fail
    refine (same_yes _ _ _ _ _ _ _ _ _ (hr5.below hb6) hr6 (two_short _ _ _) (two_short _ _ _) E2.out).mono ?_
    rintro e w7 ⟨rfl, hb7⟩
    have H7 := btrans H6 hb7
    clear H H5 H6 hb5 hb6 hb7 hr5 hr6
    have H := H7
    clear H7
    go_wp2_with fail
    refine (less_any A B n c m d l k _ (hl.below H) (hk.below H) hn hm).mono ?_
    rintro e w8 ⟨P8, f8, rfl, hr8, hb8⟩
    have H8 := btrans H hb8
    go_wp2_with fail
    refine (rtwo_any 3 A B n c m d l k _ (hl.below H8) (hk.below H8) hn hm).mono ?_
    rintro e w9 ⟨P9, f9, rfl, hr9, hb9⟩
    have H9 := btrans H8 hb9
    go_wp2_with fail
    refine (same_yes _ _ _ _ _ _ _ _ _ (hr8.below hb9) hr9 (two_short _ _ _) (two_short _ _ _) E3.out).mono ?_
    rintro e w10 ⟨rfl, hb10⟩
    have H10 := btrans H9 hb10
    clear H H8 H9 hb8 hb9 hb10 hr8 hr9
    have H := H10
    clear H10
    go_wp2_with fail
    refine (other_any A B n c m d l k _ (hl.below H) (hk.below H) hn hm).mono ?_
    rintro e w11 ⟨P11, f11, rfl, hr11, hb11⟩
    have H11 := btrans H hb11
    go_wp2_with fail
    refine (rtwo_any 4 A B n c m d l k _ (hl.below H11) (hk.below H11) hn hm).mono ?_
    rintro e w12 ⟨P12, f12, rfl, hr12, hb12⟩
    have H12 := btrans H11 hb12
    go_wp2_with fail
    refine (same_yes _ _ _ _ _ _ _ _ _ (hr11.below hb12) hr12 (two_short _ _ _) (two_short _ _ _) E4.out).mono ?_
    rintro e w13 ⟨rfl, hb13⟩
    have H13 := btrans H12 hb13
    clear H H11 H12 hb11 hb12 hb13 hr11 hr12
    have H := H13
    clear H13
    go_wp2_with fail
    go_ret
    exact ⟨rfl, H⟩
end Go.Proofs.Ytaimijgjpjhppaa.sp
