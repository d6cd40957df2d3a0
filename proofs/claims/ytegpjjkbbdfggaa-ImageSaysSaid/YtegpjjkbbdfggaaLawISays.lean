/-
  ImageSays: May, Sample, At and Line of any image, matrix and numbers return what the reference returns.
-/
import Derived.Test.YtegpjjkbbdfggaaKnownI
import Derived.Deep.RegionHeld3
namespace Go.Proofs.Ytegpjjkbbdfggaa.im
set_option linter.unusedVariables false
set_option linter.unusedSimpArgs false
open Go.RowKit bs mt

theorem keepS {W H B a b c d e f : Int} {s : ByteArray} {w0 : World} {g h : Nat} {w w' : World} (hb : Below w.heap.size w w') (hS : g < w.heap.size ∧ h < w.heap.size ∧ Below w0.heap.size w0 w ∧ w.cell? ⟨g, 0, none⟩ = some (.int .i64 W) ∧ w.cell? ⟨g, 1, none⟩ = some (.int .i64 H) ∧ w.cell? ⟨g, 2, none⟩ = some (.int .i64 B) ∧ w.cell? ⟨g, 3, none⟩ = some (.string s) ∧ w.cell? ⟨h, 0, none⟩ = some (.int .i64 a) ∧ w.cell? ⟨h, 1, none⟩ = some (.int .i64 b) ∧ w.cell? ⟨h, 2, none⟩ = some (.int .i64 c) ∧ w.cell? ⟨h, 3, none⟩ = some (.int .i64 d) ∧ w.cell? ⟨h, 4, none⟩ = some (.int .i64 e) ∧ w.cell? ⟨h, 5, none⟩ = some (.int .i64 f)) : g < w'.heap.size ∧ h < w'.heap.size ∧ Below w0.heap.size w0 w' ∧ w'.cell? ⟨g, 0, none⟩ = some (.int .i64 W) ∧ w'.cell? ⟨g, 1, none⟩ = some (.int .i64 H) ∧ w'.cell? ⟨g, 2, none⟩ = some (.int .i64 B) ∧ w'.cell? ⟨g, 3, none⟩ = some (.string s) ∧ w'.cell? ⟨h, 0, none⟩ = some (.int .i64 a) ∧ w'.cell? ⟨h, 1, none⟩ = some (.int .i64 b) ∧ w'.cell? ⟨h, 2, none⟩ = some (.int .i64 c) ∧ w'.cell? ⟨h, 3, none⟩ = some (.int .i64 d) ∧ w'.cell? ⟨h, 4, none⟩ = some (.int .i64 e) ∧ w'.cell? ⟨h, 5, none⟩ = some (.int .i64 f) := by
  obtain ⟨h1, h2, h3, p0, p1, p2, p3, p4, p5, p6, p7, p8, p9⟩ := hS
  exact ⟨Nat.lt_of_lt_of_le h1 hb.size, Nat.lt_of_lt_of_le h2 hb.size, btrans h3 hb, (hb.cell (p := ⟨g, 0, none⟩) h1).trans p0, (hb.cell (p := ⟨g, 1, none⟩) h1).trans p1, (hb.cell (p := ⟨g, 2, none⟩) h1).trans p2, (hb.cell (p := ⟨g, 3, none⟩) h1).trans p3, (hb.cell (p := ⟨h, 0, none⟩) h2).trans p4, (hb.cell (p := ⟨h, 1, none⟩) h2).trans p5, (hb.cell (p := ⟨h, 2, none⟩) h2).trans p6, (hb.cell (p := ⟨h, 3, none⟩) h2).trans p7, (hb.cell (p := ⟨h, 4, none⟩) h2).trans p8, (hb.cell (p := ⟨h, 5, none⟩) h2).trans p9⟩

set_option maxRecDepth 100000 in
set_option maxHeartbeats 3200000 in
theorem says_walk (W H B x y n a b c d e f sv av : Int) (mv : Bool) (s : ByteArray) (l : List Int) (w : World) (hs : (s.size : Int) ≤ 20000) (hn : ¬ (20 < n ∧ n ≤ 64)) (hl : l.length ≤ 4096)
    (HM1 : Hid (∀ W', Calls Try.prog 14 #[.agg #[.int .i64 W, .int .i64 H, .int .i64 B, .string s]] W' fun ed w' => ed = .returned (.bool mv) ∧ Below W'.heap.size W' w'))
    (HM2 : Hid (∀ W', Calls Try.prog 15 #[.agg #[.int .i64 W, .int .i64 H, .int .i64 B, .string s]] W' fun ed w' => ed = .returned (.bool mv) ∧ Below W'.heap.size W' w'))
    (HS1 : Hid (∀ W', Calls Try.prog 16 #[.agg #[.int .i64 W, .int .i64 H, .int .i64 B, .string s], .int .i64 x, .int .i64 y] W' fun ed w' => ed = .returned (.int .i64 sv) ∧ Below W'.heap.size W' w'))
    (HS2 : Hid (∀ W', Calls Try.prog 17 #[.agg #[.int .i64 W, .int .i64 H, .int .i64 B, .string s], .int .i64 x, .int .i64 y] W' fun ed w' => ed = .returned (.int .i64 sv) ∧ Below W'.heap.size W' w'))
    (HA1 : Hid (∀ W', Calls Try.prog 18 #[.agg #[.int .i64 W, .int .i64 H, .int .i64 B, .string s], .agg #[.int .i64 a, .int .i64 b, .int .i64 c, .int .i64 d, .int .i64 e, .int .i64 f], .int .i64 x, .int .i64 y] W' fun ed w' => ed = .returned (.int .i64 av) ∧ Below W'.heap.size W' w'))
    (HA2 : Hid (∀ W', Calls Try.prog 19 #[.agg #[.int .i64 W, .int .i64 H, .int .i64 B, .string s], .agg #[.int .i64 a, .int .i64 b, .int .i64 c, .int .i64 d, .int .i64 e, .int .i64 f], .int .i64 x, .int .i64 y] W' fun ed w' => ed = .returned (.int .i64 av) ∧ Below W'.heap.size W' w'))
    (HL1 : Hid (∀ W', Calls Try.prog 21 #[.agg #[.int .i64 W, .int .i64 H, .int .i64 B, .string s], .agg #[.int .i64 a, .int .i64 b, .int .i64 c, .int .i64 d, .int .i64 e, .int .i64 f], .int .i64 y, .int .i64 n] W' fun ed w' => ∃ v, ed = .returned v ∧ IntsV w' v l ∧ Below W'.heap.size W' w'))
    (HL2 : Hid (∀ W', Calls Try.prog 22 #[.agg #[.int .i64 W, .int .i64 H, .int .i64 B, .string s], .agg #[.int .i64 a, .int .i64 b, .int .i64 c, .int .i64 d, .int .i64 e, .int .i64 f], .int .i64 y, .int .i64 n] W' fun ed w' => ∃ v, ed = .returned v ∧ IntsV w' v l ∧ Below W'.heap.size W' w')) :
    Calls Try.prog 3 #[.agg #[.int .i64 W, .int .i64 H, .int .i64 B, .string s], .agg #[.int .i64 a, .int .i64 b, .int .i64 c, .int .i64 d, .int .i64 e, .int .i64 f], .int .i64 x, .int .i64 y, .int .i64 n] w fun ed w' => ed = .returned (.bool true) ∧ Below w.heap.size w w' := by
  go_enter Try.func3, Try.ntmps3
  go_wp2_with fail
  refine (known_any _).mono ?_
  rintro e_ w1 ⟨rfl, hb1⟩
  have Ki := ((Blk.new w 23 #[.int .i64 W, .int .i64 H, .int .i64 B, .string s]).alloc (.cells #[.int .i64 a, .int .i64 b, .int .i64 c, .int .i64 d, .int .i64 e, .int .i64 f] 25))
  have Km := (Blk.new (w.alloc (.cells #[.int .i64 W, .int .i64 H, .int .i64 B, .string s] 23)) 25 #[.int .i64 a, .int .i64 b, .int .i64 c, .int .i64 d, .int .i64 e, .int .i64 f])
  have hz_Km : (w.alloc (.cells #[.int .i64 W, .int .i64 H, .int .i64 B, .string s] 23)).heap.size = w.heap.size + 1 := by simp
  rw [hz_Km] at Km
  clear hz_Km
  replace Ki := Ki.below hb1 Ki.lt
  replace Km := Km.below hb1 Km.lt
  have hbw : Below w.heap.size w w1 := btrans (by (repeat' (first | exact Below.refl _ _ | exact Below.refl _ _ | refine balloc ?_ _ | refine Below.drew ?_ | refine below_drewN ?_ _ | refine bset ?_ (by first | omega | (simp <;> omega)) _))) hb1
  clear hb1 
  have lKi := Ki.lt
  have cKi0 := Ki.cell 0
  have cKi1 := Ki.cell 1
  have cKi2 := Ki.cell 2
  have cKi3 := Ki.cell 3
  have lKm := Km.lt
  have cKm0 := Km.cell 0
  have cKm1 := Km.cell 1
  have cKm2 := Km.cell 2
  have cKm3 := Km.cell 3
  have cKm4 := Km.cell 4
  have cKm5 := Km.cell 5
  simp only [List.getElem?_toArray, List.getElem?_cons_succ, List.getElem?_cons_zero] at cKi0 cKi1 cKi2 cKi3 cKm0 cKm1 cKm2 cKm3 cKm4 cKm5
  have z1 : decide ((20000 : Int) < (s.size : Int)) = false := by simp; omega
  clear hs
  by_cases hc : 20 < n
  · have z2 : decide (20 < n) = true := by simp; exact hc
    have z3 : decide (n ≤ 64) = false := by simp; omega
    have HH0 := hc
    go_wp2_with fail
    clear HH0
    have HS0 : (fun wX : World => w.heap.size < wX.heap.size ∧ (w.heap.size + 1) < wX.heap.size ∧ Below w1.heap.size w1 wX ∧ wX.cell? ⟨w.heap.size, 0, none⟩ = some (.int .i64 W) ∧ wX.cell? ⟨w.heap.size, 1, none⟩ = some (.int .i64 H) ∧ wX.cell? ⟨w.heap.size, 2, none⟩ = some (.int .i64 B) ∧ wX.cell? ⟨w.heap.size, 3, none⟩ = some (.string s) ∧ wX.cell? ⟨w.heap.size + 1, 0, none⟩ = some (.int .i64 a) ∧ wX.cell? ⟨w.heap.size + 1, 1, none⟩ = some (.int .i64 b) ∧ wX.cell? ⟨w.heap.size + 1, 2, none⟩ = some (.int .i64 c) ∧ wX.cell? ⟨w.heap.size + 1, 3, none⟩ = some (.int .i64 d) ∧ wX.cell? ⟨w.heap.size + 1, 4, none⟩ = some (.int .i64 e) ∧ wX.cell? ⟨w.heap.size + 1, 5, none⟩ = some (.int .i64 f)) w1.drew := keepS (Below.drew (Below.refl _ _)) ⟨lKi, lKm, Below.refl _ _, cKi0, cKi1, cKi2, cKi3, cKm0, cKm1, cKm2, cKm3, cKm4, cKm5⟩
    clear lKi lKm cKi0 cKi1 cKi2 cKi3 cKm0 cKm1 cKm2 cKm3 cKm4 cKm5 Ki Km
    go_region_held3 (fun wX : World => w.heap.size < wX.heap.size ∧ (w.heap.size + 1) < wX.heap.size ∧ Below w1.heap.size w1 wX ∧ wX.cell? ⟨w.heap.size, 0, none⟩ = some (.int .i64 W) ∧ wX.cell? ⟨w.heap.size, 1, none⟩ = some (.int .i64 H) ∧ wX.cell? ⟨w.heap.size, 2, none⟩ = some (.int .i64 B) ∧ wX.cell? ⟨w.heap.size, 3, none⟩ = some (.string s) ∧ wX.cell? ⟨w.heap.size + 1, 0, none⟩ = some (.int .i64 a) ∧ wX.cell? ⟨w.heap.size + 1, 1, none⟩ = some (.int .i64 b) ∧ wX.cell? ⟨w.heap.size + 1, 2, none⟩ = some (.int .i64 c) ∧ wX.cell? ⟨w.heap.size + 1, 3, none⟩ = some (.int .i64 d) ∧ wX.cell? ⟨w.heap.size + 1, 4, none⟩ = some (.int .i64 e) ∧ wX.cell? ⟨w.heap.size + 1, 5, none⟩ = some (.int .i64 f)) (first | exact HS0 | exact keepS (by assumption) (by assumption)) (first
          | (go_at_call 14; refine (HM1.out _).mono ?_; rintro e_ wa ⟨rfl, hb1⟩)
          | (go_at_call 15; refine (HM2.out _).mono ?_; rintro e_ wb ⟨rfl, hb2⟩)
          | (go_at_call 16; refine (HS1.out _).mono ?_; rintro e_ wc ⟨rfl, hb3⟩)
          | (go_at_call 17; refine (HS2.out _).mono ?_; rintro e_ wd ⟨rfl, hb4⟩)
          | (go_at_call 18; refine (HA1.out _).mono ?_; rintro e_ we ⟨rfl, hb5⟩)
          | (go_at_call 19; refine (HA2.out _).mono ?_; rintro e_ wf ⟨rfl, hb6⟩)
          | (go_at_call 21; refine (HL1.out _).mono ?_; rintro e_ wg ⟨v1, rfl, hv1, hb7⟩)
          | (go_at_call 22; refine (HL2.out _).mono ?_; rintro e_ wh ⟨v2, rfl, hv2, hb8⟩)
          | (go_at_call 20; refine (same_eq l v1 v2 _ (hv1.below hb8) hv2 hl).mono ?_; rintro e_ wi ⟨rfl, hb9⟩))
    go_wp2_with fail
    go_ret
    exact ⟨rfl, btrans (btrans (btrans (btrans (btrans (btrans (btrans (btrans (btrans (Below.drew hbw) hb1) hb2) hb3) hb4) hb5) hb6) hb7) hb8) hb9⟩
  · have z2 : decide (20 < n) = false := by simp; omega
    have HH0 := hc
    go_wp2_with fail
    clear HH0
    have HS0 : (fun wX : World => w.heap.size < wX.heap.size ∧ (w.heap.size + 1) < wX.heap.size ∧ Below w1.heap.size w1 wX ∧ wX.cell? ⟨w.heap.size, 0, none⟩ = some (.int .i64 W) ∧ wX.cell? ⟨w.heap.size, 1, none⟩ = some (.int .i64 H) ∧ wX.cell? ⟨w.heap.size, 2, none⟩ = some (.int .i64 B) ∧ wX.cell? ⟨w.heap.size, 3, none⟩ = some (.string s) ∧ wX.cell? ⟨w.heap.size + 1, 0, none⟩ = some (.int .i64 a) ∧ wX.cell? ⟨w.heap.size + 1, 1, none⟩ = some (.int .i64 b) ∧ wX.cell? ⟨w.heap.size + 1, 2, none⟩ = some (.int .i64 c) ∧ wX.cell? ⟨w.heap.size + 1, 3, none⟩ = some (.int .i64 d) ∧ wX.cell? ⟨w.heap.size + 1, 4, none⟩ = some (.int .i64 e) ∧ wX.cell? ⟨w.heap.size + 1, 5, none⟩ = some (.int .i64 f)) w1.drew := keepS (Below.drew (Below.refl _ _)) ⟨lKi, lKm, Below.refl _ _, cKi0, cKi1, cKi2, cKi3, cKm0, cKm1, cKm2, cKm3, cKm4, cKm5⟩
    clear lKi lKm cKi0 cKi1 cKi2 cKi3 cKm0 cKm1 cKm2 cKm3 cKm4 cKm5 Ki Km
    go_region_held3 (fun wX : World => w.heap.size < wX.heap.size ∧ (w.heap.size + 1) < wX.heap.size ∧ Below w1.heap.size w1 wX ∧ wX.cell? ⟨w.heap.size, 0, none⟩ = some (.int .i64 W) ∧ wX.cell? ⟨w.heap.size, 1, none⟩ = some (.int .i64 H) ∧ wX.cell? ⟨w.heap.size, 2, none⟩ = some (.int .i64 B) ∧ wX.cell? ⟨w.heap.size, 3, none⟩ = some (.string s) ∧ wX.cell? ⟨w.heap.size + 1, 0, none⟩ = some (.int .i64 a) ∧ wX.cell? ⟨w.heap.size + 1, 1, none⟩ = some (.int .i64 b) ∧ wX.cell? ⟨w.heap.size + 1, 2, none⟩ = some (.int .i64 c) ∧ wX.cell? ⟨w.heap.size + 1, 3, none⟩ = some (.int .i64 d) ∧ wX.cell? ⟨w.heap.size + 1, 4, none⟩ = some (.int .i64 e) ∧ wX.cell? ⟨w.heap.size + 1, 5, none⟩ = some (.int .i64 f)) (first | exact HS0 | exact keepS (by assumption) (by assumption)) (first
          | (go_at_call 14; refine (HM1.out _).mono ?_; rintro e_ wa ⟨rfl, hb1⟩)
          | (go_at_call 15; refine (HM2.out _).mono ?_; rintro e_ wb ⟨rfl, hb2⟩)
          | (go_at_call 16; refine (HS1.out _).mono ?_; rintro e_ wc ⟨rfl, hb3⟩)
          | (go_at_call 17; refine (HS2.out _).mono ?_; rintro e_ wd ⟨rfl, hb4⟩)
          | (go_at_call 18; refine (HA1.out _).mono ?_; rintro e_ we ⟨rfl, hb5⟩)
          | (go_at_call 19; refine (HA2.out _).mono ?_; rintro e_ wf ⟨rfl, hb6⟩)
          | (go_at_call 21; refine (HL1.out _).mono ?_; rintro e_ wg ⟨v1, rfl, hv1, hb7⟩)
          | (go_at_call 22; refine (HL2.out _).mono ?_; rintro e_ wh ⟨v2, rfl, hv2, hb8⟩)
          | (go_at_call 20; refine (same_eq l v1 v2 _ (hv1.below hb8) hv2 hl).mono ?_; rintro e_ wi ⟨rfl, hb9⟩))
    go_wp2_with fail
    go_ret
    exact ⟨rfl, btrans (btrans (btrans (btrans (btrans (btrans (btrans (btrans (btrans (Below.drew hbw) hb1) hb2) hb3) hb4) hb5) hb6) hb7) hb8) hb9⟩

set_option maxRecDepth 100000 in
set_option maxHeartbeats 3200000 in
theorem Line_out (W H B a b c d e f y n : Int) (s : ByteArray) (w : World) (h : n < 0 ∨ 64 < n) : Calls Try.prog 21 #[.agg #[.int .i64 W, .int .i64 H, .int .i64 B, .string s], .agg #[.int .i64 a, .int .i64 b, .int .i64 c, .int .i64 d, .int .i64 e, .int .i64 f], .int .i64 y, .int .i64 n] w fun ed w' => ∃ v, ed = .returned v ∧ IntsV w' v [] ∧ Below w.heap.size w w' := by
  by_cases h0 : n < 0
  · clear h
    go_enter Try.func21, Try.ntmps21
    go_wp2_with fail
    go_ret
    exact ⟨_, rfl, IntsV.nil_ _, by (repeat' (first | exact Below.refl _ _ | exact Below.refl _ _ | refine balloc ?_ _ | refine Below.drew ?_ | refine below_drewN ?_ _ | refine bset ?_ (by first | omega | (simp <;> omega)) _))⟩
  · have h1 : 64 < n := by omega
    clear h
    go_enter Try.func21, Try.ntmps21
    go_wp2_with fail
    go_ret
    exact ⟨_, rfl, IntsV.nil_ _, by (repeat' (first | exact Below.refl _ _ | exact Below.refl _ _ | refine balloc ?_ _ | refine Below.drew ?_ | refine below_drewN ?_ _ | refine bset ?_ (by first | omega | (simp <;> omega)) _))⟩

set_option maxRecDepth 100000 in
set_option maxHeartbeats 3200000 in
theorem rLine_out (W H B a b c d e f y n : Int) (s : ByteArray) (w : World) (h : n < 0 ∨ 64 < n) : Calls Try.prog 22 #[.agg #[.int .i64 W, .int .i64 H, .int .i64 B, .string s], .agg #[.int .i64 a, .int .i64 b, .int .i64 c, .int .i64 d, .int .i64 e, .int .i64 f], .int .i64 y, .int .i64 n] w fun ed w' => ∃ v, ed = .returned v ∧ IntsV w' v [] ∧ Below w.heap.size w w' := by
  by_cases h0 : n < 0
  · clear h
    have g1 : decide (64 < n) = false := by simp; omega
    have g2 : decide (0 < n) = false := by simp; omega
    go_enter Try.func22, Try.ntmps22
    go_wp2_with fail
    go_loopw [9, 10] (fun v iv wr => v = .slice none 0 0 ∧ iv = .int .i64 0 ∧ Below w.heap.size w wr) (fun _ _ _ => 0)
    case atStart => exact ⟨rfl, rfl, by (repeat' (first | exact Below.refl _ _ | exact Below.refl _ _ | refine balloc ?_ _ | refine Below.drew ?_ | refine below_drewN ?_ _ | refine bset ?_ (by first | omega | (simp <;> omega)) _))⟩
    case round =>
      obtain ⟨rfl, rfl, hbw⟩ := hrel
      go_wp2_with fail
      go_ret
      exact ⟨_, rfl, IntsV.nil_ _, hbw⟩
  · have h1 : 64 < n := by omega
    clear h
    go_enter Try.func22, Try.ntmps22
    go_wp2_with fail
    go_ret
    exact ⟨_, rfl, IntsV.nil_ _, by (repeat' (first | exact Below.refl _ _ | exact Below.refl _ _ | refine balloc ?_ _ | refine Below.drew ?_ | refine below_drewN ?_ _ | refine bset ?_ (by first | omega | (simp <;> omega)) _))⟩

set_option maxRecDepth 100000 in
set_option maxHeartbeats 3200000 in
theorem says_big (W H B x y n a b c d e f : Int) (s : ByteArray) (w : World) (hs : (s.size : Int) ≤ 9223372036854775807) (h : (20000 : Int) < (s.size : Int)) : Calls Try.prog 3 #[.agg #[.int .i64 W, .int .i64 H, .int .i64 B, .string s], .agg #[.int .i64 a, .int .i64 b, .int .i64 c, .int .i64 d, .int .i64 e, .int .i64 f], .int .i64 x, .int .i64 y, .int .i64 n] w fun ed w' => ed = .returned (.bool true) ∧ Below w.heap.size w w' := by
  go_enter Try.func3, Try.ntmps3
  go_wp2_with fail
  refine (known_any _).mono ?_
  rintro e_ w1 ⟨rfl, hb1⟩
  have Ki := ((Blk.new w 23 #[.int .i64 W, .int .i64 H, .int .i64 B, .string s]).alloc (.cells #[.int .i64 a, .int .i64 b, .int .i64 c, .int .i64 d, .int .i64 e, .int .i64 f] 25))
  have Km := (Blk.new (w.alloc (.cells #[.int .i64 W, .int .i64 H, .int .i64 B, .string s] 23)) 25 #[.int .i64 a, .int .i64 b, .int .i64 c, .int .i64 d, .int .i64 e, .int .i64 f])
  have hz_Km : (w.alloc (.cells #[.int .i64 W, .int .i64 H, .int .i64 B, .string s] 23)).heap.size = w.heap.size + 1 := by simp
  rw [hz_Km] at Km
  clear hz_Km
  replace Ki := Ki.below hb1 Ki.lt
  replace Km := Km.below hb1 Km.lt
  have hbw : Below w.heap.size w w1 := btrans (by (repeat' (first | exact Below.refl _ _ | exact Below.refl _ _ | refine balloc ?_ _ | refine Below.drew ?_ | refine below_drewN ?_ _ | refine bset ?_ (by first | omega | (simp <;> omega)) _))) hb1
  clear hb1 
  have lKi := Ki.lt
  have cKi0 := Ki.cell 0
  have cKi1 := Ki.cell 1
  have cKi2 := Ki.cell 2
  have cKi3 := Ki.cell 3
  have lKm := Km.lt
  have cKm0 := Km.cell 0
  have cKm1 := Km.cell 1
  have cKm2 := Km.cell 2
  have cKm3 := Km.cell 3
  have cKm4 := Km.cell 4
  have cKm5 := Km.cell 5
  simp only [List.getElem?_toArray, List.getElem?_cons_succ, List.getElem?_cons_zero] at cKi0 cKi1 cKi2 cKi3 cKm0 cKm1 cKm2 cKm3 cKm4 cKm5
  have z1 : decide ((20000 : Int) < (s.size : Int)) = true := by simp; omega
  go_wp2_with fail
  go_ret
  exact ⟨rfl, hbw⟩

set_option maxRecDepth 100000 in
set_option maxHeartbeats 3200000 in
theorem says_wide (W H B x y n a b c d e f : Int) (s : ByteArray) (w : World) (hs : (s.size : Int) ≤ 9223372036854775807) (h : (s.size : Int) ≤ 20000) (h1 : 20 < n) (h2 : n ≤ 64) : Calls Try.prog 3 #[.agg #[.int .i64 W, .int .i64 H, .int .i64 B, .string s], .agg #[.int .i64 a, .int .i64 b, .int .i64 c, .int .i64 d, .int .i64 e, .int .i64 f], .int .i64 x, .int .i64 y, .int .i64 n] w fun ed w' => ed = .returned (.bool true) ∧ Below w.heap.size w w' := by
  go_enter Try.func3, Try.ntmps3
  go_wp2_with fail
  refine (known_any _).mono ?_
  rintro e_ w1 ⟨rfl, hb1⟩
  have Ki := ((Blk.new w 23 #[.int .i64 W, .int .i64 H, .int .i64 B, .string s]).alloc (.cells #[.int .i64 a, .int .i64 b, .int .i64 c, .int .i64 d, .int .i64 e, .int .i64 f] 25))
  have Km := (Blk.new (w.alloc (.cells #[.int .i64 W, .int .i64 H, .int .i64 B, .string s] 23)) 25 #[.int .i64 a, .int .i64 b, .int .i64 c, .int .i64 d, .int .i64 e, .int .i64 f])
  have hz_Km : (w.alloc (.cells #[.int .i64 W, .int .i64 H, .int .i64 B, .string s] 23)).heap.size = w.heap.size + 1 := by simp
  rw [hz_Km] at Km
  clear hz_Km
  replace Ki := Ki.below hb1 Ki.lt
  replace Km := Km.below hb1 Km.lt
  have hbw : Below w.heap.size w w1 := btrans (by (repeat' (first | exact Below.refl _ _ | exact Below.refl _ _ | refine balloc ?_ _ | refine Below.drew ?_ | refine below_drewN ?_ _ | refine bset ?_ (by first | omega | (simp <;> omega)) _))) hb1
  clear hb1 
  have lKi := Ki.lt
  have cKi0 := Ki.cell 0
  have cKi1 := Ki.cell 1
  have cKi2 := Ki.cell 2
  have cKi3 := Ki.cell 3
  have lKm := Km.lt
  have cKm0 := Km.cell 0
  have cKm1 := Km.cell 1
  have cKm2 := Km.cell 2
  have cKm3 := Km.cell 3
  have cKm4 := Km.cell 4
  have cKm5 := Km.cell 5
  simp only [List.getElem?_toArray, List.getElem?_cons_succ, List.getElem?_cons_zero] at cKi0 cKi1 cKi2 cKi3 cKm0 cKm1 cKm2 cKm3 cKm4 cKm5
  have z1 : decide ((20000 : Int) < (s.size : Int)) = false := by simp; omega
  have z2 : decide (20 < n) = true := by simp; exact h1
  have z3 : decide (n ≤ 64) = true := by simp; exact h2
  go_wp2_with fail
  go_ret
  exact ⟨rfl, hbw⟩

theorem isays_law (W H B : Int) (s : ByteArray) (a b c d e f x y n : Int) (w : World) (_hW : -9223372036854775808 ≤ W ∧ W ≤ 9223372036854775807) (_hH : -9223372036854775808 ≤ H ∧ H ≤ 9223372036854775807) (_hB : -9223372036854775808 ≤ B ∧ B ≤ 9223372036854775807) (hs : (s.size : Int) ≤ 9223372036854775807) (_ha : -9223372036854775808 ≤ a ∧ a ≤ 9223372036854775807) (_hb : -9223372036854775808 ≤ b ∧ b ≤ 9223372036854775807) (_hc : -9223372036854775808 ≤ c ∧ c ≤ 9223372036854775807) (_hd : -9223372036854775808 ≤ d ∧ d ≤ 9223372036854775807) (_he : -9223372036854775808 ≤ e ∧ e ≤ 9223372036854775807) (_hf : -9223372036854775808 ≤ f ∧ f ≤ 9223372036854775807) (_hx : -9223372036854775808 ≤ x ∧ x ≤ 9223372036854775807) (_hy : -9223372036854775808 ≤ y ∧ y ≤ 9223372036854775807) (_hn : -9223372036854775808 ≤ n ∧ n ≤ 9223372036854775807) : Calls Try.prog 3 #[.agg #[.int .i64 W, .int .i64 H, .int .i64 B, .string s], .agg #[.int .i64 a, .int .i64 b, .int .i64 c, .int .i64 d, .int .i64 e, .int .i64 f], .int .i64 x, .int .i64 y, .int .i64 n] w fun ed w' => ed = .returned (.bool true) ∧ Below w.heap.size w w' := by
  by_cases hg : (20000 : Int) < (s.size : Int)
  · exact says_big W H B x y n a b c d e f s w hs hg
  · by_cases hw : 20 < n ∧ n ≤ 64
    · exact says_wide W H B x y n a b c d e f s w hs (by omega) hw.1 hw.2
    · have hM1 := Lib.hid (fun W' => may37_any W H B s W' hs)
      have hM2 := Lib.hid (fun W' => rmay37_any W H B s W' hs)
      have hS1 := Lib.hid (fun W' => Sample_any W H B x y s W' hs)
      have hS2 := Lib.hid (fun W' => rSample_any W H B x y s W' hs)
      have hA1 := Lib.hid (fun W' => At_any W H B a b c d e f x y s W' hs)
      have hA2 := Lib.hid (fun W' => rAt_any W H B a b c d e f x y s W' hs)
      by_cases hn : n < 0 ∨ 64 < n
      · exact says_walk W H B x y n a b c d e f _ _ _ s [] w (by omega) hw (by simp) hM1 hM2 hS1 hS2 hA1 hA2 (Lib.hid fun W' => Line_out W H B a b c d e f y n s W' hn) (Lib.hid fun W' => rLine_out W H B a b c d e f y n s W' hn)
      · obtain ⟨k, hk⟩ := Int.eq_ofNat_of_zero_le (show 0 ≤ n by omega)
        subst hk
        exact says_walk W H B x y k a b c d e f _ _ _ s (lineL W H B s a b c d e f y k) w (by omega) hw (by rw [lineL_len]; omega) hM1 hM2 hS1 hS2 hA1 hA2 (Lib.hid fun W' => Line_any W H B a b c d e f y k s W' hs (by omega)) (Lib.hid fun W' => rLine_any W H B a b c d e f y k s W' hs (by omega))

end Go.Proofs.Ytegpjjkbbdfggaa.im
