/-
  Layer 37: which images may be; a sample; and the reference's.
-/
import Derived.Test.YtegpjjkbbdfggaaRow
namespace Go.Proofs.Ytegpjjkbbdfggaa.im
set_option linter.unusedVariables false
set_option linter.unusedSimpArgs false
open Go.RowKit bs mt

/-- may an image be -/
def bitsB (B : Int) : Bool := B == 1 || B == 2 || B == 4 || B == 8
def sidesB (W H : Int) : Bool := decide (1 ≤ W) && decide (W ≤ 64) && decide (1 ≤ H) && decide (H ≤ 64)
def mayI (W H B n : Int) : Bool := bitsB B && sidesB W H && n == H * rowI W B
theorem bitsB_of {B : Int} (h : bitsB B = true) : B = 1 ∨ B = 2 ∨ B = 4 ∨ B = 8 := by
  unfold bitsB at h
  simp at h
  omega
theorem mayI_bd {W H B n : Int} (h : mayI W H B n = true) : (B = 1 ∨ B = 2 ∨ B = 4 ∨ B = 8) ∧ (1 ≤ W ∧ W ≤ 64) ∧ (1 ≤ H ∧ H ≤ 64) ∧ n = H * rowI W B := by
  unfold mayI sidesB at h
  simp only [Bool.and_eq_true, decide_eq_true_eq, beq_iff_eq] at h
  exact ⟨bitsB_of h.1.1, ⟨h.1.2.1.1.1, h.1.2.1.1.2⟩, ⟨h.1.2.1.2, h.1.2.2⟩, h.2⟩
theorem area_bd {H R : Int} (hH : 1 ≤ H ∧ H ≤ 64) (hR : 1 ≤ R ∧ R ≤ 64) : 1 ≤ H * R ∧ H * R ≤ 4096 := by
  have h1 := Int.mul_nonneg (show 0 ≤ H - 1 by omega) (show 0 ≤ R - 1 by omega)
  have h2 := Int.mul_nonneg (show 0 ≤ 64 - H by omega) (show 0 ≤ R by omega)
  simp only [Int.sub_mul, Int.mul_sub] at h1 h2
  omega

set_option maxRecDepth 100000 in
set_option maxHeartbeats 1600000 in
theorem may37_nob (W H B : Int) (s : ByteArray) (w : World) (h1 : (B == 1) = false) (h2 : (B == 2) = false) (h4 : (B == 4) = false) (h8 : (B == 8) = false) : Calls Try.prog 14 #[.agg #[.int .i64 W, .int .i64 H, .int .i64 B, .string s]] w fun e w' => e = .returned (.bool false) ∧ Below w.heap.size w w' := by
  go_enter Try.func14, Try.ntmps14
  go_wp2_with fail
  go_ret
  exact ⟨rfl, by (repeat' (first | exact Below.refl _ _ | exact Below.refl _ _ | refine balloc ?_ _ | refine Below.drew ?_ | refine below_drewN ?_ _ | refine bset ?_ (by first | omega | (simp <;> omega)) _))⟩
set_option maxRecDepth 100000 in
set_option maxHeartbeats 1600000 in
theorem may37_bits (W H B : Int) (s : ByteArray) (w : World) (hs : (s.size : Int) ≤ 9223372036854775807) (hB : B = 1 ∨ B = 2 ∨ B = 4 ∨ B = 8) : Calls Try.prog 14 #[.agg #[.int .i64 W, .int .i64 H, .int .i64 B, .string s]] w fun e w' => e = .returned (.bool (sidesB W H && (s.size : Int) == H * rowI W B)) ∧ Below w.heap.size w w' := by
  by_cases g0 : W < 1
  · rw [show sidesB W H = false by unfold sidesB; simp; omega]
    simp only [Bool.false_and]
    have t0 : decide (1 ≤ W) = false := by simp; omega
    rcases hB with rfl | rfl | rfl | rfl
    · go_enter Try.func14, Try.ntmps14
      go_wp2_with fail
      have K := Blk.new w 23 #[.int .i64 W, .int .i64 H, .int .i64 1, .string s]
      have hbw : Below w.heap.size w (w.alloc (.cells #[.int .i64 W, .int .i64 H, .int .i64 1, .string s] 23)) := by (repeat' (first | exact Below.refl _ _ | exact Below.refl _ _ | refine balloc ?_ _ | refine Below.drew ?_ | refine below_drewN ?_ _ | refine bset ?_ (by first | omega | (simp <;> omega)) _))
      generalize hw2 : w.alloc (.cells #[.int .i64 W, .int .i64 H, .int .i64 1, .string s] 23) = w2 at *
      clear hw2
      have c0 := K.cell 0
      have c1 := K.cell 1
      have c2 := K.cell 2
      have c3 := K.cell 3
      have lK := K.lt
      simp only [List.getElem?_toArray, List.getElem?_cons_succ, List.getElem?_cons_zero] at c0 c1 c2 c3
      have u0 : ∀ u : Up w2, u.val.cell? ⟨w.heap.size, 0, none⟩ = some (.int .i64 W) := fun u => (u.cell lK).trans c0
      have u1 : ∀ u : Up w2, u.val.cell? ⟨w.heap.size, 1, none⟩ = some (.int .i64 H) := fun u => (u.cell lK).trans c1
      have u2 : ∀ u : Up w2, u.val.cell? ⟨w.heap.size, 2, none⟩ = some (.int .i64 1) := fun u => (u.cell lK).trans c2
      have u3 : ∀ u : Up w2, u.val.cell? ⟨w.heap.size, 3, none⟩ = some (.string s) := fun u => (u.cell lK).trans c3
      refine wp_region_up (by kernel_rfl) (by kernel_rfl) ?_
      repeat (go_big_quiet_step (fail))
      refine wpQuiet_nil ?_
      rintro _ ⟨uq, rfl⟩
      replace K := K.below uq.ok lK
      replace hbw := btrans hbw uq.ok
      generalize hwx : uq.val = w3 at *
      clear hwx uq u0 u1 u2 u3 c0 c1 c2 c3 lK
      go_wp2_with fail
      go_ret
      exact ⟨rfl, hbw⟩
    · go_enter Try.func14, Try.ntmps14
      go_wp2_with fail
      have K := Blk.new w 23 #[.int .i64 W, .int .i64 H, .int .i64 2, .string s]
      have hbw : Below w.heap.size w (w.alloc (.cells #[.int .i64 W, .int .i64 H, .int .i64 2, .string s] 23)) := by (repeat' (first | exact Below.refl _ _ | exact Below.refl _ _ | refine balloc ?_ _ | refine Below.drew ?_ | refine below_drewN ?_ _ | refine bset ?_ (by first | omega | (simp <;> omega)) _))
      generalize hw2 : w.alloc (.cells #[.int .i64 W, .int .i64 H, .int .i64 2, .string s] 23) = w2 at *
      clear hw2
      have c0 := K.cell 0
      have c1 := K.cell 1
      have c2 := K.cell 2
      have c3 := K.cell 3
      have lK := K.lt
      simp only [List.getElem?_toArray, List.getElem?_cons_succ, List.getElem?_cons_zero] at c0 c1 c2 c3
      have u0 : ∀ u : Up w2, u.val.cell? ⟨w.heap.size, 0, none⟩ = some (.int .i64 W) := fun u => (u.cell lK).trans c0
      have u1 : ∀ u : Up w2, u.val.cell? ⟨w.heap.size, 1, none⟩ = some (.int .i64 H) := fun u => (u.cell lK).trans c1
      have u2 : ∀ u : Up w2, u.val.cell? ⟨w.heap.size, 2, none⟩ = some (.int .i64 2) := fun u => (u.cell lK).trans c2
      have u3 : ∀ u : Up w2, u.val.cell? ⟨w.heap.size, 3, none⟩ = some (.string s) := fun u => (u.cell lK).trans c3
      refine wp_region_up (by kernel_rfl) (by kernel_rfl) ?_
      repeat (go_big_quiet_step (fail))
      refine wpQuiet_nil ?_
      rintro _ ⟨uq, rfl⟩
      replace K := K.below uq.ok lK
      replace hbw := btrans hbw uq.ok
      generalize hwx : uq.val = w3 at *
      clear hwx uq u0 u1 u2 u3 c0 c1 c2 c3 lK
      go_wp2_with fail
      go_ret
      exact ⟨rfl, hbw⟩
    · go_enter Try.func14, Try.ntmps14
      go_wp2_with fail
      have K := Blk.new w 23 #[.int .i64 W, .int .i64 H, .int .i64 4, .string s]
      have hbw : Below w.heap.size w (w.alloc (.cells #[.int .i64 W, .int .i64 H, .int .i64 4, .string s] 23)) := by (repeat' (first | exact Below.refl _ _ | exact Below.refl _ _ | refine balloc ?_ _ | refine Below.drew ?_ | refine below_drewN ?_ _ | refine bset ?_ (by first | omega | (simp <;> omega)) _))
      generalize hw2 : w.alloc (.cells #[.int .i64 W, .int .i64 H, .int .i64 4, .string s] 23) = w2 at *
      clear hw2
      have c0 := K.cell 0
      have c1 := K.cell 1
      have c2 := K.cell 2
      have c3 := K.cell 3
      have lK := K.lt
      simp only [List.getElem?_toArray, List.getElem?_cons_succ, List.getElem?_cons_zero] at c0 c1 c2 c3
      have u0 : ∀ u : Up w2, u.val.cell? ⟨w.heap.size, 0, none⟩ = some (.int .i64 W) := fun u => (u.cell lK).trans c0
      have u1 : ∀ u : Up w2, u.val.cell? ⟨w.heap.size, 1, none⟩ = some (.int .i64 H) := fun u => (u.cell lK).trans c1
      have u2 : ∀ u : Up w2, u.val.cell? ⟨w.heap.size, 2, none⟩ = some (.int .i64 4) := fun u => (u.cell lK).trans c2
      have u3 : ∀ u : Up w2, u.val.cell? ⟨w.heap.size, 3, none⟩ = some (.string s) := fun u => (u.cell lK).trans c3
      refine wp_region_up (by kernel_rfl) (by kernel_rfl) ?_
      repeat (go_big_quiet_step (fail))
      refine wpQuiet_nil ?_
      rintro _ ⟨uq, rfl⟩
      replace K := K.below uq.ok lK
      replace hbw := btrans hbw uq.ok
      generalize hwx : uq.val = w3 at *
      clear hwx uq u0 u1 u2 u3 c0 c1 c2 c3 lK
      go_wp2_with fail
      go_ret
      exact ⟨rfl, hbw⟩
    · go_enter Try.func14, Try.ntmps14
      go_wp2_with fail
      have K := Blk.new w 23 #[.int .i64 W, .int .i64 H, .int .i64 8, .string s]
      have hbw : Below w.heap.size w (w.alloc (.cells #[.int .i64 W, .int .i64 H, .int .i64 8, .string s] 23)) := by (repeat' (first | exact Below.refl _ _ | exact Below.refl _ _ | refine balloc ?_ _ | refine Below.drew ?_ | refine below_drewN ?_ _ | refine bset ?_ (by first | omega | (simp <;> omega)) _))
      generalize hw2 : w.alloc (.cells #[.int .i64 W, .int .i64 H, .int .i64 8, .string s] 23) = w2 at *
      clear hw2
      have c0 := K.cell 0
      have c1 := K.cell 1
      have c2 := K.cell 2
      have c3 := K.cell 3
      have lK := K.lt
      simp only [List.getElem?_toArray, List.getElem?_cons_succ, List.getElem?_cons_zero] at c0 c1 c2 c3
      have u0 : ∀ u : Up w2, u.val.cell? ⟨w.heap.size, 0, none⟩ = some (.int .i64 W) := fun u => (u.cell lK).trans c0
      have u1 : ∀ u : Up w2, u.val.cell? ⟨w.heap.size, 1, none⟩ = some (.int .i64 H) := fun u => (u.cell lK).trans c1
      have u2 : ∀ u : Up w2, u.val.cell? ⟨w.heap.size, 2, none⟩ = some (.int .i64 8) := fun u => (u.cell lK).trans c2
      have u3 : ∀ u : Up w2, u.val.cell? ⟨w.heap.size, 3, none⟩ = some (.string s) := fun u => (u.cell lK).trans c3
      refine wp_region_up (by kernel_rfl) (by kernel_rfl) ?_
      repeat (go_big_quiet_step (fail))
      refine wpQuiet_nil ?_
      rintro _ ⟨uq, rfl⟩
      replace K := K.below uq.ok lK
      replace hbw := btrans hbw uq.ok
      generalize hwx : uq.val = w3 at *
      clear hwx uq u0 u1 u2 u3 c0 c1 c2 c3 lK
      go_wp2_with fail
      go_ret
      exact ⟨rfl, hbw⟩
  by_cases g1 : 64 < W
  · rw [show sidesB W H = false by unfold sidesB; simp; omega]
    simp only [Bool.false_and]
    have t0 : decide (1 ≤ W) = true := by simp; omega
    have t1 : decide (W ≤ 64) = false := by simp; omega
    rcases hB with rfl | rfl | rfl | rfl
    · go_enter Try.func14, Try.ntmps14
      go_wp2_with fail
      have K := Blk.new w 23 #[.int .i64 W, .int .i64 H, .int .i64 1, .string s]
      have hbw : Below w.heap.size w (w.alloc (.cells #[.int .i64 W, .int .i64 H, .int .i64 1, .string s] 23)) := by (repeat' (first | exact Below.refl _ _ | exact Below.refl _ _ | refine balloc ?_ _ | refine Below.drew ?_ | refine below_drewN ?_ _ | refine bset ?_ (by first | omega | (simp <;> omega)) _))
      generalize hw2 : w.alloc (.cells #[.int .i64 W, .int .i64 H, .int .i64 1, .string s] 23) = w2 at *
      clear hw2
      have c0 := K.cell 0
      have c1 := K.cell 1
      have c2 := K.cell 2
      have c3 := K.cell 3
      have lK := K.lt
      simp only [List.getElem?_toArray, List.getElem?_cons_succ, List.getElem?_cons_zero] at c0 c1 c2 c3
      have u0 : ∀ u : Up w2, u.val.cell? ⟨w.heap.size, 0, none⟩ = some (.int .i64 W) := fun u => (u.cell lK).trans c0
      have u1 : ∀ u : Up w2, u.val.cell? ⟨w.heap.size, 1, none⟩ = some (.int .i64 H) := fun u => (u.cell lK).trans c1
      have u2 : ∀ u : Up w2, u.val.cell? ⟨w.heap.size, 2, none⟩ = some (.int .i64 1) := fun u => (u.cell lK).trans c2
      have u3 : ∀ u : Up w2, u.val.cell? ⟨w.heap.size, 3, none⟩ = some (.string s) := fun u => (u.cell lK).trans c3
      refine wp_region_up (by kernel_rfl) (by kernel_rfl) ?_
      repeat (go_big_quiet_step (fail))
      refine wpQuiet_nil ?_
      rintro _ ⟨uq, rfl⟩
      replace K := K.below uq.ok lK
      replace hbw := btrans hbw uq.ok
      generalize hwx : uq.val = w3 at *
      clear hwx uq u0 u1 u2 u3 c0 c1 c2 c3 lK
      go_wp2_with fail
      go_ret
      exact ⟨rfl, hbw⟩
    · go_enter Try.func14, Try.ntmps14
      go_wp2_with fail
      have K := Blk.new w 23 #[.int .i64 W, .int .i64 H, .int .i64 2, .string s]
      have hbw : Below w.heap.size w (w.alloc (.cells #[.int .i64 W, .int .i64 H, .int .i64 2, .string s] 23)) := by (repeat' (first | exact Below.refl _ _ | exact Below.refl _ _ | refine balloc ?_ _ | refine Below.drew ?_ | refine below_drewN ?_ _ | refine bset ?_ (by first | omega | (simp <;> omega)) _))
      generalize hw2 : w.alloc (.cells #[.int .i64 W, .int .i64 H, .int .i64 2, .string s] 23) = w2 at *
      clear hw2
      have c0 := K.cell 0
      have c1 := K.cell 1
      have c2 := K.cell 2
      have c3 := K.cell 3
      have lK := K.lt
      simp only [List.getElem?_toArray, List.getElem?_cons_succ, List.getElem?_cons_zero] at c0 c1 c2 c3
      have u0 : ∀ u : Up w2, u.val.cell? ⟨w.heap.size, 0, none⟩ = some (.int .i64 W) := fun u => (u.cell lK).trans c0
      have u1 : ∀ u : Up w2, u.val.cell? ⟨w.heap.size, 1, none⟩ = some (.int .i64 H) := fun u => (u.cell lK).trans c1
      have u2 : ∀ u : Up w2, u.val.cell? ⟨w.heap.size, 2, none⟩ = some (.int .i64 2) := fun u => (u.cell lK).trans c2
      have u3 : ∀ u : Up w2, u.val.cell? ⟨w.heap.size, 3, none⟩ = some (.string s) := fun u => (u.cell lK).trans c3
      refine wp_region_up (by kernel_rfl) (by kernel_rfl) ?_
      repeat (go_big_quiet_step (fail))
      refine wpQuiet_nil ?_
      rintro _ ⟨uq, rfl⟩
      replace K := K.below uq.ok lK
      replace hbw := btrans hbw uq.ok
      generalize hwx : uq.val = w3 at *
      clear hwx uq u0 u1 u2 u3 c0 c1 c2 c3 lK
      go_wp2_with fail
      go_ret
      exact ⟨rfl, hbw⟩
    · go_enter Try.func14, Try.ntmps14
      go_wp2_with fail
      have K := Blk.new w 23 #[.int .i64 W, .int .i64 H, .int .i64 4, .string s]
      have hbw : Below w.heap.size w (w.alloc (.cells #[.int .i64 W, .int .i64 H, .int .i64 4, .string s] 23)) := by (repeat' (first | exact Below.refl _ _ | exact Below.refl _ _ | refine balloc ?_ _ | refine Below.drew ?_ | refine below_drewN ?_ _ | refine bset ?_ (by first | omega | (simp <;> omega)) _))
      generalize hw2 : w.alloc (.cells #[.int .i64 W, .int .i64 H, .int .i64 4, .string s] 23) = w2 at *
      clear hw2
      have c0 := K.cell 0
      have c1 := K.cell 1
      have c2 := K.cell 2
      have c3 := K.cell 3
      have lK := K.lt
      simp only [List.getElem?_toArray, List.getElem?_cons_succ, List.getElem?_cons_zero] at c0 c1 c2 c3
      have u0 : ∀ u : Up w2, u.val.cell? ⟨w.heap.size, 0, none⟩ = some (.int .i64 W) := fun u => (u.cell lK).trans c0
      have u1 : ∀ u : Up w2, u.val.cell? ⟨w.heap.size, 1, none⟩ = some (.int .i64 H) := fun u => (u.cell lK).trans c1
      have u2 : ∀ u : Up w2, u.val.cell? ⟨w.heap.size, 2, none⟩ = some (.int .i64 4) := fun u => (u.cell lK).trans c2
      have u3 : ∀ u : Up w2, u.val.cell? ⟨w.heap.size, 3, none⟩ = some (.string s) := fun u => (u.cell lK).trans c3
      refine wp_region_up (by kernel_rfl) (by kernel_rfl) ?_
      repeat (go_big_quiet_step (fail))
      refine wpQuiet_nil ?_
      rintro _ ⟨uq, rfl⟩
      replace K := K.below uq.ok lK
      replace hbw := btrans hbw uq.ok
      generalize hwx : uq.val = w3 at *
      clear hwx uq u0 u1 u2 u3 c0 c1 c2 c3 lK
      go_wp2_with fail
      go_ret
      exact ⟨rfl, hbw⟩
    · go_enter Try.func14, Try.ntmps14
      go_wp2_with fail
      have K := Blk.new w 23 #[.int .i64 W, .int .i64 H, .int .i64 8, .string s]
      have hbw : Below w.heap.size w (w.alloc (.cells #[.int .i64 W, .int .i64 H, .int .i64 8, .string s] 23)) := by (repeat' (first | exact Below.refl _ _ | exact Below.refl _ _ | refine balloc ?_ _ | refine Below.drew ?_ | refine below_drewN ?_ _ | refine bset ?_ (by first | omega | (simp <;> omega)) _))
      generalize hw2 : w.alloc (.cells #[.int .i64 W, .int .i64 H, .int .i64 8, .string s] 23) = w2 at *
      clear hw2
      have c0 := K.cell 0
      have c1 := K.cell 1
      have c2 := K.cell 2
      have c3 := K.cell 3
      have lK := K.lt
      simp only [List.getElem?_toArray, List.getElem?_cons_succ, List.getElem?_cons_zero] at c0 c1 c2 c3
      have u0 : ∀ u : Up w2, u.val.cell? ⟨w.heap.size, 0, none⟩ = some (.int .i64 W) := fun u => (u.cell lK).trans c0
      have u1 : ∀ u : Up w2, u.val.cell? ⟨w.heap.size, 1, none⟩ = some (.int .i64 H) := fun u => (u.cell lK).trans c1
      have u2 : ∀ u : Up w2, u.val.cell? ⟨w.heap.size, 2, none⟩ = some (.int .i64 8) := fun u => (u.cell lK).trans c2
      have u3 : ∀ u : Up w2, u.val.cell? ⟨w.heap.size, 3, none⟩ = some (.string s) := fun u => (u.cell lK).trans c3
      refine wp_region_up (by kernel_rfl) (by kernel_rfl) ?_
      repeat (go_big_quiet_step (fail))
      refine wpQuiet_nil ?_
      rintro _ ⟨uq, rfl⟩
      replace K := K.below uq.ok lK
      replace hbw := btrans hbw uq.ok
      generalize hwx : uq.val = w3 at *
      clear hwx uq u0 u1 u2 u3 c0 c1 c2 c3 lK
      go_wp2_with fail
      go_ret
      exact ⟨rfl, hbw⟩
  by_cases g2 : H < 1
  · rw [show sidesB W H = false by unfold sidesB; simp; omega]
    simp only [Bool.false_and]
    have t0 : decide (1 ≤ W) = true := by simp; omega
    have t1 : decide (W ≤ 64) = true := by simp; omega
    have t2 : decide (1 ≤ H) = false := by simp; omega
    rcases hB with rfl | rfl | rfl | rfl
    · go_enter Try.func14, Try.ntmps14
      go_wp2_with fail
      have K := Blk.new w 23 #[.int .i64 W, .int .i64 H, .int .i64 1, .string s]
      have hbw : Below w.heap.size w (w.alloc (.cells #[.int .i64 W, .int .i64 H, .int .i64 1, .string s] 23)) := by (repeat' (first | exact Below.refl _ _ | exact Below.refl _ _ | refine balloc ?_ _ | refine Below.drew ?_ | refine below_drewN ?_ _ | refine bset ?_ (by first | omega | (simp <;> omega)) _))
      generalize hw2 : w.alloc (.cells #[.int .i64 W, .int .i64 H, .int .i64 1, .string s] 23) = w2 at *
      clear hw2
      have c0 := K.cell 0
      have c1 := K.cell 1
      have c2 := K.cell 2
      have c3 := K.cell 3
      have lK := K.lt
      simp only [List.getElem?_toArray, List.getElem?_cons_succ, List.getElem?_cons_zero] at c0 c1 c2 c3
      have u0 : ∀ u : Up w2, u.val.cell? ⟨w.heap.size, 0, none⟩ = some (.int .i64 W) := fun u => (u.cell lK).trans c0
      have u1 : ∀ u : Up w2, u.val.cell? ⟨w.heap.size, 1, none⟩ = some (.int .i64 H) := fun u => (u.cell lK).trans c1
      have u2 : ∀ u : Up w2, u.val.cell? ⟨w.heap.size, 2, none⟩ = some (.int .i64 1) := fun u => (u.cell lK).trans c2
      have u3 : ∀ u : Up w2, u.val.cell? ⟨w.heap.size, 3, none⟩ = some (.string s) := fun u => (u.cell lK).trans c3
      refine wp_region_up (by kernel_rfl) (by kernel_rfl) ?_
      repeat (go_big_quiet_step (fail))
      refine wpQuiet_nil ?_
      rintro _ ⟨uq, rfl⟩
      replace K := K.below uq.ok lK
      replace hbw := btrans hbw uq.ok
      generalize hwx : uq.val = w3 at *
      clear hwx uq u0 u1 u2 u3 c0 c1 c2 c3 lK
      go_wp2_with fail
      go_ret
      exact ⟨rfl, hbw⟩
    · go_enter Try.func14, Try.ntmps14
      go_wp2_with fail
      have K := Blk.new w 23 #[.int .i64 W, .int .i64 H, .int .i64 2, .string s]
      have hbw : Below w.heap.size w (w.alloc (.cells #[.int .i64 W, .int .i64 H, .int .i64 2, .string s] 23)) := by (repeat' (first | exact Below.refl _ _ | exact Below.refl _ _ | refine balloc ?_ _ | refine Below.drew ?_ | refine below_drewN ?_ _ | refine bset ?_ (by first | omega | (simp <;> omega)) _))
      generalize hw2 : w.alloc (.cells #[.int .i64 W, .int .i64 H, .int .i64 2, .string s] 23) = w2 at *
      clear hw2
      have c0 := K.cell 0
      have c1 := K.cell 1
      have c2 := K.cell 2
      have c3 := K.cell 3
      have lK := K.lt
      simp only [List.getElem?_toArray, List.getElem?_cons_succ, List.getElem?_cons_zero] at c0 c1 c2 c3
      have u0 : ∀ u : Up w2, u.val.cell? ⟨w.heap.size, 0, none⟩ = some (.int .i64 W) := fun u => (u.cell lK).trans c0
      have u1 : ∀ u : Up w2, u.val.cell? ⟨w.heap.size, 1, none⟩ = some (.int .i64 H) := fun u => (u.cell lK).trans c1
      have u2 : ∀ u : Up w2, u.val.cell? ⟨w.heap.size, 2, none⟩ = some (.int .i64 2) := fun u => (u.cell lK).trans c2
      have u3 : ∀ u : Up w2, u.val.cell? ⟨w.heap.size, 3, none⟩ = some (.string s) := fun u => (u.cell lK).trans c3
      refine wp_region_up (by kernel_rfl) (by kernel_rfl) ?_
      repeat (go_big_quiet_step (fail))
      refine wpQuiet_nil ?_
      rintro _ ⟨uq, rfl⟩
      replace K := K.below uq.ok lK
      replace hbw := btrans hbw uq.ok
      generalize hwx : uq.val = w3 at *
      clear hwx uq u0 u1 u2 u3 c0 c1 c2 c3 lK
      go_wp2_with fail
      go_ret
      exact ⟨rfl, hbw⟩
    · go_enter Try.func14, Try.ntmps14
      go_wp2_with fail
      have K := Blk.new w 23 #[.int .i64 W, .int .i64 H, .int .i64 4, .string s]
      have hbw : Below w.heap.size w (w.alloc (.cells #[.int .i64 W, .int .i64 H, .int .i64 4, .string s] 23)) := by (repeat' (first | exact Below.refl _ _ | exact Below.refl _ _ | refine balloc ?_ _ | refine Below.drew ?_ | refine below_drewN ?_ _ | refine bset ?_ (by first | omega | (simp <;> omega)) _))
      generalize hw2 : w.alloc (.cells #[.int .i64 W, .int .i64 H, .int .i64 4, .string s] 23) = w2 at *
      clear hw2
      have c0 := K.cell 0
      have c1 := K.cell 1
      have c2 := K.cell 2
      have c3 := K.cell 3
      have lK := K.lt
      simp only [List.getElem?_toArray, List.getElem?_cons_succ, List.getElem?_cons_zero] at c0 c1 c2 c3
      have u0 : ∀ u : Up w2, u.val.cell? ⟨w.heap.size, 0, none⟩ = some (.int .i64 W) := fun u => (u.cell lK).trans c0
      have u1 : ∀ u : Up w2, u.val.cell? ⟨w.heap.size, 1, none⟩ = some (.int .i64 H) := fun u => (u.cell lK).trans c1
      have u2 : ∀ u : Up w2, u.val.cell? ⟨w.heap.size, 2, none⟩ = some (.int .i64 4) := fun u => (u.cell lK).trans c2
      have u3 : ∀ u : Up w2, u.val.cell? ⟨w.heap.size, 3, none⟩ = some (.string s) := fun u => (u.cell lK).trans c3
      refine wp_region_up (by kernel_rfl) (by kernel_rfl) ?_
      repeat (go_big_quiet_step (fail))
      refine wpQuiet_nil ?_
      rintro _ ⟨uq, rfl⟩
      replace K := K.below uq.ok lK
      replace hbw := btrans hbw uq.ok
      generalize hwx : uq.val = w3 at *
      clear hwx uq u0 u1 u2 u3 c0 c1 c2 c3 lK
      go_wp2_with fail
      go_ret
      exact ⟨rfl, hbw⟩
    · go_enter Try.func14, Try.ntmps14
      go_wp2_with fail
      have K := Blk.new w 23 #[.int .i64 W, .int .i64 H, .int .i64 8, .string s]
      have hbw : Below w.heap.size w (w.alloc (.cells #[.int .i64 W, .int .i64 H, .int .i64 8, .string s] 23)) := by (repeat' (first | exact Below.refl _ _ | exact Below.refl _ _ | refine balloc ?_ _ | refine Below.drew ?_ | refine below_drewN ?_ _ | refine bset ?_ (by first | omega | (simp <;> omega)) _))
      generalize hw2 : w.alloc (.cells #[.int .i64 W, .int .i64 H, .int .i64 8, .string s] 23) = w2 at *
      clear hw2
      have c0 := K.cell 0
      have c1 := K.cell 1
      have c2 := K.cell 2
      have c3 := K.cell 3
      have lK := K.lt
      simp only [List.getElem?_toArray, List.getElem?_cons_succ, List.getElem?_cons_zero] at c0 c1 c2 c3
      have u0 : ∀ u : Up w2, u.val.cell? ⟨w.heap.size, 0, none⟩ = some (.int .i64 W) := fun u => (u.cell lK).trans c0
      have u1 : ∀ u : Up w2, u.val.cell? ⟨w.heap.size, 1, none⟩ = some (.int .i64 H) := fun u => (u.cell lK).trans c1
      have u2 : ∀ u : Up w2, u.val.cell? ⟨w.heap.size, 2, none⟩ = some (.int .i64 8) := fun u => (u.cell lK).trans c2
      have u3 : ∀ u : Up w2, u.val.cell? ⟨w.heap.size, 3, none⟩ = some (.string s) := fun u => (u.cell lK).trans c3
      refine wp_region_up (by kernel_rfl) (by kernel_rfl) ?_
      repeat (go_big_quiet_step (fail))
      refine wpQuiet_nil ?_
      rintro _ ⟨uq, rfl⟩
      replace K := K.below uq.ok lK
      replace hbw := btrans hbw uq.ok
      generalize hwx : uq.val = w3 at *
      clear hwx uq u0 u1 u2 u3 c0 c1 c2 c3 lK
      go_wp2_with fail
      go_ret
      exact ⟨rfl, hbw⟩
  by_cases g3 : 64 < H
  · rw [show sidesB W H = false by unfold sidesB; simp; omega]
    simp only [Bool.false_and]
    have t0 : decide (1 ≤ W) = true := by simp; omega
    have t1 : decide (W ≤ 64) = true := by simp; omega
    have t2 : decide (1 ≤ H) = true := by simp; omega
    have t3 : decide (H ≤ 64) = false := by simp; omega
    rcases hB with rfl | rfl | rfl | rfl
    · go_enter Try.func14, Try.ntmps14
      go_wp2_with fail
      have K := Blk.new w 23 #[.int .i64 W, .int .i64 H, .int .i64 1, .string s]
      have hbw : Below w.heap.size w (w.alloc (.cells #[.int .i64 W, .int .i64 H, .int .i64 1, .string s] 23)) := by (repeat' (first | exact Below.refl _ _ | exact Below.refl _ _ | refine balloc ?_ _ | refine Below.drew ?_ | refine below_drewN ?_ _ | refine bset ?_ (by first | omega | (simp <;> omega)) _))
      generalize hw2 : w.alloc (.cells #[.int .i64 W, .int .i64 H, .int .i64 1, .string s] 23) = w2 at *
      clear hw2
      have c0 := K.cell 0
      have c1 := K.cell 1
      have c2 := K.cell 2
      have c3 := K.cell 3
      have lK := K.lt
      simp only [List.getElem?_toArray, List.getElem?_cons_succ, List.getElem?_cons_zero] at c0 c1 c2 c3
      have u0 : ∀ u : Up w2, u.val.cell? ⟨w.heap.size, 0, none⟩ = some (.int .i64 W) := fun u => (u.cell lK).trans c0
      have u1 : ∀ u : Up w2, u.val.cell? ⟨w.heap.size, 1, none⟩ = some (.int .i64 H) := fun u => (u.cell lK).trans c1
      have u2 : ∀ u : Up w2, u.val.cell? ⟨w.heap.size, 2, none⟩ = some (.int .i64 1) := fun u => (u.cell lK).trans c2
      have u3 : ∀ u : Up w2, u.val.cell? ⟨w.heap.size, 3, none⟩ = some (.string s) := fun u => (u.cell lK).trans c3
      refine wp_region_up (by kernel_rfl) (by kernel_rfl) ?_
      repeat (go_big_quiet_step (fail))
      refine wpQuiet_nil ?_
      rintro _ ⟨uq, rfl⟩
      replace K := K.below uq.ok lK
      replace hbw := btrans hbw uq.ok
      generalize hwx : uq.val = w3 at *
      clear hwx uq u0 u1 u2 u3 c0 c1 c2 c3 lK
      go_wp2_with fail
      go_ret
      exact ⟨rfl, hbw⟩
    · go_enter Try.func14, Try.ntmps14
      go_wp2_with fail
      have K := Blk.new w 23 #[.int .i64 W, .int .i64 H, .int .i64 2, .string s]
      have hbw : Below w.heap.size w (w.alloc (.cells #[.int .i64 W, .int .i64 H, .int .i64 2, .string s] 23)) := by (repeat' (first | exact Below.refl _ _ | exact Below.refl _ _ | refine balloc ?_ _ | refine Below.drew ?_ | refine below_drewN ?_ _ | refine bset ?_ (by first | omega | (simp <;> omega)) _))
      generalize hw2 : w.alloc (.cells #[.int .i64 W, .int .i64 H, .int .i64 2, .string s] 23) = w2 at *
      clear hw2
      have c0 := K.cell 0
      have c1 := K.cell 1
      have c2 := K.cell 2
      have c3 := K.cell 3
      have lK := K.lt
      simp only [List.getElem?_toArray, List.getElem?_cons_succ, List.getElem?_cons_zero] at c0 c1 c2 c3
      have u0 : ∀ u : Up w2, u.val.cell? ⟨w.heap.size, 0, none⟩ = some (.int .i64 W) := fun u => (u.cell lK).trans c0
      have u1 : ∀ u : Up w2, u.val.cell? ⟨w.heap.size, 1, none⟩ = some (.int .i64 H) := fun u => (u.cell lK).trans c1
      have u2 : ∀ u : Up w2, u.val.cell? ⟨w.heap.size, 2, none⟩ = some (.int .i64 2) := fun u => (u.cell lK).trans c2
      have u3 : ∀ u : Up w2, u.val.cell? ⟨w.heap.size, 3, none⟩ = some (.string s) := fun u => (u.cell lK).trans c3
      refine wp_region_up (by kernel_rfl) (by kernel_rfl) ?_
      repeat (go_big_quiet_step (fail))
      refine wpQuiet_nil ?_
      rintro _ ⟨uq, rfl⟩
      replace K := K.below uq.ok lK
      replace hbw := btrans hbw uq.ok
      generalize hwx : uq.val = w3 at *
      clear hwx uq u0 u1 u2 u3 c0 c1 c2 c3 lK
      go_wp2_with fail
      go_ret
      exact ⟨rfl, hbw⟩
    · go_enter Try.func14, Try.ntmps14
      go_wp2_with fail
      have K := Blk.new w 23 #[.int .i64 W, .int .i64 H, .int .i64 4, .string s]
      have hbw : Below w.heap.size w (w.alloc (.cells #[.int .i64 W, .int .i64 H, .int .i64 4, .string s] 23)) := by (repeat' (first | exact Below.refl _ _ | exact Below.refl _ _ | refine balloc ?_ _ | refine Below.drew ?_ | refine below_drewN ?_ _ | refine bset ?_ (by first | omega | (simp <;> omega)) _))
      generalize hw2 : w.alloc (.cells #[.int .i64 W, .int .i64 H, .int .i64 4, .string s] 23) = w2 at *
      clear hw2
      have c0 := K.cell 0
      have c1 := K.cell 1
      have c2 := K.cell 2
      have c3 := K.cell 3
      have lK := K.lt
      simp only [List.getElem?_toArray, List.getElem?_cons_succ, List.getElem?_cons_zero] at c0 c1 c2 c3
      have u0 : ∀ u : Up w2, u.val.cell? ⟨w.heap.size, 0, none⟩ = some (.int .i64 W) := fun u => (u.cell lK).trans c0
      have u1 : ∀ u : Up w2, u.val.cell? ⟨w.heap.size, 1, none⟩ = some (.int .i64 H) := fun u => (u.cell lK).trans c1
      have u2 : ∀ u : Up w2, u.val.cell? ⟨w.heap.size, 2, none⟩ = some (.int .i64 4) := fun u => (u.cell lK).trans c2
      have u3 : ∀ u : Up w2, u.val.cell? ⟨w.heap.size, 3, none⟩ = some (.string s) := fun u => (u.cell lK).trans c3
      refine wp_region_up (by kernel_rfl) (by kernel_rfl) ?_
      repeat (go_big_quiet_step (fail))
      refine wpQuiet_nil ?_
      rintro _ ⟨uq, rfl⟩
      replace K := K.below uq.ok lK
      replace hbw := btrans hbw uq.ok
      generalize hwx : uq.val = w3 at *
      clear hwx uq u0 u1 u2 u3 c0 c1 c2 c3 lK
      go_wp2_with fail
      go_ret
      exact ⟨rfl, hbw⟩
    · go_enter Try.func14, Try.ntmps14
      go_wp2_with fail
      have K := Blk.new w 23 #[.int .i64 W, .int .i64 H, .int .i64 8, .string s]
      have hbw : Below w.heap.size w (w.alloc (.cells #[.int .i64 W, .int .i64 H, .int .i64 8, .string s] 23)) := by (repeat' (first | exact Below.refl _ _ | exact Below.refl _ _ | refine balloc ?_ _ | refine Below.drew ?_ | refine below_drewN ?_ _ | refine bset ?_ (by first | omega | (simp <;> omega)) _))
      generalize hw2 : w.alloc (.cells #[.int .i64 W, .int .i64 H, .int .i64 8, .string s] 23) = w2 at *
      clear hw2
      have c0 := K.cell 0
      have c1 := K.cell 1
      have c2 := K.cell 2
      have c3 := K.cell 3
      have lK := K.lt
      simp only [List.getElem?_toArray, List.getElem?_cons_succ, List.getElem?_cons_zero] at c0 c1 c2 c3
      have u0 : ∀ u : Up w2, u.val.cell? ⟨w.heap.size, 0, none⟩ = some (.int .i64 W) := fun u => (u.cell lK).trans c0
      have u1 : ∀ u : Up w2, u.val.cell? ⟨w.heap.size, 1, none⟩ = some (.int .i64 H) := fun u => (u.cell lK).trans c1
      have u2 : ∀ u : Up w2, u.val.cell? ⟨w.heap.size, 2, none⟩ = some (.int .i64 8) := fun u => (u.cell lK).trans c2
      have u3 : ∀ u : Up w2, u.val.cell? ⟨w.heap.size, 3, none⟩ = some (.string s) := fun u => (u.cell lK).trans c3
      refine wp_region_up (by kernel_rfl) (by kernel_rfl) ?_
      repeat (go_big_quiet_step (fail))
      refine wpQuiet_nil ?_
      rintro _ ⟨uq, rfl⟩
      replace K := K.below uq.ok lK
      replace hbw := btrans hbw uq.ok
      generalize hwx : uq.val = w3 at *
      clear hwx uq u0 u1 u2 u3 c0 c1 c2 c3 lK
      go_wp2_with fail
      go_ret
      exact ⟨rfl, hbw⟩
  have hW : 1 ≤ W ∧ W ≤ 64 := ⟨by omega, by omega⟩
  have hH : 1 ≤ H ∧ H ≤ 64 := ⟨by omega, by omega⟩
  rw [show sidesB W H = true by unfold sidesB; simp; omega]
  simp only [Bool.true_and]
  have hRb := rowI_bd hW (show 1 ≤ B ∧ B ≤ 8 by omega)
  have hpb := area_bd hH hRb.2.2
  obtain ⟨m0, m1, m2, m3⟩ := hRb
  obtain ⟨m4, m5⟩ := hpb
  obtain ⟨hH0, hH1⟩ := hH
  have t0 : decide (1 ≤ W) = true := by simp; omega
  have t1 : decide (W ≤ 64) = true := by simp; omega
  have t2 : decide (1 ≤ H) = true := by simp; omega
  have t3 : decide (H ≤ 64) = true := by simp; omega
  · skip
    rcases hB with rfl | rfl | rfl | rfl
    · go_enter Try.func14, Try.ntmps14
      go_wp2_with fail
      have K := Blk.new w 23 #[.int .i64 W, .int .i64 H, .int .i64 1, .string s]
      have hbw : Below w.heap.size w (w.alloc (.cells #[.int .i64 W, .int .i64 H, .int .i64 1, .string s] 23)) := by (repeat' (first | exact Below.refl _ _ | exact Below.refl _ _ | refine balloc ?_ _ | refine Below.drew ?_ | refine below_drewN ?_ _ | refine bset ?_ (by first | omega | (simp <;> omega)) _))
      generalize hw2 : w.alloc (.cells #[.int .i64 W, .int .i64 H, .int .i64 1, .string s] 23) = w2 at *
      clear hw2
      have c0 := K.cell 0
      have c1 := K.cell 1
      have c2 := K.cell 2
      have c3 := K.cell 3
      have lK := K.lt
      simp only [List.getElem?_toArray, List.getElem?_cons_succ, List.getElem?_cons_zero] at c0 c1 c2 c3
      have u0 : ∀ u : Up w2, u.val.cell? ⟨w.heap.size, 0, none⟩ = some (.int .i64 W) := fun u => (u.cell lK).trans c0
      have u1 : ∀ u : Up w2, u.val.cell? ⟨w.heap.size, 1, none⟩ = some (.int .i64 H) := fun u => (u.cell lK).trans c1
      have u2 : ∀ u : Up w2, u.val.cell? ⟨w.heap.size, 2, none⟩ = some (.int .i64 1) := fun u => (u.cell lK).trans c2
      have u3 : ∀ u : Up w2, u.val.cell? ⟨w.heap.size, 3, none⟩ = some (.string s) := fun u => (u.cell lK).trans c3
      have HU := Lib.hid (fun u : Up w2 => up_of (u := u) (row_any W H 1 s u.val hW (by decide)))
      generalize hR : rowI W 1 = R at *
      generalize hp : H * R = p at *
      refine wp_region_up (by kernel_rfl) (by kernel_rfl) ?_
      repeat (go_big_quiet_step (fail))
      go_big_quiet_step (exact HU.out _)
      repeat (go_big_quiet_step (fail))
      refine wpQuiet_nil ?_
      rintro _ ⟨uq, rfl⟩
      replace K := K.below uq.ok lK
      replace hbw := btrans hbw uq.ok
      generalize hwx : uq.val = w3 at *
      clear hwx uq u0 u1 u2 u3 c0 c1 c2 c3 lK
      go_wp2_with fail
      go_ret
      exact ⟨by rw [hR, hp]; rfl, hbw⟩
    · go_enter Try.func14, Try.ntmps14
      go_wp2_with fail
      have K := Blk.new w 23 #[.int .i64 W, .int .i64 H, .int .i64 2, .string s]
      have hbw : Below w.heap.size w (w.alloc (.cells #[.int .i64 W, .int .i64 H, .int .i64 2, .string s] 23)) := by (repeat' (first | exact Below.refl _ _ | exact Below.refl _ _ | refine balloc ?_ _ | refine Below.drew ?_ | refine below_drewN ?_ _ | refine bset ?_ (by first | omega | (simp <;> omega)) _))
      generalize hw2 : w.alloc (.cells #[.int .i64 W, .int .i64 H, .int .i64 2, .string s] 23) = w2 at *
      clear hw2
      have c0 := K.cell 0
      have c1 := K.cell 1
      have c2 := K.cell 2
      have c3 := K.cell 3
      have lK := K.lt
      simp only [List.getElem?_toArray, List.getElem?_cons_succ, List.getElem?_cons_zero] at c0 c1 c2 c3
      have u0 : ∀ u : Up w2, u.val.cell? ⟨w.heap.size, 0, none⟩ = some (.int .i64 W) := fun u => (u.cell lK).trans c0
      have u1 : ∀ u : Up w2, u.val.cell? ⟨w.heap.size, 1, none⟩ = some (.int .i64 H) := fun u => (u.cell lK).trans c1
      have u2 : ∀ u : Up w2, u.val.cell? ⟨w.heap.size, 2, none⟩ = some (.int .i64 2) := fun u => (u.cell lK).trans c2
      have u3 : ∀ u : Up w2, u.val.cell? ⟨w.heap.size, 3, none⟩ = some (.string s) := fun u => (u.cell lK).trans c3
      have HU := Lib.hid (fun u : Up w2 => up_of (u := u) (row_any W H 2 s u.val hW (by decide)))
      generalize hR : rowI W 2 = R at *
      generalize hp : H * R = p at *
      refine wp_region_up (by kernel_rfl) (by kernel_rfl) ?_
      repeat (go_big_quiet_step (fail))
      go_big_quiet_step (exact HU.out _)
      repeat (go_big_quiet_step (fail))
      refine wpQuiet_nil ?_
      rintro _ ⟨uq, rfl⟩
      replace K := K.below uq.ok lK
      replace hbw := btrans hbw uq.ok
      generalize hwx : uq.val = w3 at *
      clear hwx uq u0 u1 u2 u3 c0 c1 c2 c3 lK
      go_wp2_with fail
      go_ret
      exact ⟨by rw [hR, hp]; rfl, hbw⟩
    · go_enter Try.func14, Try.ntmps14
      go_wp2_with fail
      have K := Blk.new w 23 #[.int .i64 W, .int .i64 H, .int .i64 4, .string s]
      have hbw : Below w.heap.size w (w.alloc (.cells #[.int .i64 W, .int .i64 H, .int .i64 4, .string s] 23)) := by (repeat' (first | exact Below.refl _ _ | exact Below.refl _ _ | refine balloc ?_ _ | refine Below.drew ?_ | refine below_drewN ?_ _ | refine bset ?_ (by first | omega | (simp <;> omega)) _))
      generalize hw2 : w.alloc (.cells #[.int .i64 W, .int .i64 H, .int .i64 4, .string s] 23) = w2 at *
      clear hw2
      have c0 := K.cell 0
      have c1 := K.cell 1
      have c2 := K.cell 2
      have c3 := K.cell 3
      have lK := K.lt
      simp only [List.getElem?_toArray, List.getElem?_cons_succ, List.getElem?_cons_zero] at c0 c1 c2 c3
      have u0 : ∀ u : Up w2, u.val.cell? ⟨w.heap.size, 0, none⟩ = some (.int .i64 W) := fun u => (u.cell lK).trans c0
      have u1 : ∀ u : Up w2, u.val.cell? ⟨w.heap.size, 1, none⟩ = some (.int .i64 H) := fun u => (u.cell lK).trans c1
      have u2 : ∀ u : Up w2, u.val.cell? ⟨w.heap.size, 2, none⟩ = some (.int .i64 4) := fun u => (u.cell lK).trans c2
      have u3 : ∀ u : Up w2, u.val.cell? ⟨w.heap.size, 3, none⟩ = some (.string s) := fun u => (u.cell lK).trans c3
      have HU := Lib.hid (fun u : Up w2 => up_of (u := u) (row_any W H 4 s u.val hW (by decide)))
      generalize hR : rowI W 4 = R at *
      generalize hp : H * R = p at *
      refine wp_region_up (by kernel_rfl) (by kernel_rfl) ?_
      repeat (go_big_quiet_step (fail))
      go_big_quiet_step (exact HU.out _)
      repeat (go_big_quiet_step (fail))
      refine wpQuiet_nil ?_
      rintro _ ⟨uq, rfl⟩
      replace K := K.below uq.ok lK
      replace hbw := btrans hbw uq.ok
      generalize hwx : uq.val = w3 at *
      clear hwx uq u0 u1 u2 u3 c0 c1 c2 c3 lK
      go_wp2_with fail
      go_ret
      exact ⟨by rw [hR, hp]; rfl, hbw⟩
    · go_enter Try.func14, Try.ntmps14
      go_wp2_with fail
      have K := Blk.new w 23 #[.int .i64 W, .int .i64 H, .int .i64 8, .string s]
      have hbw : Below w.heap.size w (w.alloc (.cells #[.int .i64 W, .int .i64 H, .int .i64 8, .string s] 23)) := by (repeat' (first | exact Below.refl _ _ | exact Below.refl _ _ | refine balloc ?_ _ | refine Below.drew ?_ | refine below_drewN ?_ _ | refine bset ?_ (by first | omega | (simp <;> omega)) _))
      generalize hw2 : w.alloc (.cells #[.int .i64 W, .int .i64 H, .int .i64 8, .string s] 23) = w2 at *
      clear hw2
      have c0 := K.cell 0
      have c1 := K.cell 1
      have c2 := K.cell 2
      have c3 := K.cell 3
      have lK := K.lt
      simp only [List.getElem?_toArray, List.getElem?_cons_succ, List.getElem?_cons_zero] at c0 c1 c2 c3
      have u0 : ∀ u : Up w2, u.val.cell? ⟨w.heap.size, 0, none⟩ = some (.int .i64 W) := fun u => (u.cell lK).trans c0
      have u1 : ∀ u : Up w2, u.val.cell? ⟨w.heap.size, 1, none⟩ = some (.int .i64 H) := fun u => (u.cell lK).trans c1
      have u2 : ∀ u : Up w2, u.val.cell? ⟨w.heap.size, 2, none⟩ = some (.int .i64 8) := fun u => (u.cell lK).trans c2
      have u3 : ∀ u : Up w2, u.val.cell? ⟨w.heap.size, 3, none⟩ = some (.string s) := fun u => (u.cell lK).trans c3
      have HU := Lib.hid (fun u : Up w2 => up_of (u := u) (row_any W H 8 s u.val hW (by decide)))
      generalize hR : rowI W 8 = R at *
      generalize hp : H * R = p at *
      refine wp_region_up (by kernel_rfl) (by kernel_rfl) ?_
      repeat (go_big_quiet_step (fail))
      go_big_quiet_step (exact HU.out _)
      repeat (go_big_quiet_step (fail))
      refine wpQuiet_nil ?_
      rintro _ ⟨uq, rfl⟩
      replace K := K.below uq.ok lK
      replace hbw := btrans hbw uq.ok
      generalize hwx : uq.val = w3 at *
      clear hwx uq u0 u1 u2 u3 c0 c1 c2 c3 lK
      go_wp2_with fail
      go_ret
      exact ⟨by rw [hR, hp]; rfl, hbw⟩

theorem may37_any (W H B : Int) (s : ByteArray) (w : World) (hs : (s.size : Int) ≤ 9223372036854775807) : Calls Try.prog 14 #[.agg #[.int .i64 W, .int .i64 H, .int .i64 B, .string s]] w fun e w' => e = .returned (.bool (mayI W H B s.size)) ∧ Below w.heap.size w w' := by
  unfold mayI
  cases hb : bitsB B with
  | true => have := may37_bits W H B s w hs (bitsB_of hb); simpa using this
  | false =>
    have h := hb
    unfold bitsB at h
    simp only [Bool.or_eq_false_iff] at h
    exact may37_nob W H B s w h.1.1.1 h.1.1.2 h.1.2 h.2
set_option maxRecDepth 100000 in
set_option maxHeartbeats 1600000 in
theorem rmay37_any (W H B : Int) (s : ByteArray) (w : World) (hs : (s.size : Int) ≤ 9223372036854775807) : Calls Try.prog 15 #[.agg #[.int .i64 W, .int .i64 H, .int .i64 B, .string s]] w fun e w' => e = .returned (.bool (mayI W H B s.size)) ∧ Below w.heap.size w w' := by
  by_cases g0 : W < 1
  · rw [show mayI W H B s.size = false by unfold mayI; rw [show sidesB W H = false by unfold sidesB; simp; omega]; simp]
    go_enter Try.func15, Try.ntmps15
    go_wp2_with fail
    go_ret
    exact ⟨rfl, by (repeat' (first | exact Below.refl _ _ | exact Below.refl _ _ | refine balloc ?_ _ | refine Below.drew ?_ | refine below_drewN ?_ _ | refine bset ?_ (by first | omega | (simp <;> omega)) _))⟩
  by_cases g1 : 64 < W
  · rw [show mayI W H B s.size = false by unfold mayI; rw [show sidesB W H = false by unfold sidesB; simp; omega]; simp]
    go_enter Try.func15, Try.ntmps15
    go_wp2_with fail
    go_ret
    exact ⟨rfl, by (repeat' (first | exact Below.refl _ _ | exact Below.refl _ _ | refine balloc ?_ _ | refine Below.drew ?_ | refine below_drewN ?_ _ | refine bset ?_ (by first | omega | (simp <;> omega)) _))⟩
  by_cases g2 : H < 1
  · rw [show mayI W H B s.size = false by unfold mayI; rw [show sidesB W H = false by unfold sidesB; simp; omega]; simp]
    go_enter Try.func15, Try.ntmps15
    go_wp2_with fail
    go_ret
    exact ⟨rfl, by (repeat' (first | exact Below.refl _ _ | exact Below.refl _ _ | refine balloc ?_ _ | refine Below.drew ?_ | refine below_drewN ?_ _ | refine bset ?_ (by first | omega | (simp <;> omega)) _))⟩
  by_cases g3 : 64 < H
  · rw [show mayI W H B s.size = false by unfold mayI; rw [show sidesB W H = false by unfold sidesB; simp; omega]; simp]
    go_enter Try.func15, Try.ntmps15
    go_wp2_with fail
    go_ret
    exact ⟨rfl, by (repeat' (first | exact Below.refl _ _ | exact Below.refl _ _ | refine balloc ?_ _ | refine Below.drew ?_ | refine below_drewN ?_ _ | refine bset ?_ (by first | omega | (simp <;> omega)) _))⟩
  cases hb : bitsB B with
  | false =>
    rw [show mayI W H B s.size = false by unfold mayI; rw [hb]; rfl]
    have h := hb
    unfold bitsB at h
    simp only [Bool.or_eq_false_iff, beq_eq_false_iff_ne, ne_eq] at h
    obtain ⟨⟨⟨h1, h2⟩, h4⟩, h8⟩ := h
    clear hb
    have n1 : (B != 1) = true := by simp [h1]
    have n2 : (B != 2) = true := by simp [h2]
    have n4 : (B != 4) = true := by simp [h4]
    have n8 : (B != 8) = true := by simp [h8]
    go_enter Try.func15, Try.ntmps15
    go_wp2_with fail
    go_ret
    exact ⟨rfl, by (repeat' (first | exact Below.refl _ _ | exact Below.refl _ _ | refine balloc ?_ _ | refine Below.drew ?_ | refine below_drewN ?_ _ | refine bset ?_ (by first | omega | (simp <;> omega)) _))⟩
  | true =>
    have hB := bitsB_of hb
    have hW : 1 ≤ W ∧ W ≤ 64 := ⟨by omega, by omega⟩
    have hH : 1 ≤ H ∧ H ≤ 64 := ⟨by omega, by omega⟩
    rw [show mayI W H B s.size = ((s.size : Int) == H * rowI W B) by unfold mayI; rw [hb, show sidesB W H = true by unfold sidesB; simp; omega]; simp]
    have hRb := rowI_bd hW (show 1 ≤ B ∧ B ≤ 8 by omega)
    have hpb := area_bd hH hRb.2.2
    obtain ⟨m0, m1, m2, m3⟩ := hRb
    obtain ⟨m4, m5⟩ := hpb
    obtain ⟨hH0, hH1⟩ := hH
    clear hb
    rcases hB with rfl | rfl | rfl | rfl
    · go_enter Try.func15, Try.ntmps15
      go_wp2_with fail
      have K := Blk.new w 23 #[.int .i64 W, .int .i64 H, .int .i64 1, .string s]
      have hbw : Below w.heap.size w (w.alloc (.cells #[.int .i64 W, .int .i64 H, .int .i64 1, .string s] 23)) := by (repeat' (first | exact Below.refl _ _ | exact Below.refl _ _ | refine balloc ?_ _ | refine Below.drew ?_ | refine below_drewN ?_ _ | refine bset ?_ (by first | omega | (simp <;> omega)) _))
      generalize hw2 : w.alloc (.cells #[.int .i64 W, .int .i64 H, .int .i64 1, .string s] 23) = w2 at *
      clear hw2
      have c0 := K.cell 0
      have c1 := K.cell 1
      have c2 := K.cell 2
      have c3 := K.cell 3
      have lK := K.lt
      simp only [List.getElem?_toArray, List.getElem?_cons_succ, List.getElem?_cons_zero] at c0 c1 c2 c3
      have u0 : ∀ u : Up w2, u.val.cell? ⟨w.heap.size, 0, none⟩ = some (.int .i64 W) := fun u => (u.cell lK).trans c0
      have u1 : ∀ u : Up w2, u.val.cell? ⟨w.heap.size, 1, none⟩ = some (.int .i64 H) := fun u => (u.cell lK).trans c1
      have u2 : ∀ u : Up w2, u.val.cell? ⟨w.heap.size, 2, none⟩ = some (.int .i64 1) := fun u => (u.cell lK).trans c2
      have u3 : ∀ u : Up w2, u.val.cell? ⟨w.heap.size, 3, none⟩ = some (.string s) := fun u => (u.cell lK).trans c3
      have HU := Lib.hid (fun u : Up w2 => up_of (u := u) (rrow_any W H 1 s u.val hW (by decide)))
      generalize hR : rowI W 1 = R at *
      generalize hp : H * R = p at *
      refine wp_region_up (by kernel_rfl) (by kernel_rfl) ?_
      repeat (go_big_quiet_step (fail))
      go_big_quiet_step (exact HU.out _)
      repeat (go_big_quiet_step (fail))
      refine wpQuiet_nil ?_
      rintro _ ⟨uq, rfl⟩
      replace K := K.below uq.ok lK
      replace hbw := btrans hbw uq.ok
      generalize hwx : uq.val = w3 at *
      clear hwx uq u0 u1 u2 u3 c0 c1 c2 c3 lK
      go_wp2_with fail
      go_ret
      exact ⟨by rw [hR, hp]; rfl, hbw⟩
    · go_enter Try.func15, Try.ntmps15
      go_wp2_with fail
      have K := Blk.new w 23 #[.int .i64 W, .int .i64 H, .int .i64 2, .string s]
      have hbw : Below w.heap.size w (w.alloc (.cells #[.int .i64 W, .int .i64 H, .int .i64 2, .string s] 23)) := by (repeat' (first | exact Below.refl _ _ | exact Below.refl _ _ | refine balloc ?_ _ | refine Below.drew ?_ | refine below_drewN ?_ _ | refine bset ?_ (by first | omega | (simp <;> omega)) _))
      generalize hw2 : w.alloc (.cells #[.int .i64 W, .int .i64 H, .int .i64 2, .string s] 23) = w2 at *
      clear hw2
      have c0 := K.cell 0
      have c1 := K.cell 1
      have c2 := K.cell 2
      have c3 := K.cell 3
      have lK := K.lt
      simp only [List.getElem?_toArray, List.getElem?_cons_succ, List.getElem?_cons_zero] at c0 c1 c2 c3
      have u0 : ∀ u : Up w2, u.val.cell? ⟨w.heap.size, 0, none⟩ = some (.int .i64 W) := fun u => (u.cell lK).trans c0
      have u1 : ∀ u : Up w2, u.val.cell? ⟨w.heap.size, 1, none⟩ = some (.int .i64 H) := fun u => (u.cell lK).trans c1
      have u2 : ∀ u : Up w2, u.val.cell? ⟨w.heap.size, 2, none⟩ = some (.int .i64 2) := fun u => (u.cell lK).trans c2
      have u3 : ∀ u : Up w2, u.val.cell? ⟨w.heap.size, 3, none⟩ = some (.string s) := fun u => (u.cell lK).trans c3
      have HU := Lib.hid (fun u : Up w2 => up_of (u := u) (rrow_any W H 2 s u.val hW (by decide)))
      generalize hR : rowI W 2 = R at *
      generalize hp : H * R = p at *
      refine wp_region_up (by kernel_rfl) (by kernel_rfl) ?_
      repeat (go_big_quiet_step (fail))
      go_big_quiet_step (exact HU.out _)
      repeat (go_big_quiet_step (fail))
      refine wpQuiet_nil ?_
      rintro _ ⟨uq, rfl⟩
      replace K := K.below uq.ok lK
      replace hbw := btrans hbw uq.ok
      generalize hwx : uq.val = w3 at *
      clear hwx uq u0 u1 u2 u3 c0 c1 c2 c3 lK
      go_wp2_with fail
      go_ret
      exact ⟨by rw [hR, hp]; rfl, hbw⟩
    · go_enter Try.func15, Try.ntmps15
      go_wp2_with fail
      have K := Blk.new w 23 #[.int .i64 W, .int .i64 H, .int .i64 4, .string s]
      have hbw : Below w.heap.size w (w.alloc (.cells #[.int .i64 W, .int .i64 H, .int .i64 4, .string s] 23)) := by (repeat' (first | exact Below.refl _ _ | exact Below.refl _ _ | refine balloc ?_ _ | refine Below.drew ?_ | refine below_drewN ?_ _ | refine bset ?_ (by first | omega | (simp <;> omega)) _))
      generalize hw2 : w.alloc (.cells #[.int .i64 W, .int .i64 H, .int .i64 4, .string s] 23) = w2 at *
      clear hw2
      have c0 := K.cell 0
      have c1 := K.cell 1
      have c2 := K.cell 2
      have c3 := K.cell 3
      have lK := K.lt
      simp only [List.getElem?_toArray, List.getElem?_cons_succ, List.getElem?_cons_zero] at c0 c1 c2 c3
      have u0 : ∀ u : Up w2, u.val.cell? ⟨w.heap.size, 0, none⟩ = some (.int .i64 W) := fun u => (u.cell lK).trans c0
      have u1 : ∀ u : Up w2, u.val.cell? ⟨w.heap.size, 1, none⟩ = some (.int .i64 H) := fun u => (u.cell lK).trans c1
      have u2 : ∀ u : Up w2, u.val.cell? ⟨w.heap.size, 2, none⟩ = some (.int .i64 4) := fun u => (u.cell lK).trans c2
      have u3 : ∀ u : Up w2, u.val.cell? ⟨w.heap.size, 3, none⟩ = some (.string s) := fun u => (u.cell lK).trans c3
      have HU := Lib.hid (fun u : Up w2 => up_of (u := u) (rrow_any W H 4 s u.val hW (by decide)))
      generalize hR : rowI W 4 = R at *
      generalize hp : H * R = p at *
      refine wp_region_up (by kernel_rfl) (by kernel_rfl) ?_
      repeat (go_big_quiet_step (fail))
      go_big_quiet_step (exact HU.out _)
      repeat (go_big_quiet_step (fail))
      refine wpQuiet_nil ?_
      rintro _ ⟨uq, rfl⟩
      replace K := K.below uq.ok lK
      replace hbw := btrans hbw uq.ok
      generalize hwx : uq.val = w3 at *
      clear hwx uq u0 u1 u2 u3 c0 c1 c2 c3 lK
      go_wp2_with fail
      go_ret
      exact ⟨by rw [hR, hp]; rfl, hbw⟩
    · go_enter Try.func15, Try.ntmps15
      go_wp2_with fail
      have K := Blk.new w 23 #[.int .i64 W, .int .i64 H, .int .i64 8, .string s]
      have hbw : Below w.heap.size w (w.alloc (.cells #[.int .i64 W, .int .i64 H, .int .i64 8, .string s] 23)) := by (repeat' (first | exact Below.refl _ _ | exact Below.refl _ _ | refine balloc ?_ _ | refine Below.drew ?_ | refine below_drewN ?_ _ | refine bset ?_ (by first | omega | (simp <;> omega)) _))
      generalize hw2 : w.alloc (.cells #[.int .i64 W, .int .i64 H, .int .i64 8, .string s] 23) = w2 at *
      clear hw2
      have c0 := K.cell 0
      have c1 := K.cell 1
      have c2 := K.cell 2
      have c3 := K.cell 3
      have lK := K.lt
      simp only [List.getElem?_toArray, List.getElem?_cons_succ, List.getElem?_cons_zero] at c0 c1 c2 c3
      have u0 : ∀ u : Up w2, u.val.cell? ⟨w.heap.size, 0, none⟩ = some (.int .i64 W) := fun u => (u.cell lK).trans c0
      have u1 : ∀ u : Up w2, u.val.cell? ⟨w.heap.size, 1, none⟩ = some (.int .i64 H) := fun u => (u.cell lK).trans c1
      have u2 : ∀ u : Up w2, u.val.cell? ⟨w.heap.size, 2, none⟩ = some (.int .i64 8) := fun u => (u.cell lK).trans c2
      have u3 : ∀ u : Up w2, u.val.cell? ⟨w.heap.size, 3, none⟩ = some (.string s) := fun u => (u.cell lK).trans c3
      have HU := Lib.hid (fun u : Up w2 => up_of (u := u) (rrow_any W H 8 s u.val hW (by decide)))
      generalize hR : rowI W 8 = R at *
      generalize hp : H * R = p at *
      refine wp_region_up (by kernel_rfl) (by kernel_rfl) ?_
      repeat (go_big_quiet_step (fail))
      go_big_quiet_step (exact HU.out _)
      repeat (go_big_quiet_step (fail))
      refine wpQuiet_nil ?_
      rintro _ ⟨uq, rfl⟩
      replace K := K.below uq.ok lK
      replace hbw := btrans hbw uq.ok
      generalize hwx : uq.val = w3 at *
      clear hwx uq u0 u1 u2 u3 c0 c1 c2 c3 lK
      go_wp2_with fail
      go_ret
      exact ⟨by rw [hR, hp]; rfl, hbw⟩

end Go.Proofs.Ytegpjjkbbdfggaa.im
