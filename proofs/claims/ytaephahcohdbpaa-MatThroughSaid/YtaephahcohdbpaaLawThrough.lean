/-
  MatThrough: products of matrices of whole numbers, one behind the other.
-/
import Derived.Test.YtaephahcohdbpaaLawWhole
import Derived.Test.YtaephahcohdbpaaUpLate
namespace Go.Proofs.Ytaephahcohdbpaa.mt
set_option linter.unusedVariables false
set_option linter.unusedSimpArgs false
open Go.RowKit bs

set_option maxRecDepth 100000 in
set_option maxHeartbeats 6400000 in
theorem through_walk (a0 a1 a2 a3 a4 a5 b0 b1 b2 b3 b4 b5 c0 c1 c2 c3 c4 c5 x0 y0 i0 i1 i2 i3 i4 i5 j0 j1 j2 j3 j4 j5 k0 k1 k2 k3 k4 k5 x y l0 l1 l2 l3 l4 l5 m0 m1 m2 m3 m4 m5 e0 e1 e2 e3 e4 e5 u v z1 z2 : Int) (w : World) (qi00 : 0 ≤ i0) (qi01 : i0 ≤ 12) (qi10 : 0 ≤ i1) (qi11 : i1 ≤ 12) (qi20 : 0 ≤ i2) (qi21 : i2 ≤ 12) (qi30 : 0 ≤ i3) (qi31 : i3 ≤ 12) (qi40 : 0 ≤ i4) (qi41 : i4 ≤ 12) (qi50 : 0 ≤ i5) (qi51 : i5 ≤ 12) (qj00 : 0 ≤ j0) (qj01 : j0 ≤ 12) (qj10 : 0 ≤ j1) (qj11 : j1 ≤ 12) (qj20 : 0 ≤ j2) (qj21 : j2 ≤ 12) (qj30 : 0 ≤ j3) (qj31 : j3 ≤ 12) (qj40 : 0 ≤ j4) (qj41 : j4 ≤ 12) (qj50 : 0 ≤ j5) (qj51 : j5 ≤ 12) (qk00 : 0 ≤ k0) (qk01 : k0 ≤ 12) (qk10 : 0 ≤ k1) (qk11 : k1 ≤ 12) (qk20 : 0 ≤ k2) (qk21 : k2 ≤ 12) (qk30 : 0 ≤ k3) (qk31 : k3 ≤ 12) (qk40 : 0 ≤ k4) (qk41 : k4 ≤ 12) (qk50 : 0 ≤ k5) (qk51 : k5 ≤ 12) (qx0 : -40 ≤ x) (qx1 : x ≤ 40) (qy0 : -40 ≤ y) (qy1 : y ≤ 40)
    (HPi0 : Hid (∀ W, Calls Try.prog 31 #[.int .i64 a0, .int .i64 13] W fun ed w' => ed = .returned (.int .i64 i0) ∧ W = w'))
    (HPi1 : Hid (∀ W, Calls Try.prog 31 #[.int .i64 a1, .int .i64 13] W fun ed w' => ed = .returned (.int .i64 i1) ∧ W = w'))
    (HPi2 : Hid (∀ W, Calls Try.prog 31 #[.int .i64 a2, .int .i64 13] W fun ed w' => ed = .returned (.int .i64 i2) ∧ W = w'))
    (HPi3 : Hid (∀ W, Calls Try.prog 31 #[.int .i64 a3, .int .i64 13] W fun ed w' => ed = .returned (.int .i64 i3) ∧ W = w'))
    (HPi4 : Hid (∀ W, Calls Try.prog 31 #[.int .i64 a4, .int .i64 13] W fun ed w' => ed = .returned (.int .i64 i4) ∧ W = w'))
    (HPi5 : Hid (∀ W, Calls Try.prog 31 #[.int .i64 a5, .int .i64 13] W fun ed w' => ed = .returned (.int .i64 i5) ∧ W = w'))
    (HPj0 : Hid (∀ W, Calls Try.prog 31 #[.int .i64 b0, .int .i64 13] W fun ed w' => ed = .returned (.int .i64 j0) ∧ W = w'))
    (HPj1 : Hid (∀ W, Calls Try.prog 31 #[.int .i64 b1, .int .i64 13] W fun ed w' => ed = .returned (.int .i64 j1) ∧ W = w'))
    (HPj2 : Hid (∀ W, Calls Try.prog 31 #[.int .i64 b2, .int .i64 13] W fun ed w' => ed = .returned (.int .i64 j2) ∧ W = w'))
    (HPj3 : Hid (∀ W, Calls Try.prog 31 #[.int .i64 b3, .int .i64 13] W fun ed w' => ed = .returned (.int .i64 j3) ∧ W = w'))
    (HPj4 : Hid (∀ W, Calls Try.prog 31 #[.int .i64 b4, .int .i64 13] W fun ed w' => ed = .returned (.int .i64 j4) ∧ W = w'))
    (HPj5 : Hid (∀ W, Calls Try.prog 31 #[.int .i64 b5, .int .i64 13] W fun ed w' => ed = .returned (.int .i64 j5) ∧ W = w'))
    (HPk0 : Hid (∀ W, Calls Try.prog 31 #[.int .i64 c0, .int .i64 13] W fun ed w' => ed = .returned (.int .i64 k0) ∧ W = w'))
    (HPk1 : Hid (∀ W, Calls Try.prog 31 #[.int .i64 c1, .int .i64 13] W fun ed w' => ed = .returned (.int .i64 k1) ∧ W = w'))
    (HPk2 : Hid (∀ W, Calls Try.prog 31 #[.int .i64 c2, .int .i64 13] W fun ed w' => ed = .returned (.int .i64 k2) ∧ W = w'))
    (HPk3 : Hid (∀ W, Calls Try.prog 31 #[.int .i64 c3, .int .i64 13] W fun ed w' => ed = .returned (.int .i64 k3) ∧ W = w'))
    (HPk4 : Hid (∀ W, Calls Try.prog 31 #[.int .i64 c4, .int .i64 13] W fun ed w' => ed = .returned (.int .i64 k4) ∧ W = w'))
    (HPk5 : Hid (∀ W, Calls Try.prog 31 #[.int .i64 c5, .int .i64 13] W fun ed w' => ed = .returned (.int .i64 k5) ∧ W = w'))
    (HSx : Hid (∀ W, Calls Try.prog 33 #[.int .i64 x0] W fun ed w' => ed = .returned (.int .i64 x) ∧ W = w'))
    (HSy : Hid (∀ W, Calls Try.prog 33 #[.int .i64 y0] W fun ed w' => ed = .returned (.int .i64 y) ∧ W = w'))
    (HW1 : Hid (∀ W, Calls Try.prog 27 #[.int .i64 (i0 - 6), .int .i64 (i1 - 6), .int .i64 (i2 - 6), .int .i64 (i3 - 6), .int .i64 (i4 - 6), .int .i64 (i5 - 6)] W fun ed w' => ed = .returned (.agg #[.int .i64 ((i0 - 6) * 65536), .int .i64 ((i1 - 6) * 65536), .int .i64 ((i2 - 6) * 65536), .int .i64 ((i3 - 6) * 65536), .int .i64 ((i4 - 6) * 65536), .int .i64 ((i5 - 6) * 65536)]) ∧ Below W.heap.size W w'))
    (HW2 : Hid (∀ W, Calls Try.prog 27 #[.int .i64 (j0 - 6), .int .i64 (j1 - 6), .int .i64 (j2 - 6), .int .i64 (j3 - 6), .int .i64 (j4 - 6), .int .i64 (j5 - 6)] W fun ed w' => ed = .returned (.agg #[.int .i64 ((j0 - 6) * 65536), .int .i64 ((j1 - 6) * 65536), .int .i64 ((j2 - 6) * 65536), .int .i64 ((j3 - 6) * 65536), .int .i64 ((j4 - 6) * 65536), .int .i64 ((j5 - 6) * 65536)]) ∧ Below W.heap.size W w'))
    (HW3 : Hid (∀ W, Calls Try.prog 27 #[.int .i64 (k0 - 6), .int .i64 (k1 - 6), .int .i64 (k2 - 6), .int .i64 (k3 - 6), .int .i64 (k4 - 6), .int .i64 (k5 - 6)] W fun ed w' => ed = .returned (.agg #[.int .i64 ((k0 - 6) * 65536), .int .i64 ((k1 - 6) * 65536), .int .i64 ((k2 - 6) * 65536), .int .i64 ((k3 - 6) * 65536), .int .i64 ((k4 - 6) * 65536), .int .i64 ((k5 - 6) * 65536)]) ∧ Below W.heap.size W w'))
    (HX1 : Hid (∀ W, Calls Try.prog 29 #[.agg #[.int .i64 ((i0 - 6) * 65536), .int .i64 ((i1 - 6) * 65536), .int .i64 ((i2 - 6) * 65536), .int .i64 ((i3 - 6) * 65536), .int .i64 ((i4 - 6) * 65536), .int .i64 ((i5 - 6) * 65536)], .agg #[.int .i64 ((j0 - 6) * 65536), .int .i64 ((j1 - 6) * 65536), .int .i64 ((j2 - 6) * 65536), .int .i64 ((j3 - 6) * 65536), .int .i64 ((j4 - 6) * 65536), .int .i64 ((j5 - 6) * 65536)]] W fun ed w' => ed = .returned (.tuple #[.agg #[.int .i64 (l0 * 65536), .int .i64 (l1 * 65536), .int .i64 (l2 * 65536), .int .i64 (l3 * 65536), .int .i64 (l4 * 65536), .int .i64 (l5 * 65536)], .int .i64 0]) ∧ Below W.heap.size W w'))
    (HX2 : Hid (∀ W, Calls Try.prog 29 #[.agg #[.int .i64 ((j0 - 6) * 65536), .int .i64 ((j1 - 6) * 65536), .int .i64 ((j2 - 6) * 65536), .int .i64 ((j3 - 6) * 65536), .int .i64 ((j4 - 6) * 65536), .int .i64 ((j5 - 6) * 65536)], .agg #[.int .i64 ((k0 - 6) * 65536), .int .i64 ((k1 - 6) * 65536), .int .i64 ((k2 - 6) * 65536), .int .i64 ((k3 - 6) * 65536), .int .i64 ((k4 - 6) * 65536), .int .i64 ((k5 - 6) * 65536)]] W fun ed w' => ed = .returned (.tuple #[.agg #[.int .i64 (m0 * 65536), .int .i64 (m1 * 65536), .int .i64 (m2 * 65536), .int .i64 (m3 * 65536), .int .i64 (m4 * 65536), .int .i64 (m5 * 65536)], .int .i64 0]) ∧ Below W.heap.size W w'))
    (HX3 : Hid (∀ W, Calls Try.prog 29 #[.agg #[.int .i64 (l0 * 65536), .int .i64 (l1 * 65536), .int .i64 (l2 * 65536), .int .i64 (l3 * 65536), .int .i64 (l4 * 65536), .int .i64 (l5 * 65536)], .agg #[.int .i64 ((k0 - 6) * 65536), .int .i64 ((k1 - 6) * 65536), .int .i64 ((k2 - 6) * 65536), .int .i64 ((k3 - 6) * 65536), .int .i64 ((k4 - 6) * 65536), .int .i64 ((k5 - 6) * 65536)]] W fun ed w' => ed = .returned (.tuple #[.agg #[.int .i64 (e0 * 65536), .int .i64 (e1 * 65536), .int .i64 (e2 * 65536), .int .i64 (e3 * 65536), .int .i64 (e4 * 65536), .int .i64 (e5 * 65536)], .int .i64 0]) ∧ Below W.heap.size W w'))
    (HX4 : Hid (∀ W, Calls Try.prog 29 #[.agg #[.int .i64 ((i0 - 6) * 65536), .int .i64 ((i1 - 6) * 65536), .int .i64 ((i2 - 6) * 65536), .int .i64 ((i3 - 6) * 65536), .int .i64 ((i4 - 6) * 65536), .int .i64 ((i5 - 6) * 65536)], .agg #[.int .i64 (m0 * 65536), .int .i64 (m1 * 65536), .int .i64 (m2 * 65536), .int .i64 (m3 * 65536), .int .i64 (m4 * 65536), .int .i64 (m5 * 65536)]] W fun ed w' => ed = .returned (.tuple #[.agg #[.int .i64 (e0 * 65536), .int .i64 (e1 * 65536), .int .i64 (e2 * 65536), .int .i64 (e3 * 65536), .int .i64 (e4 * 65536), .int .i64 (e5 * 65536)], .int .i64 0]) ∧ Below W.heap.size W w'))
    (HM1 : Hid (∀ W, Calls Try.prog 37 #[.agg #[.int .i64 ((i0 - 6) * 65536), .int .i64 ((i1 - 6) * 65536), .int .i64 ((i2 - 6) * 65536), .int .i64 ((i3 - 6) * 65536), .int .i64 ((i4 - 6) * 65536), .int .i64 ((i5 - 6) * 65536)], .int .i64 (x * 65536), .int .i64 (y * 65536)] W fun ed w' => ed = .returned (.tuple #[.int .i64 (u * 65536), .int .i64 (v * 65536), .int .i64 0]) ∧ Below W.heap.size W w'))
    (HM2 : Hid (∀ W, Calls Try.prog 37 #[.agg #[.int .i64 ((j0 - 6) * 65536), .int .i64 ((j1 - 6) * 65536), .int .i64 ((j2 - 6) * 65536), .int .i64 ((j3 - 6) * 65536), .int .i64 ((j4 - 6) * 65536), .int .i64 ((j5 - 6) * 65536)], .int .i64 (u * 65536), .int .i64 (v * 65536)] W fun ed w' => ed = .returned (.tuple #[.int .i64 (z1 * 65536), .int .i64 (z2 * 65536), .int .i64 0]) ∧ Below W.heap.size W w'))
    (HM3 : Hid (∀ W, Calls Try.prog 37 #[.agg #[.int .i64 (l0 * 65536), .int .i64 (l1 * 65536), .int .i64 (l2 * 65536), .int .i64 (l3 * 65536), .int .i64 (l4 * 65536), .int .i64 (l5 * 65536)], .int .i64 (x * 65536), .int .i64 (y * 65536)] W fun ed w' => ed = .returned (.tuple #[.int .i64 (z1 * 65536), .int .i64 (z2 * 65536), .int .i64 0]) ∧ Below W.heap.size W w'))
    : Calls Try.prog 7 #[.agg #[.int .i64 a0, .int .i64 a1, .int .i64 a2, .int .i64 a3, .int .i64 a4, .int .i64 a5], .agg #[.int .i64 b0, .int .i64 b1, .int .i64 b2, .int .i64 b3, .int .i64 b4, .int .i64 b5], .agg #[.int .i64 c0, .int .i64 c1, .int .i64 c2, .int .i64 c3, .int .i64 c4, .int .i64 c5], .int .i64 x0, .int .i64 y0] w fun ed w' => ed = .returned (.bool true) ∧ Below w.heap.size w w' := by
  have JG := guard_mat
  have JE : ∀ w, (binOp .eql 23 (.agg #[.int .i64 (e0 * 65536), .int .i64 (e1 * 65536), .int .i64 (e2 * 65536), .int .i64 (e3 * 65536), .int .i64 (e4 * 65536), .int .i64 (e5 * 65536)]) (.agg #[.int .i64 (e0 * 65536), .int .i64 (e1 * 65536), .int .i64 (e2 * 65536), .int .i64 (e3 * 65536), .int .i64 (e4 * 65536), .int .i64 (e5 * 65536)])).run Try.prog w = .ok (.bool true) w := fun w => by
    have := eq_mat (e0 * 65536) (e1 * 65536) (e2 * 65536) (e3 * 65536) (e4 * 65536) (e5 * 65536) (e0 * 65536) (e1 * 65536) (e2 * 65536) (e3 * 65536) (e4 * 65536) (e5 * 65536) w
    rw [show eqB (e0 * 65536) (e1 * 65536) (e2 * 65536) (e3 * 65536) (e4 * 65536) (e5 * 65536) (e0 * 65536) (e1 * 65536) (e2 * 65536) (e3 * 65536) (e4 * 65536) (e5 * 65536) = true by unfold eqB; simp] at this
    exact this
  have Ka := ((Blk.new w 51 #[.int .i64 a0, .int .i64 a1, .int .i64 a2, .int .i64 a3, .int .i64 a4, .int .i64 a5]).alloc (.cells #[.int .i64 b0, .int .i64 b1, .int .i64 b2, .int .i64 b3, .int .i64 b4, .int .i64 b5] 51)).alloc (.cells #[.int .i64 c0, .int .i64 c1, .int .i64 c2, .int .i64 c3, .int .i64 c4, .int .i64 c5] 51)
  have Kb := (Blk.new (w.alloc (.cells #[.int .i64 a0, .int .i64 a1, .int .i64 a2, .int .i64 a3, .int .i64 a4, .int .i64 a5] 51)) 51 #[.int .i64 b0, .int .i64 b1, .int .i64 b2, .int .i64 b3, .int .i64 b4, .int .i64 b5]).alloc (.cells #[.int .i64 c0, .int .i64 c1, .int .i64 c2, .int .i64 c3, .int .i64 c4, .int .i64 c5] 51)
  have Kc := Blk.new ((w.alloc (.cells #[.int .i64 a0, .int .i64 a1, .int .i64 a2, .int .i64 a3, .int .i64 a4, .int .i64 a5] 51)).alloc (.cells #[.int .i64 b0, .int .i64 b1, .int .i64 b2, .int .i64 b3, .int .i64 b4, .int .i64 b5] 51)) 51 #[.int .i64 c0, .int .i64 c1, .int .i64 c2, .int .i64 c3, .int .i64 c4, .int .i64 c5]
  have s1 : (w.alloc (.cells #[.int .i64 a0, .int .i64 a1, .int .i64 a2, .int .i64 a3, .int .i64 a4, .int .i64 a5] 51)).heap.size = w.heap.size + 1 := by simp
  have s2 : ((w.alloc (.cells #[.int .i64 a0, .int .i64 a1, .int .i64 a2, .int .i64 a3, .int .i64 a4, .int .i64 a5] 51)).alloc (.cells #[.int .i64 b0, .int .i64 b1, .int .i64 b2, .int .i64 b3, .int .i64 b4, .int .i64 b5] 51)).heap.size = w.heap.size + 1 + 1 := by simp
  rw [s1] at Kb
  rw [s2] at Kc
  clear s1 s2
  go_enter Try.func7, Try.ntmps7
  go_wp2_with fail
  refine (known_any _).mono ?_
  rintro e_ w1 ⟨rfl, hb1⟩
  replace Ka := Ka.below hb1 (by simp; try omega)
  replace Kb := Kb.below hb1 (by simp; try omega)
  replace Kc := Kc.below hb1 (by simp)
  have hbw : Below w.heap.size w w1 := btrans (by (repeat' (first | exact Below.refl _ _ | exact Below.refl _ _ | refine balloc ?_ _ | refine Below.drew ?_ | refine below_drewN ?_ _ | refine bset ?_ (by first | omega | (simp <;> omega)) _))) hb1
  have HK := Lib.hid Ka
  have HL := Lib.hid Kb
  have HN0 := Lib.hid Kc
  have HBW := Lib.hid hbw
  clear Ka Kb Kc hb1 hbw
  go_wp2_with fail
  go_loopw [11] (fun c wr => ∃ k : Nat, k ≤ 6 ∧ c = .int .i64 k ∧ Blk wr w.heap.size 51 (arrS a0 a1 a2 a3 a4 a5 (i0 - 6) (i1 - 6) (i2 - 6) (i3 - 6) (i4 - 6) (i5 - 6) k) ∧ Blk wr (w.heap.size + 1) 51 (arrS b0 b1 b2 b3 b4 b5 (j0 - 6) (j1 - 6) (j2 - 6) (j3 - 6) (j4 - 6) (j5 - 6) k) ∧ Blk wr (w.heap.size + 1 + 1) 51 (arrS c0 c1 c2 c3 c4 c5 (k0 - 6) (k1 - 6) (k2 - 6) (k3 - 6) (k4 - 6) (k5 - 6) k) ∧ Below w.heap.size w wr) (fun c _ => 6 - (intOf c).toNat)
  case atStart => exact ⟨0, by omega, rfl, HK.out, HL.out, HN0.out, HBW.out⟩
  case round =>
    clear HK HL HN0 HBW
    obtain ⟨k, hk, rfl, Ka, Kb, Kc, hbw⟩ := hrel
    rcases (show k = 0 ∨ k = 1 ∨ k = 2 ∨ k = 3 ∨ k = 4 ∨ k = 5 ∨ k = 6 by omega) with h | h | h | h | h | h | h <;> subst h
    · have ca := Ka.cell 0
      have cb := Kb.cell 0
      have cc := Kc.cell 0
      have la := Ka.lt
      have lb := Kb.lt
      have lc := Kc.lt
      simp only [arrS, List.getElem?_toArray, List.getElem?_cons_succ, List.getElem?_cons_zero] at ca cb cc
      have HA2 := Lib.hid Ka
      have HB2 := Lib.hid Kb
      have HC2 := Lib.hid Kc
      have HD2 := Lib.hid hbw
      clear Ka Kb Kc hbw
      go_wp2_with fail
      refine wp_region_lateL 19 [1, 2, 12, 17] (by kernel_rfl) (by kernel_rfl) (fun d _ _ _ _ h => by cases d <;> exact h) ?_
      intro u0
      have ua : ∀ u : Up u0.val, u.val.cell? ⟨w.heap.size, 0, none⟩ = some (.int .i64 a0) := fun u => ((u.cell (Nat.lt_of_lt_of_le la u0.ok.size)).trans (u0.cell la)).trans ca
      have HUa := Lib.hid (fun u : Up u0.val => up_same (u := u) (HPi0.out u.val))
      have ub : ∀ u : Up u0.val, u.val.cell? ⟨(w.heap.size + 1), 0, none⟩ = some (.int .i64 b0) := fun u => ((u.cell (Nat.lt_of_lt_of_le lb u0.ok.size)).trans (u0.cell lb)).trans cb
      have HUb := Lib.hid (fun u : Up u0.val => up_same (u := u) (HPj0.out u.val))
      have uc : ∀ u : Up u0.val, u.val.cell? ⟨(w.heap.size + 1 + 1), 0, none⟩ = some (.int .i64 c0) := fun u => ((u.cell (Nat.lt_of_lt_of_le lc u0.ok.size)).trans (u0.cell lc)).trans cc
      have HUc := Lib.hid (fun u : Up u0.val => up_same (u := u) (HPk0.out u.val))
      simp only [List.take_succ_cons, List.take_zero, List.drop_succ_cons, List.drop_zero]
      repeat (go_big_quiet_step (fail))
      go_big_quiet_step (exact HUa.out _)
      repeat (go_big_quiet_step (fail))
      go_big_quiet_step (exact HUb.out _)
      repeat (go_big_quiet_step (fail))
      go_big_quiet_step (exact HUc.out _)
      repeat (go_big_quiet_step (fail))
      refine wpQuiet_nil ?_
      refine ⟨lateOk_cons _ rfl _ (fun w => rfl) (lateOk_cons _ rfl _ (fun w => rfl) (lateOk_cons _ rfl _ (fun w => rfl) (lateOk_cons _ rfl _ (fun w => rfl) lateOk_nil))), ?_⟩
      rintro _ ⟨uq, rfl⟩
      have Ka := HA2.out.below uq.ok la
      have Kb := HB2.out.below uq.ok lb
      have Kc := HC2.out.below uq.ok lc
      have hbw := btrans HD2.out uq.ok
      generalize hwx : uq.val = wx at *
      clear hwx uq u0 ua ub uc HUa HUb HUc HA2 HB2 HC2 HD2 ca cb cc la lb lc
      have ca := Ka.cell 0
      have fa := Ka.frozen 0
      have cb := Kb.cell 0
      have fb := Kb.frozen 0
      have cc := Kc.cell 0
      have fc := Kc.frozen 0
      simp only [arrS, List.getElem?_toArray, List.getElem?_cons_succ, List.getElem?_cons_zero] at ca cb cc
      have HNa := Lib.hid (((Ka.set_ 0 (.int .i64 (i0 - 6))).far (p := ⟨(w.heap.size + 1), 0, none⟩) (show w.heap.size ≠ (w.heap.size + 1) by omega) (.int .i64 (j0 - 6))).far (p := ⟨(w.heap.size + 1 + 1), 0, none⟩) (show w.heap.size ≠ (w.heap.size + 1 + 1) by omega) (.int .i64 (k0 - 6)))
      have HNb := Lib.hid (((Kb.far (p := ⟨w.heap.size, 0, none⟩) (show (w.heap.size + 1) ≠ w.heap.size by omega) (.int .i64 (i0 - 6))).set_ 0 (.int .i64 (j0 - 6))).far (p := ⟨(w.heap.size + 1 + 1), 0, none⟩) (show (w.heap.size + 1) ≠ (w.heap.size + 1 + 1) by omega) (.int .i64 (k0 - 6)))
      have HNc := Lib.hid (((Kc.far (p := ⟨w.heap.size, 0, none⟩) (show (w.heap.size + 1 + 1) ≠ w.heap.size by omega) (.int .i64 (i0 - 6))).far (p := ⟨(w.heap.size + 1), 0, none⟩) (show (w.heap.size + 1 + 1) ≠ (w.heap.size + 1) by omega) (.int .i64 (j0 - 6))).set_ 0 (.int .i64 (k0 - 6)))
      have HD2 := Lib.hid hbw
      clear Ka Kb Kc hbw
      go_wp2_with fail
      go_roundw
      case rel => exact ⟨1, by omega, rfl, HNa.out, HNb.out, HNc.out, bset (bset (bset HD2.out (Nat.le_refl _) _) (Nat.le_add_right _ _) _) (show w.heap.size ≤ w.heap.size + 1 + 1 by omega) _⟩
      case measure => simp [intOf]
    · have ca := Ka.cell 1
      have cb := Kb.cell 1
      have cc := Kc.cell 1
      have la := Ka.lt
      have lb := Kb.lt
      have lc := Kc.lt
      simp only [arrS, List.getElem?_toArray, List.getElem?_cons_succ, List.getElem?_cons_zero] at ca cb cc
      have HA2 := Lib.hid Ka
      have HB2 := Lib.hid Kb
      have HC2 := Lib.hid Kc
      have HD2 := Lib.hid hbw
      clear Ka Kb Kc hbw
      go_wp2_with fail
      refine wp_region_lateL 19 [1, 2, 12, 17] (by kernel_rfl) (by kernel_rfl) (fun d _ _ _ _ h => by cases d <;> exact h) ?_
      intro u0
      have ua : ∀ u : Up u0.val, u.val.cell? ⟨w.heap.size, 1, none⟩ = some (.int .i64 a1) := fun u => ((u.cell (Nat.lt_of_lt_of_le la u0.ok.size)).trans (u0.cell la)).trans ca
      have HUa := Lib.hid (fun u : Up u0.val => up_same (u := u) (HPi1.out u.val))
      have ub : ∀ u : Up u0.val, u.val.cell? ⟨(w.heap.size + 1), 1, none⟩ = some (.int .i64 b1) := fun u => ((u.cell (Nat.lt_of_lt_of_le lb u0.ok.size)).trans (u0.cell lb)).trans cb
      have HUb := Lib.hid (fun u : Up u0.val => up_same (u := u) (HPj1.out u.val))
      have uc : ∀ u : Up u0.val, u.val.cell? ⟨(w.heap.size + 1 + 1), 1, none⟩ = some (.int .i64 c1) := fun u => ((u.cell (Nat.lt_of_lt_of_le lc u0.ok.size)).trans (u0.cell lc)).trans cc
      have HUc := Lib.hid (fun u : Up u0.val => up_same (u := u) (HPk1.out u.val))
      simp only [List.take_succ_cons, List.take_zero, List.drop_succ_cons, List.drop_zero]
      repeat (go_big_quiet_step (fail))
      go_big_quiet_step (exact HUa.out _)
      repeat (go_big_quiet_step (fail))
      go_big_quiet_step (exact HUb.out _)
      repeat (go_big_quiet_step (fail))
      go_big_quiet_step (exact HUc.out _)
      repeat (go_big_quiet_step (fail))
      refine wpQuiet_nil ?_
      refine ⟨lateOk_cons _ rfl _ (fun w => rfl) (lateOk_cons _ rfl _ (fun w => rfl) (lateOk_cons _ rfl _ (fun w => rfl) (lateOk_cons _ rfl _ (fun w => rfl) lateOk_nil))), ?_⟩
      rintro _ ⟨uq, rfl⟩
      have Ka := HA2.out.below uq.ok la
      have Kb := HB2.out.below uq.ok lb
      have Kc := HC2.out.below uq.ok lc
      have hbw := btrans HD2.out uq.ok
      generalize hwx : uq.val = wx at *
      clear hwx uq u0 ua ub uc HUa HUb HUc HA2 HB2 HC2 HD2 ca cb cc la lb lc
      have ca := Ka.cell 1
      have fa := Ka.frozen 1
      have cb := Kb.cell 1
      have fb := Kb.frozen 1
      have cc := Kc.cell 1
      have fc := Kc.frozen 1
      simp only [arrS, List.getElem?_toArray, List.getElem?_cons_succ, List.getElem?_cons_zero] at ca cb cc
      have HNa := Lib.hid (((Ka.set_ 1 (.int .i64 (i1 - 6))).far (p := ⟨(w.heap.size + 1), 1, none⟩) (show w.heap.size ≠ (w.heap.size + 1) by omega) (.int .i64 (j1 - 6))).far (p := ⟨(w.heap.size + 1 + 1), 1, none⟩) (show w.heap.size ≠ (w.heap.size + 1 + 1) by omega) (.int .i64 (k1 - 6)))
      have HNb := Lib.hid (((Kb.far (p := ⟨w.heap.size, 1, none⟩) (show (w.heap.size + 1) ≠ w.heap.size by omega) (.int .i64 (i1 - 6))).set_ 1 (.int .i64 (j1 - 6))).far (p := ⟨(w.heap.size + 1 + 1), 1, none⟩) (show (w.heap.size + 1) ≠ (w.heap.size + 1 + 1) by omega) (.int .i64 (k1 - 6)))
      have HNc := Lib.hid (((Kc.far (p := ⟨w.heap.size, 1, none⟩) (show (w.heap.size + 1 + 1) ≠ w.heap.size by omega) (.int .i64 (i1 - 6))).far (p := ⟨(w.heap.size + 1), 1, none⟩) (show (w.heap.size + 1 + 1) ≠ (w.heap.size + 1) by omega) (.int .i64 (j1 - 6))).set_ 1 (.int .i64 (k1 - 6)))
      have HD2 := Lib.hid hbw
      clear Ka Kb Kc hbw
      go_wp2_with fail
      go_roundw
      case rel => exact ⟨2, by omega, rfl, HNa.out, HNb.out, HNc.out, bset (bset (bset HD2.out (Nat.le_refl _) _) (Nat.le_add_right _ _) _) (show w.heap.size ≤ w.heap.size + 1 + 1 by omega) _⟩
      case measure => simp [intOf]
    · have ca := Ka.cell 2
      have cb := Kb.cell 2
      have cc := Kc.cell 2
      have la := Ka.lt
      have lb := Kb.lt
      have lc := Kc.lt
      simp only [arrS, List.getElem?_toArray, List.getElem?_cons_succ, List.getElem?_cons_zero] at ca cb cc
      have HA2 := Lib.hid Ka
      have HB2 := Lib.hid Kb
      have HC2 := Lib.hid Kc
      have HD2 := Lib.hid hbw
      clear Ka Kb Kc hbw
      go_wp2_with fail
      refine wp_region_lateL 19 [1, 2, 12, 17] (by kernel_rfl) (by kernel_rfl) (fun d _ _ _ _ h => by cases d <;> exact h) ?_
      intro u0
      have ua : ∀ u : Up u0.val, u.val.cell? ⟨w.heap.size, 2, none⟩ = some (.int .i64 a2) := fun u => ((u.cell (Nat.lt_of_lt_of_le la u0.ok.size)).trans (u0.cell la)).trans ca
      have HUa := Lib.hid (fun u : Up u0.val => up_same (u := u) (HPi2.out u.val))
      have ub : ∀ u : Up u0.val, u.val.cell? ⟨(w.heap.size + 1), 2, none⟩ = some (.int .i64 b2) := fun u => ((u.cell (Nat.lt_of_lt_of_le lb u0.ok.size)).trans (u0.cell lb)).trans cb
      have HUb := Lib.hid (fun u : Up u0.val => up_same (u := u) (HPj2.out u.val))
      have uc : ∀ u : Up u0.val, u.val.cell? ⟨(w.heap.size + 1 + 1), 2, none⟩ = some (.int .i64 c2) := fun u => ((u.cell (Nat.lt_of_lt_of_le lc u0.ok.size)).trans (u0.cell lc)).trans cc
      have HUc := Lib.hid (fun u : Up u0.val => up_same (u := u) (HPk2.out u.val))
      simp only [List.take_succ_cons, List.take_zero, List.drop_succ_cons, List.drop_zero]
      repeat (go_big_quiet_step (fail))
      go_big_quiet_step (exact HUa.out _)
      repeat (go_big_quiet_step (fail))
      go_big_quiet_step (exact HUb.out _)
      repeat (go_big_quiet_step (fail))
      go_big_quiet_step (exact HUc.out _)
      repeat (go_big_quiet_step (fail))
      refine wpQuiet_nil ?_
      refine ⟨lateOk_cons _ rfl _ (fun w => rfl) (lateOk_cons _ rfl _ (fun w => rfl) (lateOk_cons _ rfl _ (fun w => rfl) (lateOk_cons _ rfl _ (fun w => rfl) lateOk_nil))), ?_⟩
      rintro _ ⟨uq, rfl⟩
      have Ka := HA2.out.below uq.ok la
      have Kb := HB2.out.below uq.ok lb
      have Kc := HC2.out.below uq.ok lc
      have hbw := btrans HD2.out uq.ok
      generalize hwx : uq.val = wx at *
      clear hwx uq u0 ua ub uc HUa HUb HUc HA2 HB2 HC2 HD2 ca cb cc la lb lc
      have ca := Ka.cell 2
      have fa := Ka.frozen 2
      have cb := Kb.cell 2
      have fb := Kb.frozen 2
      have cc := Kc.cell 2
      have fc := Kc.frozen 2
      simp only [arrS, List.getElem?_toArray, List.getElem?_cons_succ, List.getElem?_cons_zero] at ca cb cc
      have HNa := Lib.hid (((Ka.set_ 2 (.int .i64 (i2 - 6))).far (p := ⟨(w.heap.size + 1), 2, none⟩) (show w.heap.size ≠ (w.heap.size + 1) by omega) (.int .i64 (j2 - 6))).far (p := ⟨(w.heap.size + 1 + 1), 2, none⟩) (show w.heap.size ≠ (w.heap.size + 1 + 1) by omega) (.int .i64 (k2 - 6)))
      have HNb := Lib.hid (((Kb.far (p := ⟨w.heap.size, 2, none⟩) (show (w.heap.size + 1) ≠ w.heap.size by omega) (.int .i64 (i2 - 6))).set_ 2 (.int .i64 (j2 - 6))).far (p := ⟨(w.heap.size + 1 + 1), 2, none⟩) (show (w.heap.size + 1) ≠ (w.heap.size + 1 + 1) by omega) (.int .i64 (k2 - 6)))
      have HNc := Lib.hid (((Kc.far (p := ⟨w.heap.size, 2, none⟩) (show (w.heap.size + 1 + 1) ≠ w.heap.size by omega) (.int .i64 (i2 - 6))).far (p := ⟨(w.heap.size + 1), 2, none⟩) (show (w.heap.size + 1 + 1) ≠ (w.heap.size + 1) by omega) (.int .i64 (j2 - 6))).set_ 2 (.int .i64 (k2 - 6)))
      have HD2 := Lib.hid hbw
      clear Ka Kb Kc hbw
      go_wp2_with fail
      go_roundw
      case rel => exact ⟨3, by omega, rfl, HNa.out, HNb.out, HNc.out, bset (bset (bset HD2.out (Nat.le_refl _) _) (Nat.le_add_right _ _) _) (show w.heap.size ≤ w.heap.size + 1 + 1 by omega) _⟩
      case measure => simp [intOf]
    · have ca := Ka.cell 3
      have cb := Kb.cell 3
      have cc := Kc.cell 3
      have la := Ka.lt
      have lb := Kb.lt
      have lc := Kc.lt
      simp only [arrS, List.getElem?_toArray, List.getElem?_cons_succ, List.getElem?_cons_zero] at ca cb cc
      have HA2 := Lib.hid Ka
      have HB2 := Lib.hid Kb
      have HC2 := Lib.hid Kc
      have HD2 := Lib.hid hbw
      clear Ka Kb Kc hbw
      go_wp2_with fail
      refine wp_region_lateL 19 [1, 2, 12, 17] (by kernel_rfl) (by kernel_rfl) (fun d _ _ _ _ h => by cases d <;> exact h) ?_
      intro u0
      have ua : ∀ u : Up u0.val, u.val.cell? ⟨w.heap.size, 3, none⟩ = some (.int .i64 a3) := fun u => ((u.cell (Nat.lt_of_lt_of_le la u0.ok.size)).trans (u0.cell la)).trans ca
      have HUa := Lib.hid (fun u : Up u0.val => up_same (u := u) (HPi3.out u.val))
      have ub : ∀ u : Up u0.val, u.val.cell? ⟨(w.heap.size + 1), 3, none⟩ = some (.int .i64 b3) := fun u => ((u.cell (Nat.lt_of_lt_of_le lb u0.ok.size)).trans (u0.cell lb)).trans cb
      have HUb := Lib.hid (fun u : Up u0.val => up_same (u := u) (HPj3.out u.val))
      have uc : ∀ u : Up u0.val, u.val.cell? ⟨(w.heap.size + 1 + 1), 3, none⟩ = some (.int .i64 c3) := fun u => ((u.cell (Nat.lt_of_lt_of_le lc u0.ok.size)).trans (u0.cell lc)).trans cc
      have HUc := Lib.hid (fun u : Up u0.val => up_same (u := u) (HPk3.out u.val))
      simp only [List.take_succ_cons, List.take_zero, List.drop_succ_cons, List.drop_zero]
      repeat (go_big_quiet_step (fail))
      go_big_quiet_step (exact HUa.out _)
      repeat (go_big_quiet_step (fail))
      go_big_quiet_step (exact HUb.out _)
      repeat (go_big_quiet_step (fail))
      go_big_quiet_step (exact HUc.out _)
      repeat (go_big_quiet_step (fail))
      refine wpQuiet_nil ?_
      refine ⟨lateOk_cons _ rfl _ (fun w => rfl) (lateOk_cons _ rfl _ (fun w => rfl) (lateOk_cons _ rfl _ (fun w => rfl) (lateOk_cons _ rfl _ (fun w => rfl) lateOk_nil))), ?_⟩
      rintro _ ⟨uq, rfl⟩
      have Ka := HA2.out.below uq.ok la
      have Kb := HB2.out.below uq.ok lb
      have Kc := HC2.out.below uq.ok lc
      have hbw := btrans HD2.out uq.ok
      generalize hwx : uq.val = wx at *
      clear hwx uq u0 ua ub uc HUa HUb HUc HA2 HB2 HC2 HD2 ca cb cc la lb lc
      have ca := Ka.cell 3
      have fa := Ka.frozen 3
      have cb := Kb.cell 3
      have fb := Kb.frozen 3
      have cc := Kc.cell 3
      have fc := Kc.frozen 3
      simp only [arrS, List.getElem?_toArray, List.getElem?_cons_succ, List.getElem?_cons_zero] at ca cb cc
      have HNa := Lib.hid (((Ka.set_ 3 (.int .i64 (i3 - 6))).far (p := ⟨(w.heap.size + 1), 3, none⟩) (show w.heap.size ≠ (w.heap.size + 1) by omega) (.int .i64 (j3 - 6))).far (p := ⟨(w.heap.size + 1 + 1), 3, none⟩) (show w.heap.size ≠ (w.heap.size + 1 + 1) by omega) (.int .i64 (k3 - 6)))
      have HNb := Lib.hid (((Kb.far (p := ⟨w.heap.size, 3, none⟩) (show (w.heap.size + 1) ≠ w.heap.size by omega) (.int .i64 (i3 - 6))).set_ 3 (.int .i64 (j3 - 6))).far (p := ⟨(w.heap.size + 1 + 1), 3, none⟩) (show (w.heap.size + 1) ≠ (w.heap.size + 1 + 1) by omega) (.int .i64 (k3 - 6)))
      have HNc := Lib.hid (((Kc.far (p := ⟨w.heap.size, 3, none⟩) (show (w.heap.size + 1 + 1) ≠ w.heap.size by omega) (.int .i64 (i3 - 6))).far (p := ⟨(w.heap.size + 1), 3, none⟩) (show (w.heap.size + 1 + 1) ≠ (w.heap.size + 1) by omega) (.int .i64 (j3 - 6))).set_ 3 (.int .i64 (k3 - 6)))
      have HD2 := Lib.hid hbw
      clear Ka Kb Kc hbw
      go_wp2_with fail
      go_roundw
      case rel => exact ⟨4, by omega, rfl, HNa.out, HNb.out, HNc.out, bset (bset (bset HD2.out (Nat.le_refl _) _) (Nat.le_add_right _ _) _) (show w.heap.size ≤ w.heap.size + 1 + 1 by omega) _⟩
      case measure => simp [intOf]
    · have ca := Ka.cell 4
      have cb := Kb.cell 4
      have cc := Kc.cell 4
      have la := Ka.lt
      have lb := Kb.lt
      have lc := Kc.lt
      simp only [arrS, List.getElem?_toArray, List.getElem?_cons_succ, List.getElem?_cons_zero] at ca cb cc
      have HA2 := Lib.hid Ka
      have HB2 := Lib.hid Kb
      have HC2 := Lib.hid Kc
      have HD2 := Lib.hid hbw
      clear Ka Kb Kc hbw
      go_wp2_with fail
      refine wp_region_lateL 19 [1, 2, 12, 17] (by kernel_rfl) (by kernel_rfl) (fun d _ _ _ _ h => by cases d <;> exact h) ?_
      intro u0
      have ua : ∀ u : Up u0.val, u.val.cell? ⟨w.heap.size, 4, none⟩ = some (.int .i64 a4) := fun u => ((u.cell (Nat.lt_of_lt_of_le la u0.ok.size)).trans (u0.cell la)).trans ca
      have HUa := Lib.hid (fun u : Up u0.val => up_same (u := u) (HPi4.out u.val))
      have ub : ∀ u : Up u0.val, u.val.cell? ⟨(w.heap.size + 1), 4, none⟩ = some (.int .i64 b4) := fun u => ((u.cell (Nat.lt_of_lt_of_le lb u0.ok.size)).trans (u0.cell lb)).trans cb
      have HUb := Lib.hid (fun u : Up u0.val => up_same (u := u) (HPj4.out u.val))
      have uc : ∀ u : Up u0.val, u.val.cell? ⟨(w.heap.size + 1 + 1), 4, none⟩ = some (.int .i64 c4) := fun u => ((u.cell (Nat.lt_of_lt_of_le lc u0.ok.size)).trans (u0.cell lc)).trans cc
      have HUc := Lib.hid (fun u : Up u0.val => up_same (u := u) (HPk4.out u.val))
      simp only [List.take_succ_cons, List.take_zero, List.drop_succ_cons, List.drop_zero]
      repeat (go_big_quiet_step (fail))
      go_big_quiet_step (exact HUa.out _)
      repeat (go_big_quiet_step (fail))
      go_big_quiet_step (exact HUb.out _)
      repeat (go_big_quiet_step (fail))
      go_big_quiet_step (exact HUc.out _)
      repeat (go_big_quiet_step (fail))
      refine wpQuiet_nil ?_
      refine ⟨lateOk_cons _ rfl _ (fun w => rfl) (lateOk_cons _ rfl _ (fun w => rfl) (lateOk_cons _ rfl _ (fun w => rfl) (lateOk_cons _ rfl _ (fun w => rfl) lateOk_nil))), ?_⟩
      rintro _ ⟨uq, rfl⟩
      have Ka := HA2.out.below uq.ok la
      have Kb := HB2.out.below uq.ok lb
      have Kc := HC2.out.below uq.ok lc
      have hbw := btrans HD2.out uq.ok
      generalize hwx : uq.val = wx at *
      clear hwx uq u0 ua ub uc HUa HUb HUc HA2 HB2 HC2 HD2 ca cb cc la lb lc
      have ca := Ka.cell 4
      have fa := Ka.frozen 4
      have cb := Kb.cell 4
      have fb := Kb.frozen 4
      have cc := Kc.cell 4
      have fc := Kc.frozen 4
      simp only [arrS, List.getElem?_toArray, List.getElem?_cons_succ, List.getElem?_cons_zero] at ca cb cc
      have HNa := Lib.hid (((Ka.set_ 4 (.int .i64 (i4 - 6))).far (p := ⟨(w.heap.size + 1), 4, none⟩) (show w.heap.size ≠ (w.heap.size + 1) by omega) (.int .i64 (j4 - 6))).far (p := ⟨(w.heap.size + 1 + 1), 4, none⟩) (show w.heap.size ≠ (w.heap.size + 1 + 1) by omega) (.int .i64 (k4 - 6)))
      have HNb := Lib.hid (((Kb.far (p := ⟨w.heap.size, 4, none⟩) (show (w.heap.size + 1) ≠ w.heap.size by omega) (.int .i64 (i4 - 6))).set_ 4 (.int .i64 (j4 - 6))).far (p := ⟨(w.heap.size + 1 + 1), 4, none⟩) (show (w.heap.size + 1) ≠ (w.heap.size + 1 + 1) by omega) (.int .i64 (k4 - 6)))
      have HNc := Lib.hid (((Kc.far (p := ⟨w.heap.size, 4, none⟩) (show (w.heap.size + 1 + 1) ≠ w.heap.size by omega) (.int .i64 (i4 - 6))).far (p := ⟨(w.heap.size + 1), 4, none⟩) (show (w.heap.size + 1 + 1) ≠ (w.heap.size + 1) by omega) (.int .i64 (j4 - 6))).set_ 4 (.int .i64 (k4 - 6)))
      have HD2 := Lib.hid hbw
      clear Ka Kb Kc hbw
      go_wp2_with fail
      go_roundw
      case rel => exact ⟨5, by omega, rfl, HNa.out, HNb.out, HNc.out, bset (bset (bset HD2.out (Nat.le_refl _) _) (Nat.le_add_right _ _) _) (show w.heap.size ≤ w.heap.size + 1 + 1 by omega) _⟩
      case measure => simp [intOf]
    · have ca := Ka.cell 5
      have cb := Kb.cell 5
      have cc := Kc.cell 5
      have la := Ka.lt
      have lb := Kb.lt
      have lc := Kc.lt
      simp only [arrS, List.getElem?_toArray, List.getElem?_cons_succ, List.getElem?_cons_zero] at ca cb cc
      have HA2 := Lib.hid Ka
      have HB2 := Lib.hid Kb
      have HC2 := Lib.hid Kc
      have HD2 := Lib.hid hbw
      clear Ka Kb Kc hbw
      go_wp2_with fail
      refine wp_region_lateL 19 [1, 2, 12, 17] (by kernel_rfl) (by kernel_rfl) (fun d _ _ _ _ h => by cases d <;> exact h) ?_
      intro u0
      have ua : ∀ u : Up u0.val, u.val.cell? ⟨w.heap.size, 5, none⟩ = some (.int .i64 a5) := fun u => ((u.cell (Nat.lt_of_lt_of_le la u0.ok.size)).trans (u0.cell la)).trans ca
      have HUa := Lib.hid (fun u : Up u0.val => up_same (u := u) (HPi5.out u.val))
      have ub : ∀ u : Up u0.val, u.val.cell? ⟨(w.heap.size + 1), 5, none⟩ = some (.int .i64 b5) := fun u => ((u.cell (Nat.lt_of_lt_of_le lb u0.ok.size)).trans (u0.cell lb)).trans cb
      have HUb := Lib.hid (fun u : Up u0.val => up_same (u := u) (HPj5.out u.val))
      have uc : ∀ u : Up u0.val, u.val.cell? ⟨(w.heap.size + 1 + 1), 5, none⟩ = some (.int .i64 c5) := fun u => ((u.cell (Nat.lt_of_lt_of_le lc u0.ok.size)).trans (u0.cell lc)).trans cc
      have HUc := Lib.hid (fun u : Up u0.val => up_same (u := u) (HPk5.out u.val))
      simp only [List.take_succ_cons, List.take_zero, List.drop_succ_cons, List.drop_zero]
      repeat (go_big_quiet_step (fail))
      go_big_quiet_step (exact HUa.out _)
      repeat (go_big_quiet_step (fail))
      go_big_quiet_step (exact HUb.out _)
      repeat (go_big_quiet_step (fail))
      go_big_quiet_step (exact HUc.out _)
      repeat (go_big_quiet_step (fail))
      refine wpQuiet_nil ?_
      refine ⟨lateOk_cons _ rfl _ (fun w => rfl) (lateOk_cons _ rfl _ (fun w => rfl) (lateOk_cons _ rfl _ (fun w => rfl) (lateOk_cons _ rfl _ (fun w => rfl) lateOk_nil))), ?_⟩
      rintro _ ⟨uq, rfl⟩
      have Ka := HA2.out.below uq.ok la
      have Kb := HB2.out.below uq.ok lb
      have Kc := HC2.out.below uq.ok lc
      have hbw := btrans HD2.out uq.ok
      generalize hwx : uq.val = wx at *
      clear hwx uq u0 ua ub uc HUa HUb HUc HA2 HB2 HC2 HD2 ca cb cc la lb lc
      have ca := Ka.cell 5
      have fa := Ka.frozen 5
      have cb := Kb.cell 5
      have fb := Kb.frozen 5
      have cc := Kc.cell 5
      have fc := Kc.frozen 5
      simp only [arrS, List.getElem?_toArray, List.getElem?_cons_succ, List.getElem?_cons_zero] at ca cb cc
      have HNa := Lib.hid (((Ka.set_ 5 (.int .i64 (i5 - 6))).far (p := ⟨(w.heap.size + 1), 5, none⟩) (show w.heap.size ≠ (w.heap.size + 1) by omega) (.int .i64 (j5 - 6))).far (p := ⟨(w.heap.size + 1 + 1), 5, none⟩) (show w.heap.size ≠ (w.heap.size + 1 + 1) by omega) (.int .i64 (k5 - 6)))
      have HNb := Lib.hid (((Kb.far (p := ⟨w.heap.size, 5, none⟩) (show (w.heap.size + 1) ≠ w.heap.size by omega) (.int .i64 (i5 - 6))).set_ 5 (.int .i64 (j5 - 6))).far (p := ⟨(w.heap.size + 1 + 1), 5, none⟩) (show (w.heap.size + 1) ≠ (w.heap.size + 1 + 1) by omega) (.int .i64 (k5 - 6)))
      have HNc := Lib.hid (((Kc.far (p := ⟨w.heap.size, 5, none⟩) (show (w.heap.size + 1 + 1) ≠ w.heap.size by omega) (.int .i64 (i5 - 6))).far (p := ⟨(w.heap.size + 1), 5, none⟩) (show (w.heap.size + 1 + 1) ≠ (w.heap.size + 1) by omega) (.int .i64 (j5 - 6))).set_ 5 (.int .i64 (k5 - 6)))
      have HD2 := Lib.hid hbw
      clear Ka Kb Kc hbw
      go_wp2_with fail
      go_roundw
      case rel => exact ⟨6, by omega, rfl, HNa.out, HNb.out, HNc.out, bset (bset (bset HD2.out (Nat.le_refl _) _) (Nat.le_add_right _ _) _) (show w.heap.size ≤ w.heap.size + 1 + 1 by omega) _⟩
      case measure => simp [intOf]
    · replace Ka : Blk wr w.heap.size 51 #[.int .i64 (i0 - 6), .int .i64 (i1 - 6), .int .i64 (i2 - 6), .int .i64 (i3 - 6), .int .i64 (i4 - 6), .int .i64 (i5 - 6)] := Ka
      replace Kb : Blk wr (w.heap.size + 1) 51 #[.int .i64 (j0 - 6), .int .i64 (j1 - 6), .int .i64 (j2 - 6), .int .i64 (j3 - 6), .int .i64 (j4 - 6), .int .i64 (j5 - 6)] := Kb
      replace Kc : Blk wr (w.heap.size + 1 + 1) 51 #[.int .i64 (k0 - 6), .int .i64 (k1 - 6), .int .i64 (k2 - 6), .int .i64 (k3 - 6), .int .i64 (k4 - 6), .int .i64 (k5 - 6)] := Kc

      have lKa := Ka.lt
      have cKa0 := Ka.cell 0
      have cKa1 := Ka.cell 1
      have cKa2 := Ka.cell 2
      have cKa3 := Ka.cell 3
      have cKa4 := Ka.cell 4
      have cKa5 := Ka.cell 5
      have lKb := Kb.lt
      have cKb0 := Kb.cell 0
      have cKb1 := Kb.cell 1
      have cKb2 := Kb.cell 2
      have cKb3 := Kb.cell 3
      have cKb4 := Kb.cell 4
      have cKb5 := Kb.cell 5
      have lKc := Kc.lt
      have cKc0 := Kc.cell 0
      have cKc1 := Kc.cell 1
      have cKc2 := Kc.cell 2
      have cKc3 := Kc.cell 3
      have cKc4 := Kc.cell 4
      have cKc5 := Kc.cell 5
      simp only [List.getElem?_toArray, List.getElem?_cons_succ, List.getElem?_cons_zero] at cKa0 cKa1 cKa2 cKa3 cKa4 cKa5 cKb0 cKb1 cKb2 cKb3 cKb4 cKb5 cKc0 cKc1 cKc2 cKc3 cKc4 cKc5
      go_wp2_with fail
      refine wp_region_alloc3 39 [] (.cells #[.int .i64 0, .int .i64 0, .int .i64 0, .int .i64 0, .int .i64 0, .int .i64 0] 23) _ _ _ (by kernel_rfl) (by kernel_rfl) (fun d _ _ _ _ h => by cases d <;> exact h) rfl rfl rfl (fun ρ w => alloc_mat _ _ _ _ _ ρ w) (fun ρ w => alloc_mat _ _ _ _ _ ρ w) (fun ρ w => alloc_mat _ _ _ _ _ ρ w) ?_
      intro u0
      have uKa0 : ∀ u : Up u0.val, u.val.cell? ⟨w.heap.size, 0, none⟩ = some (.int .i64 (i0 - 6)) := fun u => ((u.cell (Nat.lt_of_lt_of_le lKa u0.ok.size)).trans (u0.cell lKa)).trans cKa0
      have uKa1 : ∀ u : Up u0.val, u.val.cell? ⟨w.heap.size, 1, none⟩ = some (.int .i64 (i1 - 6)) := fun u => ((u.cell (Nat.lt_of_lt_of_le lKa u0.ok.size)).trans (u0.cell lKa)).trans cKa1
      have uKa2 : ∀ u : Up u0.val, u.val.cell? ⟨w.heap.size, 2, none⟩ = some (.int .i64 (i2 - 6)) := fun u => ((u.cell (Nat.lt_of_lt_of_le lKa u0.ok.size)).trans (u0.cell lKa)).trans cKa2
      have uKa3 : ∀ u : Up u0.val, u.val.cell? ⟨w.heap.size, 3, none⟩ = some (.int .i64 (i3 - 6)) := fun u => ((u.cell (Nat.lt_of_lt_of_le lKa u0.ok.size)).trans (u0.cell lKa)).trans cKa3
      have uKa4 : ∀ u : Up u0.val, u.val.cell? ⟨w.heap.size, 4, none⟩ = some (.int .i64 (i4 - 6)) := fun u => ((u.cell (Nat.lt_of_lt_of_le lKa u0.ok.size)).trans (u0.cell lKa)).trans cKa4
      have uKa5 : ∀ u : Up u0.val, u.val.cell? ⟨w.heap.size, 5, none⟩ = some (.int .i64 (i5 - 6)) := fun u => ((u.cell (Nat.lt_of_lt_of_le lKa u0.ok.size)).trans (u0.cell lKa)).trans cKa5
      have uKb0 : ∀ u : Up u0.val, u.val.cell? ⟨(w.heap.size + 1), 0, none⟩ = some (.int .i64 (j0 - 6)) := fun u => ((u.cell (Nat.lt_of_lt_of_le lKb u0.ok.size)).trans (u0.cell lKb)).trans cKb0
      have uKb1 : ∀ u : Up u0.val, u.val.cell? ⟨(w.heap.size + 1), 1, none⟩ = some (.int .i64 (j1 - 6)) := fun u => ((u.cell (Nat.lt_of_lt_of_le lKb u0.ok.size)).trans (u0.cell lKb)).trans cKb1
      have uKb2 : ∀ u : Up u0.val, u.val.cell? ⟨(w.heap.size + 1), 2, none⟩ = some (.int .i64 (j2 - 6)) := fun u => ((u.cell (Nat.lt_of_lt_of_le lKb u0.ok.size)).trans (u0.cell lKb)).trans cKb2
      have uKb3 : ∀ u : Up u0.val, u.val.cell? ⟨(w.heap.size + 1), 3, none⟩ = some (.int .i64 (j3 - 6)) := fun u => ((u.cell (Nat.lt_of_lt_of_le lKb u0.ok.size)).trans (u0.cell lKb)).trans cKb3
      have uKb4 : ∀ u : Up u0.val, u.val.cell? ⟨(w.heap.size + 1), 4, none⟩ = some (.int .i64 (j4 - 6)) := fun u => ((u.cell (Nat.lt_of_lt_of_le lKb u0.ok.size)).trans (u0.cell lKb)).trans cKb4
      have uKb5 : ∀ u : Up u0.val, u.val.cell? ⟨(w.heap.size + 1), 5, none⟩ = some (.int .i64 (j5 - 6)) := fun u => ((u.cell (Nat.lt_of_lt_of_le lKb u0.ok.size)).trans (u0.cell lKb)).trans cKb5
      have uKc0 : ∀ u : Up u0.val, u.val.cell? ⟨(w.heap.size + 1 + 1), 0, none⟩ = some (.int .i64 (k0 - 6)) := fun u => ((u.cell (Nat.lt_of_lt_of_le lKc u0.ok.size)).trans (u0.cell lKc)).trans cKc0
      have uKc1 : ∀ u : Up u0.val, u.val.cell? ⟨(w.heap.size + 1 + 1), 1, none⟩ = some (.int .i64 (k1 - 6)) := fun u => ((u.cell (Nat.lt_of_lt_of_le lKc u0.ok.size)).trans (u0.cell lKc)).trans cKc1
      have uKc2 : ∀ u : Up u0.val, u.val.cell? ⟨(w.heap.size + 1 + 1), 2, none⟩ = some (.int .i64 (k2 - 6)) := fun u => ((u.cell (Nat.lt_of_lt_of_le lKc u0.ok.size)).trans (u0.cell lKc)).trans cKc2
      have uKc3 : ∀ u : Up u0.val, u.val.cell? ⟨(w.heap.size + 1 + 1), 3, none⟩ = some (.int .i64 (k3 - 6)) := fun u => ((u.cell (Nat.lt_of_lt_of_le lKc u0.ok.size)).trans (u0.cell lKc)).trans cKc3
      have uKc4 : ∀ u : Up u0.val, u.val.cell? ⟨(w.heap.size + 1 + 1), 4, none⟩ = some (.int .i64 (k4 - 6)) := fun u => ((u.cell (Nat.lt_of_lt_of_le lKc u0.ok.size)).trans (u0.cell lKc)).trans cKc4
      have uKc5 : ∀ u : Up u0.val, u.val.cell? ⟨(w.heap.size + 1 + 1), 5, none⟩ = some (.int .i64 (k5 - 6)) := fun u => ((u.cell (Nat.lt_of_lt_of_le lKc u0.ok.size)).trans (u0.cell lKc)).trans cKc5
      have HU1 := Lib.hid (fun u : Up u0.val => up_of (u := u) (HW1.out u.val))
      have HU2 := Lib.hid (fun u : Up u0.val => up_of (u := u) (HW2.out u.val))
      have HU3 := Lib.hid (fun u : Up u0.val => up_of (u := u) (HW3.out u.val))
      simp only [List.take_succ_cons, List.take_zero, List.drop_succ_cons, List.drop_zero]
      repeat (go_big_quiet_step (fail))
      go_big_quiet_step (exact HU1.out _)
      repeat (go_big_quiet_step (fail))
      go_big_quiet_step (exact HU2.out _)
      repeat (go_big_quiet_step (fail))
      go_big_quiet_step (exact HU3.out _)
      repeat (go_big_quiet_step (fail))
      refine wpQuiet_nil ?_
      rintro _ ⟨uq, rfl⟩ Pl Pm Pn ⟨hl_Pl, hm_Pl, Kl⟩ ⟨hl_Pm, hm_Pm, Km⟩ ⟨hl_Pn, hm_Pn, Kn⟩ hne0 hne1 hne2
      replace Kl : Blk uq.val Pl 23 #[.int .i64 0, .int .i64 0, .int .i64 0, .int .i64 0, .int .i64 0, .int .i64 0] := Kl
      replace Km : Blk uq.val Pm 23 #[.int .i64 0, .int .i64 0, .int .i64 0, .int .i64 0, .int .i64 0, .int .i64 0] := Km
      replace Kn : Blk uq.val Pn 23 #[.int .i64 0, .int .i64 0, .int .i64 0, .int .i64 0, .int .i64 0, .int .i64 0] := Kn
      replace Ka := Ka.below uq.ok lKa
      replace Kb := Kb.below uq.ok lKb
      replace Kc := Kc.below uq.ok lKc
      have hd_KaPl : w.heap.size ≠ Pl := by have := lKa; omega
      have hd_KaPm : w.heap.size ≠ Pm := by have := lKa; omega
      have hd_KaPn : w.heap.size ≠ Pn := by have := lKa; omega
      have hd_KbPl : (w.heap.size + 1) ≠ Pl := by have := lKb; omega
      have hd_KbPm : (w.heap.size + 1) ≠ Pm := by have := lKb; omega
      have hd_KbPn : (w.heap.size + 1) ≠ Pn := by have := lKb; omega
      have hd_KcPl : (w.heap.size + 1 + 1) ≠ Pl := by have := lKc; omega
      have hd_KcPm : (w.heap.size + 1 + 1) ≠ Pm := by have := lKc; omega
      have hd_KcPn : (w.heap.size + 1 + 1) ≠ Pn := by have := lKc; omega
      have hs_w21 := hbw.size
      replace hbw := btrans hbw uq.ok
      simp only [Act.put]
      generalize hwx : uq.val = w21 at *
      clear hwx uq u0 uKa0 uKa1 uKa2 uKa3 uKa4 uKa5 uKb0 uKb1 uKb2 uKb3 uKb4 uKb5 uKc0 uKc1 uKc2 uKc3 uKc4 uKc5 HU1 HU2 HU3 lKa cKa0 cKa1 cKa2 cKa3 cKa4 cKa5 lKb cKb0 cKb1 cKb2 cKb3 cKb4 cKb5 lKc cKc0 cKc1 cKc2 cKc3 cKc4 cKc5
      have zKl0 := Kl.cell 0
      have zfKl0 := Kl.frozen 0
      have zKl1 := Kl.cell 1
      have zfKl1 := Kl.frozen 1
      have zKl2 := Kl.cell 2
      have zfKl2 := Kl.frozen 2
      have zKl3 := Kl.cell 3
      have zfKl3 := Kl.frozen 3
      have zKl4 := Kl.cell 4
      have zfKl4 := Kl.frozen 4
      have zKl5 := Kl.cell 5
      have zfKl5 := Kl.frozen 5
      have zKm0 := Km.cell 0
      have zfKm0 := Km.frozen 0
      have zKm1 := Km.cell 1
      have zfKm1 := Km.frozen 1
      have zKm2 := Km.cell 2
      have zfKm2 := Km.frozen 2
      have zKm3 := Km.cell 3
      have zfKm3 := Km.frozen 3
      have zKm4 := Km.cell 4
      have zfKm4 := Km.frozen 4
      have zKm5 := Km.cell 5
      have zfKm5 := Km.frozen 5
      have zKn0 := Kn.cell 0
      have zfKn0 := Kn.frozen 0
      have zKn1 := Kn.cell 1
      have zfKn1 := Kn.frozen 1
      have zKn2 := Kn.cell 2
      have zfKn2 := Kn.frozen 2
      have zKn3 := Kn.cell 3
      have zfKn3 := Kn.frozen 3
      have zKn4 := Kn.cell 4
      have zfKn4 := Kn.frozen 4
      have zKn5 := Kn.cell 5
      have zfKn5 := Kn.frozen 5
      simp only [List.getElem?_toArray, List.getElem?_cons_succ, List.getElem?_cons_zero] at zKl0 zKl1 zKl2 zKl3 zKl4 zKl5 zKm0 zKm1 zKm2 zKm3 zKm4 zKm5 zKn0 zKn1 zKn2 zKn3 zKn4 zKn5
      refine wpList_stop fun Kx HKx => ?_
      go_wp2_with fail
      replace Ka := ((((((((((((((((((Ka.far (p := ⟨Pl, 0, none⟩) hd_KaPl (.int .i64 ((i0 - 6) * 65536))).far (p := ⟨Pl, 1, none⟩) hd_KaPl (.int .i64 ((i1 - 6) * 65536))).far (p := ⟨Pl, 2, none⟩) hd_KaPl (.int .i64 ((i2 - 6) * 65536))).far (p := ⟨Pl, 3, none⟩) hd_KaPl (.int .i64 ((i3 - 6) * 65536))).far (p := ⟨Pl, 4, none⟩) hd_KaPl (.int .i64 ((i4 - 6) * 65536))).far (p := ⟨Pl, 5, none⟩) hd_KaPl (.int .i64 ((i5 - 6) * 65536))).far (p := ⟨Pm, 0, none⟩) hd_KaPm (.int .i64 ((j0 - 6) * 65536))).far (p := ⟨Pm, 1, none⟩) hd_KaPm (.int .i64 ((j1 - 6) * 65536))).far (p := ⟨Pm, 2, none⟩) hd_KaPm (.int .i64 ((j2 - 6) * 65536))).far (p := ⟨Pm, 3, none⟩) hd_KaPm (.int .i64 ((j3 - 6) * 65536))).far (p := ⟨Pm, 4, none⟩) hd_KaPm (.int .i64 ((j4 - 6) * 65536))).far (p := ⟨Pm, 5, none⟩) hd_KaPm (.int .i64 ((j5 - 6) * 65536))).far (p := ⟨Pn, 0, none⟩) hd_KaPn (.int .i64 ((k0 - 6) * 65536))).far (p := ⟨Pn, 1, none⟩) hd_KaPn (.int .i64 ((k1 - 6) * 65536))).far (p := ⟨Pn, 2, none⟩) hd_KaPn (.int .i64 ((k2 - 6) * 65536))).far (p := ⟨Pn, 3, none⟩) hd_KaPn (.int .i64 ((k3 - 6) * 65536))).far (p := ⟨Pn, 4, none⟩) hd_KaPn (.int .i64 ((k4 - 6) * 65536))).far (p := ⟨Pn, 5, none⟩) hd_KaPn (.int .i64 ((k5 - 6) * 65536)))
      replace Kb := ((((((((((((((((((Kb.far (p := ⟨Pl, 0, none⟩) hd_KbPl (.int .i64 ((i0 - 6) * 65536))).far (p := ⟨Pl, 1, none⟩) hd_KbPl (.int .i64 ((i1 - 6) * 65536))).far (p := ⟨Pl, 2, none⟩) hd_KbPl (.int .i64 ((i2 - 6) * 65536))).far (p := ⟨Pl, 3, none⟩) hd_KbPl (.int .i64 ((i3 - 6) * 65536))).far (p := ⟨Pl, 4, none⟩) hd_KbPl (.int .i64 ((i4 - 6) * 65536))).far (p := ⟨Pl, 5, none⟩) hd_KbPl (.int .i64 ((i5 - 6) * 65536))).far (p := ⟨Pm, 0, none⟩) hd_KbPm (.int .i64 ((j0 - 6) * 65536))).far (p := ⟨Pm, 1, none⟩) hd_KbPm (.int .i64 ((j1 - 6) * 65536))).far (p := ⟨Pm, 2, none⟩) hd_KbPm (.int .i64 ((j2 - 6) * 65536))).far (p := ⟨Pm, 3, none⟩) hd_KbPm (.int .i64 ((j3 - 6) * 65536))).far (p := ⟨Pm, 4, none⟩) hd_KbPm (.int .i64 ((j4 - 6) * 65536))).far (p := ⟨Pm, 5, none⟩) hd_KbPm (.int .i64 ((j5 - 6) * 65536))).far (p := ⟨Pn, 0, none⟩) hd_KbPn (.int .i64 ((k0 - 6) * 65536))).far (p := ⟨Pn, 1, none⟩) hd_KbPn (.int .i64 ((k1 - 6) * 65536))).far (p := ⟨Pn, 2, none⟩) hd_KbPn (.int .i64 ((k2 - 6) * 65536))).far (p := ⟨Pn, 3, none⟩) hd_KbPn (.int .i64 ((k3 - 6) * 65536))).far (p := ⟨Pn, 4, none⟩) hd_KbPn (.int .i64 ((k4 - 6) * 65536))).far (p := ⟨Pn, 5, none⟩) hd_KbPn (.int .i64 ((k5 - 6) * 65536)))
      replace Kc := ((((((((((((((((((Kc.far (p := ⟨Pl, 0, none⟩) hd_KcPl (.int .i64 ((i0 - 6) * 65536))).far (p := ⟨Pl, 1, none⟩) hd_KcPl (.int .i64 ((i1 - 6) * 65536))).far (p := ⟨Pl, 2, none⟩) hd_KcPl (.int .i64 ((i2 - 6) * 65536))).far (p := ⟨Pl, 3, none⟩) hd_KcPl (.int .i64 ((i3 - 6) * 65536))).far (p := ⟨Pl, 4, none⟩) hd_KcPl (.int .i64 ((i4 - 6) * 65536))).far (p := ⟨Pl, 5, none⟩) hd_KcPl (.int .i64 ((i5 - 6) * 65536))).far (p := ⟨Pm, 0, none⟩) hd_KcPm (.int .i64 ((j0 - 6) * 65536))).far (p := ⟨Pm, 1, none⟩) hd_KcPm (.int .i64 ((j1 - 6) * 65536))).far (p := ⟨Pm, 2, none⟩) hd_KcPm (.int .i64 ((j2 - 6) * 65536))).far (p := ⟨Pm, 3, none⟩) hd_KcPm (.int .i64 ((j3 - 6) * 65536))).far (p := ⟨Pm, 4, none⟩) hd_KcPm (.int .i64 ((j4 - 6) * 65536))).far (p := ⟨Pm, 5, none⟩) hd_KcPm (.int .i64 ((j5 - 6) * 65536))).far (p := ⟨Pn, 0, none⟩) hd_KcPn (.int .i64 ((k0 - 6) * 65536))).far (p := ⟨Pn, 1, none⟩) hd_KcPn (.int .i64 ((k1 - 6) * 65536))).far (p := ⟨Pn, 2, none⟩) hd_KcPn (.int .i64 ((k2 - 6) * 65536))).far (p := ⟨Pn, 3, none⟩) hd_KcPn (.int .i64 ((k3 - 6) * 65536))).far (p := ⟨Pn, 4, none⟩) hd_KcPn (.int .i64 ((k4 - 6) * 65536))).far (p := ⟨Pn, 5, none⟩) hd_KcPn (.int .i64 ((k5 - 6) * 65536)))
      replace Kl : Blk _ Pl 23 #[.int .i64 ((i0 - 6) * 65536), .int .i64 ((i1 - 6) * 65536), .int .i64 ((i2 - 6) * 65536), .int .i64 ((i3 - 6) * 65536), .int .i64 ((i4 - 6) * 65536), .int .i64 ((i5 - 6) * 65536)] := ((((((((((((((((((Kl.set_ 0 (.int .i64 ((i0 - 6) * 65536))).set_ 1 (.int .i64 ((i1 - 6) * 65536))).set_ 2 (.int .i64 ((i2 - 6) * 65536))).set_ 3 (.int .i64 ((i3 - 6) * 65536))).set_ 4 (.int .i64 ((i4 - 6) * 65536))).set_ 5 (.int .i64 ((i5 - 6) * 65536))).far (p := ⟨Pm, 0, none⟩) (show Pl ≠ Pm by omega) (.int .i64 ((j0 - 6) * 65536))).far (p := ⟨Pm, 1, none⟩) (show Pl ≠ Pm by omega) (.int .i64 ((j1 - 6) * 65536))).far (p := ⟨Pm, 2, none⟩) (show Pl ≠ Pm by omega) (.int .i64 ((j2 - 6) * 65536))).far (p := ⟨Pm, 3, none⟩) (show Pl ≠ Pm by omega) (.int .i64 ((j3 - 6) * 65536))).far (p := ⟨Pm, 4, none⟩) (show Pl ≠ Pm by omega) (.int .i64 ((j4 - 6) * 65536))).far (p := ⟨Pm, 5, none⟩) (show Pl ≠ Pm by omega) (.int .i64 ((j5 - 6) * 65536))).far (p := ⟨Pn, 0, none⟩) (show Pl ≠ Pn by omega) (.int .i64 ((k0 - 6) * 65536))).far (p := ⟨Pn, 1, none⟩) (show Pl ≠ Pn by omega) (.int .i64 ((k1 - 6) * 65536))).far (p := ⟨Pn, 2, none⟩) (show Pl ≠ Pn by omega) (.int .i64 ((k2 - 6) * 65536))).far (p := ⟨Pn, 3, none⟩) (show Pl ≠ Pn by omega) (.int .i64 ((k3 - 6) * 65536))).far (p := ⟨Pn, 4, none⟩) (show Pl ≠ Pn by omega) (.int .i64 ((k4 - 6) * 65536))).far (p := ⟨Pn, 5, none⟩) (show Pl ≠ Pn by omega) (.int .i64 ((k5 - 6) * 65536)))
      replace Km : Blk _ Pm 23 #[.int .i64 ((j0 - 6) * 65536), .int .i64 ((j1 - 6) * 65536), .int .i64 ((j2 - 6) * 65536), .int .i64 ((j3 - 6) * 65536), .int .i64 ((j4 - 6) * 65536), .int .i64 ((j5 - 6) * 65536)] := ((((((((((((((((((Km.far (p := ⟨Pl, 0, none⟩) (show Pm ≠ Pl by omega) (.int .i64 ((i0 - 6) * 65536))).far (p := ⟨Pl, 1, none⟩) (show Pm ≠ Pl by omega) (.int .i64 ((i1 - 6) * 65536))).far (p := ⟨Pl, 2, none⟩) (show Pm ≠ Pl by omega) (.int .i64 ((i2 - 6) * 65536))).far (p := ⟨Pl, 3, none⟩) (show Pm ≠ Pl by omega) (.int .i64 ((i3 - 6) * 65536))).far (p := ⟨Pl, 4, none⟩) (show Pm ≠ Pl by omega) (.int .i64 ((i4 - 6) * 65536))).far (p := ⟨Pl, 5, none⟩) (show Pm ≠ Pl by omega) (.int .i64 ((i5 - 6) * 65536))).set_ 0 (.int .i64 ((j0 - 6) * 65536))).set_ 1 (.int .i64 ((j1 - 6) * 65536))).set_ 2 (.int .i64 ((j2 - 6) * 65536))).set_ 3 (.int .i64 ((j3 - 6) * 65536))).set_ 4 (.int .i64 ((j4 - 6) * 65536))).set_ 5 (.int .i64 ((j5 - 6) * 65536))).far (p := ⟨Pn, 0, none⟩) (show Pm ≠ Pn by omega) (.int .i64 ((k0 - 6) * 65536))).far (p := ⟨Pn, 1, none⟩) (show Pm ≠ Pn by omega) (.int .i64 ((k1 - 6) * 65536))).far (p := ⟨Pn, 2, none⟩) (show Pm ≠ Pn by omega) (.int .i64 ((k2 - 6) * 65536))).far (p := ⟨Pn, 3, none⟩) (show Pm ≠ Pn by omega) (.int .i64 ((k3 - 6) * 65536))).far (p := ⟨Pn, 4, none⟩) (show Pm ≠ Pn by omega) (.int .i64 ((k4 - 6) * 65536))).far (p := ⟨Pn, 5, none⟩) (show Pm ≠ Pn by omega) (.int .i64 ((k5 - 6) * 65536)))
      replace Kn : Blk _ Pn 23 #[.int .i64 ((k0 - 6) * 65536), .int .i64 ((k1 - 6) * 65536), .int .i64 ((k2 - 6) * 65536), .int .i64 ((k3 - 6) * 65536), .int .i64 ((k4 - 6) * 65536), .int .i64 ((k5 - 6) * 65536)] := ((((((((((((((((((Kn.far (p := ⟨Pl, 0, none⟩) (show Pn ≠ Pl by omega) (.int .i64 ((i0 - 6) * 65536))).far (p := ⟨Pl, 1, none⟩) (show Pn ≠ Pl by omega) (.int .i64 ((i1 - 6) * 65536))).far (p := ⟨Pl, 2, none⟩) (show Pn ≠ Pl by omega) (.int .i64 ((i2 - 6) * 65536))).far (p := ⟨Pl, 3, none⟩) (show Pn ≠ Pl by omega) (.int .i64 ((i3 - 6) * 65536))).far (p := ⟨Pl, 4, none⟩) (show Pn ≠ Pl by omega) (.int .i64 ((i4 - 6) * 65536))).far (p := ⟨Pl, 5, none⟩) (show Pn ≠ Pl by omega) (.int .i64 ((i5 - 6) * 65536))).far (p := ⟨Pm, 0, none⟩) (show Pn ≠ Pm by omega) (.int .i64 ((j0 - 6) * 65536))).far (p := ⟨Pm, 1, none⟩) (show Pn ≠ Pm by omega) (.int .i64 ((j1 - 6) * 65536))).far (p := ⟨Pm, 2, none⟩) (show Pn ≠ Pm by omega) (.int .i64 ((j2 - 6) * 65536))).far (p := ⟨Pm, 3, none⟩) (show Pn ≠ Pm by omega) (.int .i64 ((j3 - 6) * 65536))).far (p := ⟨Pm, 4, none⟩) (show Pn ≠ Pm by omega) (.int .i64 ((j4 - 6) * 65536))).far (p := ⟨Pm, 5, none⟩) (show Pn ≠ Pm by omega) (.int .i64 ((j5 - 6) * 65536))).set_ 0 (.int .i64 ((k0 - 6) * 65536))).set_ 1 (.int .i64 ((k1 - 6) * 65536))).set_ 2 (.int .i64 ((k2 - 6) * 65536))).set_ 3 (.int .i64 ((k3 - 6) * 65536))).set_ 4 (.int .i64 ((k4 - 6) * 65536))).set_ 5 (.int .i64 ((k5 - 6) * 65536)))
      have hq_Pl : w.heap.size ≤ Pl := by omega
      have hq_Pm : w.heap.size ≤ Pm := by omega
      have hq_Pn : w.heap.size ≤ Pn := by omega
      replace hbw : Below w.heap.size w ((((((((((((((((((w21.setCell ⟨Pl, 0, none⟩ (.int .i64 ((i0 - 6) * 65536))).setCell ⟨Pl, 1, none⟩ (.int .i64 ((i1 - 6) * 65536))).setCell ⟨Pl, 2, none⟩ (.int .i64 ((i2 - 6) * 65536))).setCell ⟨Pl, 3, none⟩ (.int .i64 ((i3 - 6) * 65536))).setCell ⟨Pl, 4, none⟩ (.int .i64 ((i4 - 6) * 65536))).setCell ⟨Pl, 5, none⟩ (.int .i64 ((i5 - 6) * 65536))).setCell ⟨Pm, 0, none⟩ (.int .i64 ((j0 - 6) * 65536))).setCell ⟨Pm, 1, none⟩ (.int .i64 ((j1 - 6) * 65536))).setCell ⟨Pm, 2, none⟩ (.int .i64 ((j2 - 6) * 65536))).setCell ⟨Pm, 3, none⟩ (.int .i64 ((j3 - 6) * 65536))).setCell ⟨Pm, 4, none⟩ (.int .i64 ((j4 - 6) * 65536))).setCell ⟨Pm, 5, none⟩ (.int .i64 ((j5 - 6) * 65536))).setCell ⟨Pn, 0, none⟩ (.int .i64 ((k0 - 6) * 65536))).setCell ⟨Pn, 1, none⟩ (.int .i64 ((k1 - 6) * 65536))).setCell ⟨Pn, 2, none⟩ (.int .i64 ((k2 - 6) * 65536))).setCell ⟨Pn, 3, none⟩ (.int .i64 ((k3 - 6) * 65536))).setCell ⟨Pn, 4, none⟩ (.int .i64 ((k4 - 6) * 65536))).setCell ⟨Pn, 5, none⟩ (.int .i64 ((k5 - 6) * 65536))) := by (repeat' (first | refine bset ?_ (by first | omega | (simp <;> omega)) _ | refine balloc ?_ _ | refine Below.drew ?_ | refine below_drewN ?_ _ | exact hbw | exact Below.refl _ _))
      generalize hwx : ((((((((((((((((((w21.setCell ⟨Pl, 0, none⟩ (.int .i64 ((i0 - 6) * 65536))).setCell ⟨Pl, 1, none⟩ (.int .i64 ((i1 - 6) * 65536))).setCell ⟨Pl, 2, none⟩ (.int .i64 ((i2 - 6) * 65536))).setCell ⟨Pl, 3, none⟩ (.int .i64 ((i3 - 6) * 65536))).setCell ⟨Pl, 4, none⟩ (.int .i64 ((i4 - 6) * 65536))).setCell ⟨Pl, 5, none⟩ (.int .i64 ((i5 - 6) * 65536))).setCell ⟨Pm, 0, none⟩ (.int .i64 ((j0 - 6) * 65536))).setCell ⟨Pm, 1, none⟩ (.int .i64 ((j1 - 6) * 65536))).setCell ⟨Pm, 2, none⟩ (.int .i64 ((j2 - 6) * 65536))).setCell ⟨Pm, 3, none⟩ (.int .i64 ((j3 - 6) * 65536))).setCell ⟨Pm, 4, none⟩ (.int .i64 ((j4 - 6) * 65536))).setCell ⟨Pm, 5, none⟩ (.int .i64 ((j5 - 6) * 65536))).setCell ⟨Pn, 0, none⟩ (.int .i64 ((k0 - 6) * 65536))).setCell ⟨Pn, 1, none⟩ (.int .i64 ((k1 - 6) * 65536))).setCell ⟨Pn, 2, none⟩ (.int .i64 ((k2 - 6) * 65536))).setCell ⟨Pn, 3, none⟩ (.int .i64 ((k3 - 6) * 65536))).setCell ⟨Pn, 4, none⟩ (.int .i64 ((k4 - 6) * 65536))).setCell ⟨Pn, 5, none⟩ (.int .i64 ((k5 - 6) * 65536))) = w22 at *
      clear hwx zKl0 zfKl0 zKl1 zfKl1 zKl2 zfKl2 zKl3 zfKl3 zKl4 zfKl4 zKl5 zfKl5 zKm0 zfKm0 zKm1 zfKm1 zKm2 zfKm2 zKm3 zfKm3 zKm4 zfKm4 zKm5 zfKm5 zKn0 zfKn0 zKn1 zfKn1 zKn2 zfKn2 zKn3 zfKn3 zKn4 zfKn4 zKn5 zfKn5 hs_w21 hl_Pl hm_Pl hl_Pm hm_Pm hl_Pn hm_Pn
      have lKa := Ka.lt
      have cKa0 := Ka.cell 0
      have cKa1 := Ka.cell 1
      have cKa2 := Ka.cell 2
      have cKa3 := Ka.cell 3
      have cKa4 := Ka.cell 4
      have cKa5 := Ka.cell 5
      have lKb := Kb.lt
      have cKb0 := Kb.cell 0
      have cKb1 := Kb.cell 1
      have cKb2 := Kb.cell 2
      have cKb3 := Kb.cell 3
      have cKb4 := Kb.cell 4
      have cKb5 := Kb.cell 5
      have lKc := Kc.lt
      have cKc0 := Kc.cell 0
      have cKc1 := Kc.cell 1
      have cKc2 := Kc.cell 2
      have cKc3 := Kc.cell 3
      have cKc4 := Kc.cell 4
      have cKc5 := Kc.cell 5
      have lKl := Kl.lt
      have cKl0 := Kl.cell 0
      have cKl1 := Kl.cell 1
      have cKl2 := Kl.cell 2
      have cKl3 := Kl.cell 3
      have cKl4 := Kl.cell 4
      have cKl5 := Kl.cell 5
      have lKm := Km.lt
      have cKm0 := Km.cell 0
      have cKm1 := Km.cell 1
      have cKm2 := Km.cell 2
      have cKm3 := Km.cell 3
      have cKm4 := Km.cell 4
      have cKm5 := Km.cell 5
      have lKn := Kn.lt
      have cKn0 := Kn.cell 0
      have cKn1 := Kn.cell 1
      have cKn2 := Kn.cell 2
      have cKn3 := Kn.cell 3
      have cKn4 := Kn.cell 4
      have cKn5 := Kn.cell 5
      simp only [List.getElem?_toArray, List.getElem?_cons_succ, List.getElem?_cons_zero] at cKa0 cKa1 cKa2 cKa3 cKa4 cKa5 cKb0 cKb1 cKb2 cKb3 cKb4 cKb5 cKc0 cKc1 cKc2 cKc3 cKc4 cKc5 cKl0 cKl1 cKl2 cKl3 cKl4 cKl5 cKm0 cKm1 cKm2 cKm3 cKm4 cKm5 cKn0 cKn1 cKn2 cKn3 cKn4 cKn5
      refine HKx.out _ _ ?_
      clear HKx Kx
      go_wp2_with fail
      refine (HX1.out _).mono ?_
      rintro e_ w23 ⟨rfl, hb23⟩
      replace Ka := Ka.below hb23 (by first | exact lKa | (have := lKa; simp; omega))
      replace Kb := Kb.below hb23 (by first | exact lKb | (have := lKb; simp; omega))
      replace Kc := Kc.below hb23 (by first | exact lKc | (have := lKc; simp; omega))
      replace Kl := Kl.below hb23 (by first | exact lKl | (have := lKl; simp; omega))
      replace Km := Km.below hb23 (by first | exact lKm | (have := lKm; simp; omega))
      replace Kn := Kn.below hb23 (by first | exact lKn | (have := lKn; simp; omega))
      replace hbw : Below w.heap.size w w23 := btrans (by (repeat' (first | refine bset ?_ (by first | omega | (simp <;> omega)) _ | refine balloc ?_ _ | refine Below.drew ?_ | refine below_drewN ?_ _ | exact hbw | exact Below.refl _ _))) hb23
      clear hb23 lKa cKa0 cKa1 cKa2 cKa3 cKa4 cKa5 lKb cKb0 cKb1 cKb2 cKb3 cKb4 cKb5 lKc cKc0 cKc1 cKc2 cKc3 cKc4 cKc5 lKl cKl0 cKl1 cKl2 cKl3 cKl4 cKl5 lKm cKm0 cKm1 cKm2 cKm3 cKm4 cKm5 lKn cKn0 cKn1 cKn2 cKn3 cKn4 cKn5 Ka Kb Kc
      have lKl := Kl.lt
      have cKl0 := Kl.cell 0
      have cKl1 := Kl.cell 1
      have cKl2 := Kl.cell 2
      have cKl3 := Kl.cell 3
      have cKl4 := Kl.cell 4
      have cKl5 := Kl.cell 5
      have lKm := Km.lt
      have cKm0 := Km.cell 0
      have cKm1 := Km.cell 1
      have cKm2 := Km.cell 2
      have cKm3 := Km.cell 3
      have cKm4 := Km.cell 4
      have cKm5 := Km.cell 5
      have lKn := Kn.lt
      have cKn0 := Kn.cell 0
      have cKn1 := Kn.cell 1
      have cKn2 := Kn.cell 2
      have cKn3 := Kn.cell 3
      have cKn4 := Kn.cell 4
      have cKn5 := Kn.cell 5
      simp only [List.getElem?_toArray, List.getElem?_cons_succ, List.getElem?_cons_zero] at cKl0 cKl1 cKl2 cKl3 cKl4 cKl5 cKm0 cKm1 cKm2 cKm3 cKm4 cKm5 cKn0 cKn1 cKn2 cKn3 cKn4 cKn5
      go_wp2_with fail
      refine (HX2.out _).mono ?_
      rintro e_ w24 ⟨rfl, hb24⟩
      replace Kl := (Kl.alloc (.cells #[.int .i64 (l0 * 65536), .int .i64 (l1 * 65536), .int .i64 (l2 * 65536), .int .i64 (l3 * 65536), .int .i64 (l4 * 65536), .int .i64 (l5 * 65536)] 23)).below hb24 (by first | exact lKl | (have := lKl; simp; omega))
      replace Km := (Km.alloc (.cells #[.int .i64 (l0 * 65536), .int .i64 (l1 * 65536), .int .i64 (l2 * 65536), .int .i64 (l3 * 65536), .int .i64 (l4 * 65536), .int .i64 (l5 * 65536)] 23)).below hb24 (by first | exact lKm | (have := lKm; simp; omega))
      replace Kn := (Kn.alloc (.cells #[.int .i64 (l0 * 65536), .int .i64 (l1 * 65536), .int .i64 (l2 * 65536), .int .i64 (l3 * 65536), .int .i64 (l4 * 65536), .int .i64 (l5 * 65536)] 23)).below hb24 (by first | exact lKn | (have := lKn; simp; omega))
      have Klm := (Blk.new w23 23 #[.int .i64 (l0 * 65536), .int .i64 (l1 * 65536), .int .i64 (l2 * 65536), .int .i64 (l3 * 65536), .int .i64 (l4 * 65536), .int .i64 (l5 * 65536)]).below hb24 (by simp)
      replace hbw : Below w.heap.size w w24 := btrans (by (repeat' (first | refine bset ?_ (by first | omega | (simp <;> omega)) _ | refine balloc ?_ _ | refine Below.drew ?_ | refine below_drewN ?_ _ | exact hbw | exact Below.refl _ _))) hb24
      clear hb24 lKl cKl0 cKl1 cKl2 cKl3 cKl4 cKl5 lKm cKm0 cKm1 cKm2 cKm3 cKm4 cKm5 lKn cKn0 cKn1 cKn2 cKn3 cKn4 cKn5
      have lKl := Kl.lt
      have cKl0 := Kl.cell 0
      have cKl1 := Kl.cell 1
      have cKl2 := Kl.cell 2
      have cKl3 := Kl.cell 3
      have cKl4 := Kl.cell 4
      have cKl5 := Kl.cell 5
      have lKm := Km.lt
      have cKm0 := Km.cell 0
      have cKm1 := Km.cell 1
      have cKm2 := Km.cell 2
      have cKm3 := Km.cell 3
      have cKm4 := Km.cell 4
      have cKm5 := Km.cell 5
      have lKn := Kn.lt
      have cKn0 := Kn.cell 0
      have cKn1 := Kn.cell 1
      have cKn2 := Kn.cell 2
      have cKn3 := Kn.cell 3
      have cKn4 := Kn.cell 4
      have cKn5 := Kn.cell 5
      have lKlm := Klm.lt
      have cKlm0 := Klm.cell 0
      have cKlm1 := Klm.cell 1
      have cKlm2 := Klm.cell 2
      have cKlm3 := Klm.cell 3
      have cKlm4 := Klm.cell 4
      have cKlm5 := Klm.cell 5
      simp only [List.getElem?_toArray, List.getElem?_cons_succ, List.getElem?_cons_zero] at cKl0 cKl1 cKl2 cKl3 cKl4 cKl5 cKm0 cKm1 cKm2 cKm3 cKm4 cKm5 cKn0 cKn1 cKn2 cKn3 cKn4 cKn5 cKlm0 cKlm1 cKlm2 cKlm3 cKlm4 cKlm5
      go_wp2_with fail
      refine (HX3.out _).mono ?_
      rintro e_ w25 ⟨rfl, hb25⟩
      replace Kl := (Kl.alloc (.cells #[.int .i64 (m0 * 65536), .int .i64 (m1 * 65536), .int .i64 (m2 * 65536), .int .i64 (m3 * 65536), .int .i64 (m4 * 65536), .int .i64 (m5 * 65536)] 23)).below hb25 (by first | exact lKl | (have := lKl; simp; omega))
      replace Km := (Km.alloc (.cells #[.int .i64 (m0 * 65536), .int .i64 (m1 * 65536), .int .i64 (m2 * 65536), .int .i64 (m3 * 65536), .int .i64 (m4 * 65536), .int .i64 (m5 * 65536)] 23)).below hb25 (by first | exact lKm | (have := lKm; simp; omega))
      replace Kn := (Kn.alloc (.cells #[.int .i64 (m0 * 65536), .int .i64 (m1 * 65536), .int .i64 (m2 * 65536), .int .i64 (m3 * 65536), .int .i64 (m4 * 65536), .int .i64 (m5 * 65536)] 23)).below hb25 (by first | exact lKn | (have := lKn; simp; omega))
      replace Klm := (Klm.alloc (.cells #[.int .i64 (m0 * 65536), .int .i64 (m1 * 65536), .int .i64 (m2 * 65536), .int .i64 (m3 * 65536), .int .i64 (m4 * 65536), .int .i64 (m5 * 65536)] 23)).below hb25 (by first | exact lKlm | (have := lKlm; simp; omega))
      have Kmn := (Blk.new w24 23 #[.int .i64 (m0 * 65536), .int .i64 (m1 * 65536), .int .i64 (m2 * 65536), .int .i64 (m3 * 65536), .int .i64 (m4 * 65536), .int .i64 (m5 * 65536)]).below hb25 (by simp)
      replace hbw : Below w.heap.size w w25 := btrans (by (repeat' (first | refine bset ?_ (by first | omega | (simp <;> omega)) _ | refine balloc ?_ _ | refine Below.drew ?_ | refine below_drewN ?_ _ | exact hbw | exact Below.refl _ _))) hb25
      clear hb25 lKl cKl0 cKl1 cKl2 cKl3 cKl4 cKl5 lKm cKm0 cKm1 cKm2 cKm3 cKm4 cKm5 lKn cKn0 cKn1 cKn2 cKn3 cKn4 cKn5 lKlm cKlm0 cKlm1 cKlm2 cKlm3 cKlm4 cKlm5 Kn
      have lKl := Kl.lt
      have cKl0 := Kl.cell 0
      have cKl1 := Kl.cell 1
      have cKl2 := Kl.cell 2
      have cKl3 := Kl.cell 3
      have cKl4 := Kl.cell 4
      have cKl5 := Kl.cell 5
      have lKm := Km.lt
      have cKm0 := Km.cell 0
      have cKm1 := Km.cell 1
      have cKm2 := Km.cell 2
      have cKm3 := Km.cell 3
      have cKm4 := Km.cell 4
      have cKm5 := Km.cell 5
      have lKlm := Klm.lt
      have cKlm0 := Klm.cell 0
      have cKlm1 := Klm.cell 1
      have cKlm2 := Klm.cell 2
      have cKlm3 := Klm.cell 3
      have cKlm4 := Klm.cell 4
      have cKlm5 := Klm.cell 5
      have lKmn := Kmn.lt
      have cKmn0 := Kmn.cell 0
      have cKmn1 := Kmn.cell 1
      have cKmn2 := Kmn.cell 2
      have cKmn3 := Kmn.cell 3
      have cKmn4 := Kmn.cell 4
      have cKmn5 := Kmn.cell 5
      simp only [List.getElem?_toArray, List.getElem?_cons_succ, List.getElem?_cons_zero] at cKl0 cKl1 cKl2 cKl3 cKl4 cKl5 cKm0 cKm1 cKm2 cKm3 cKm4 cKm5 cKlm0 cKlm1 cKlm2 cKlm3 cKlm4 cKlm5 cKmn0 cKmn1 cKmn2 cKmn3 cKmn4 cKmn5
      go_wp2_with fail
      refine (HX4.out _).mono ?_
      rintro e_ w26 ⟨rfl, hb26⟩
      replace Kl := (Kl.alloc (.cells #[.int .i64 (e0 * 65536), .int .i64 (e1 * 65536), .int .i64 (e2 * 65536), .int .i64 (e3 * 65536), .int .i64 (e4 * 65536), .int .i64 (e5 * 65536)] 23)).below hb26 (by first | exact lKl | (have := lKl; simp; omega))
      replace Km := (Km.alloc (.cells #[.int .i64 (e0 * 65536), .int .i64 (e1 * 65536), .int .i64 (e2 * 65536), .int .i64 (e3 * 65536), .int .i64 (e4 * 65536), .int .i64 (e5 * 65536)] 23)).below hb26 (by first | exact lKm | (have := lKm; simp; omega))
      replace Klm := (Klm.alloc (.cells #[.int .i64 (e0 * 65536), .int .i64 (e1 * 65536), .int .i64 (e2 * 65536), .int .i64 (e3 * 65536), .int .i64 (e4 * 65536), .int .i64 (e5 * 65536)] 23)).below hb26 (by first | exact lKlm | (have := lKlm; simp; omega))
      replace Kmn := (Kmn.alloc (.cells #[.int .i64 (e0 * 65536), .int .i64 (e1 * 65536), .int .i64 (e2 * 65536), .int .i64 (e3 * 65536), .int .i64 (e4 * 65536), .int .i64 (e5 * 65536)] 23)).below hb26 (by first | exact lKmn | (have := lKmn; simp; omega))
      have Kp := (Blk.new w25 23 #[.int .i64 (e0 * 65536), .int .i64 (e1 * 65536), .int .i64 (e2 * 65536), .int .i64 (e3 * 65536), .int .i64 (e4 * 65536), .int .i64 (e5 * 65536)]).below hb26 (by simp)
      replace hbw : Below w.heap.size w w26 := btrans (by (repeat' (first | refine bset ?_ (by first | omega | (simp <;> omega)) _ | refine balloc ?_ _ | refine Below.drew ?_ | refine below_drewN ?_ _ | exact hbw | exact Below.refl _ _))) hb26
      clear hb26 lKl cKl0 cKl1 cKl2 cKl3 cKl4 cKl5 lKm cKm0 cKm1 cKm2 cKm3 cKm4 cKm5 lKlm cKlm0 cKlm1 cKlm2 cKlm3 cKlm4 cKlm5 lKmn cKmn0 cKmn1 cKmn2 cKmn3 cKmn4 cKmn5 Kmn
      have lKl := Kl.lt
      have cKl0 := Kl.cell 0
      have cKl1 := Kl.cell 1
      have cKl2 := Kl.cell 2
      have cKl3 := Kl.cell 3
      have cKl4 := Kl.cell 4
      have cKl5 := Kl.cell 5
      have lKm := Km.lt
      have cKm0 := Km.cell 0
      have cKm1 := Km.cell 1
      have cKm2 := Km.cell 2
      have cKm3 := Km.cell 3
      have cKm4 := Km.cell 4
      have cKm5 := Km.cell 5
      have lKlm := Klm.lt
      have cKlm0 := Klm.cell 0
      have cKlm1 := Klm.cell 1
      have cKlm2 := Klm.cell 2
      have cKlm3 := Klm.cell 3
      have cKlm4 := Klm.cell 4
      have cKlm5 := Klm.cell 5
      have lKp := Kp.lt
      have cKp0 := Kp.cell 0
      have cKp1 := Kp.cell 1
      have cKp2 := Kp.cell 2
      have cKp3 := Kp.cell 3
      have cKp4 := Kp.cell 4
      have cKp5 := Kp.cell 5
      simp only [List.getElem?_toArray, List.getElem?_cons_succ, List.getElem?_cons_zero] at cKl0 cKl1 cKl2 cKl3 cKl4 cKl5 cKm0 cKm1 cKm2 cKm3 cKm4 cKm5 cKlm0 cKlm1 cKlm2 cKlm3 cKlm4 cKlm5 cKp0 cKp1 cKp2 cKp3 cKp4 cKp5
      go_wp2_with fail
      replace Kl := Kl.alloc (.cells #[.int .i64 (e0 * 65536), .int .i64 (e1 * 65536), .int .i64 (e2 * 65536), .int .i64 (e3 * 65536), .int .i64 (e4 * 65536), .int .i64 (e5 * 65536)] 23)
      replace Km := Km.alloc (.cells #[.int .i64 (e0 * 65536), .int .i64 (e1 * 65536), .int .i64 (e2 * 65536), .int .i64 (e3 * 65536), .int .i64 (e4 * 65536), .int .i64 (e5 * 65536)] 23)
      replace Klm := Klm.alloc (.cells #[.int .i64 (e0 * 65536), .int .i64 (e1 * 65536), .int .i64 (e2 * 65536), .int .i64 (e3 * 65536), .int .i64 (e4 * 65536), .int .i64 (e5 * 65536)] 23)
      replace Kp := Kp.alloc (.cells #[.int .i64 (e0 * 65536), .int .i64 (e1 * 65536), .int .i64 (e2 * 65536), .int .i64 (e3 * 65536), .int .i64 (e4 * 65536), .int .i64 (e5 * 65536)] 23)
      have Kq := Blk.new w26 23 #[.int .i64 (e0 * 65536), .int .i64 (e1 * 65536), .int .i64 (e2 * 65536), .int .i64 (e3 * 65536), .int .i64 (e4 * 65536), .int .i64 (e5 * 65536)]
      replace hbw : Below w.heap.size w (w26.alloc (.cells #[.int .i64 (e0 * 65536), .int .i64 (e1 * 65536), .int .i64 (e2 * 65536), .int .i64 (e3 * 65536), .int .i64 (e4 * 65536), .int .i64 (e5 * 65536)] 23)) := by (repeat' (first | refine bset ?_ (by first | omega | (simp <;> omega)) _ | refine balloc ?_ _ | refine Below.drew ?_ | refine below_drewN ?_ _ | exact hbw | exact Below.refl _ _))
      obtain ⟨Pq, hPq⟩ : ∃ P, w26.heap.size = P := ⟨_, rfl⟩
      rw [hPq] at Kq ⊢
      generalize hwx : (w26.alloc (.cells #[.int .i64 (e0 * 65536), .int .i64 (e1 * 65536), .int .i64 (e2 * 65536), .int .i64 (e3 * 65536), .int .i64 (e4 * 65536), .int .i64 (e5 * 65536)] 23)) = wz at *
      clear hwx hPq lKl cKl0 cKl1 cKl2 cKl3 cKl4 cKl5 lKm cKm0 cKm1 cKm2 cKm3 cKm4 cKm5 lKlm cKlm0 cKlm1 cKlm2 cKlm3 cKlm4 cKlm5 lKp cKp0 cKp1 cKp2 cKp3 cKp4 cKp5
      have lKl := Kl.lt
      have cKl0 := Kl.cell 0
      have cKl1 := Kl.cell 1
      have cKl2 := Kl.cell 2
      have cKl3 := Kl.cell 3
      have cKl4 := Kl.cell 4
      have cKl5 := Kl.cell 5
      have lKm := Km.lt
      have cKm0 := Km.cell 0
      have cKm1 := Km.cell 1
      have cKm2 := Km.cell 2
      have cKm3 := Km.cell 3
      have cKm4 := Km.cell 4
      have cKm5 := Km.cell 5
      have lKlm := Klm.lt
      have cKlm0 := Klm.cell 0
      have cKlm1 := Klm.cell 1
      have cKlm2 := Klm.cell 2
      have cKlm3 := Klm.cell 3
      have cKlm4 := Klm.cell 4
      have cKlm5 := Klm.cell 5
      have lKp := Kp.lt
      have cKp0 := Kp.cell 0
      have cKp1 := Kp.cell 1
      have cKp2 := Kp.cell 2
      have cKp3 := Kp.cell 3
      have cKp4 := Kp.cell 4
      have cKp5 := Kp.cell 5
      have lKq := Kq.lt
      have cKq0 := Kq.cell 0
      have cKq1 := Kq.cell 1
      have cKq2 := Kq.cell 2
      have cKq3 := Kq.cell 3
      have cKq4 := Kq.cell 4
      have cKq5 := Kq.cell 5
      simp only [List.getElem?_toArray, List.getElem?_cons_succ, List.getElem?_cons_zero] at cKl0 cKl1 cKl2 cKl3 cKl4 cKl5 cKm0 cKm1 cKm2 cKm3 cKm4 cKm5 cKlm0 cKlm1 cKlm2 cKlm3 cKlm4 cKlm5 cKp0 cKp1 cKp2 cKp3 cKp4 cKp5 cKq0 cKq1 cKq2 cKq3 cKq4 cKq5
      have HUx := Lib.hid (fun u : Up wz => up_same (u := u) (HSx.out u.val))
      have HUy := Lib.hid (fun u : Up wz => up_same (u := u) (HSy.out u.val))
      have HUm := Lib.hid (fun u : Up wz => up_of (u := u) (HM1.out u.val))
      have uKl0 : ∀ u : Up wz, u.val.cell? ⟨Pl, 0, none⟩ = some (.int .i64 ((i0 - 6) * 65536)) := fun u => (u.cell lKl).trans cKl0
      have uKl1 : ∀ u : Up wz, u.val.cell? ⟨Pl, 1, none⟩ = some (.int .i64 ((i1 - 6) * 65536)) := fun u => (u.cell lKl).trans cKl1
      have uKl2 : ∀ u : Up wz, u.val.cell? ⟨Pl, 2, none⟩ = some (.int .i64 ((i2 - 6) * 65536)) := fun u => (u.cell lKl).trans cKl2
      have uKl3 : ∀ u : Up wz, u.val.cell? ⟨Pl, 3, none⟩ = some (.int .i64 ((i3 - 6) * 65536)) := fun u => (u.cell lKl).trans cKl3
      have uKl4 : ∀ u : Up wz, u.val.cell? ⟨Pl, 4, none⟩ = some (.int .i64 ((i4 - 6) * 65536)) := fun u => (u.cell lKl).trans cKl4
      have uKl5 : ∀ u : Up wz, u.val.cell? ⟨Pl, 5, none⟩ = some (.int .i64 ((i5 - 6) * 65536)) := fun u => (u.cell lKl).trans cKl5
      refine wp_region_up (by kernel_rfl) (by kernel_rfl) ?_
      repeat (go_big_quiet_step (fail))
      go_big_quiet_step (exact HUx.out _)
      repeat (go_big_quiet_step (fail))
      go_big_quiet_step (exact HUy.out _)
      repeat (go_big_quiet_step (fail))
      go_big_quiet_step (exact HUm.out _)
      repeat (go_big_quiet_step (fail))
      refine wpQuiet_nil ?_
      rintro _ ⟨uq, rfl⟩
      replace hbw := btrans hbw uq.ok
      replace Km := Km.below uq.ok lKm
      replace Klm := Klm.below uq.ok lKlm
      replace Kp := Kp.below uq.ok lKp
      replace Kq := Kq.below uq.ok lKq
      generalize hwx : uq.val = wy at *
      clear hwx uq Kl lKl cKl0 cKl1 cKl2 cKl3 cKl4 cKl5 lKm cKm0 cKm1 cKm2 cKm3 cKm4 cKm5 lKlm cKlm0 cKlm1 cKlm2 cKlm3 cKlm4 cKlm5 lKp cKp0 cKp1 cKp2 cKp3 cKp4 cKp5 lKq cKq0 cKq1 cKq2 cKq3 cKq4 cKq5 uKl0 uKl1 uKl2 uKl3 uKl4 uKl5 HUx HUy HUm
      have lKm := Km.lt
      have cKm0 := Km.cell 0
      have cKm1 := Km.cell 1
      have cKm2 := Km.cell 2
      have cKm3 := Km.cell 3
      have cKm4 := Km.cell 4
      have cKm5 := Km.cell 5
      have lKlm := Klm.lt
      have cKlm0 := Klm.cell 0
      have cKlm1 := Klm.cell 1
      have cKlm2 := Klm.cell 2
      have cKlm3 := Klm.cell 3
      have cKlm4 := Klm.cell 4
      have cKlm5 := Klm.cell 5
      have lKp := Kp.lt
      have cKp0 := Kp.cell 0
      have cKp1 := Kp.cell 1
      have cKp2 := Kp.cell 2
      have cKp3 := Kp.cell 3
      have cKp4 := Kp.cell 4
      have cKp5 := Kp.cell 5
      have lKq := Kq.lt
      have cKq0 := Kq.cell 0
      have cKq1 := Kq.cell 1
      have cKq2 := Kq.cell 2
      have cKq3 := Kq.cell 3
      have cKq4 := Kq.cell 4
      have cKq5 := Kq.cell 5
      simp only [List.getElem?_toArray, List.getElem?_cons_succ, List.getElem?_cons_zero] at cKm0 cKm1 cKm2 cKm3 cKm4 cKm5 cKlm0 cKlm1 cKlm2 cKlm3 cKlm4 cKlm5 cKp0 cKp1 cKp2 cKp3 cKp4 cKp5 cKq0 cKq1 cKq2 cKq3 cKq4 cKq5
      go_wp2_with fail
      refine (HM2.out _).mono ?_
      rintro e_ w27 ⟨rfl, hb27⟩
      replace Km := Km.below hb27 (by first | exact lKm | (have := lKm; simp; omega))
      replace Klm := Klm.below hb27 (by first | exact lKlm | (have := lKlm; simp; omega))
      replace Kp := Kp.below hb27 (by first | exact lKp | (have := lKp; simp; omega))
      replace Kq := Kq.below hb27 (by first | exact lKq | (have := lKq; simp; omega))
      replace hbw : Below w.heap.size w w27 := btrans (by (repeat' (first | refine bset ?_ (by first | omega | (simp <;> omega)) _ | refine balloc ?_ _ | refine Below.drew ?_ | refine below_drewN ?_ _ | exact hbw | exact Below.refl _ _))) hb27
      clear hb27 lKm cKm0 cKm1 cKm2 cKm3 cKm4 cKm5 lKlm cKlm0 cKlm1 cKlm2 cKlm3 cKlm4 cKlm5 lKp cKp0 cKp1 cKp2 cKp3 cKp4 cKp5 lKq cKq0 cKq1 cKq2 cKq3 cKq4 cKq5 Km
      have lKlm := Klm.lt
      have cKlm0 := Klm.cell 0
      have cKlm1 := Klm.cell 1
      have cKlm2 := Klm.cell 2
      have cKlm3 := Klm.cell 3
      have cKlm4 := Klm.cell 4
      have cKlm5 := Klm.cell 5
      have lKp := Kp.lt
      have cKp0 := Kp.cell 0
      have cKp1 := Kp.cell 1
      have cKp2 := Kp.cell 2
      have cKp3 := Kp.cell 3
      have cKp4 := Kp.cell 4
      have cKp5 := Kp.cell 5
      have lKq := Kq.lt
      have cKq0 := Kq.cell 0
      have cKq1 := Kq.cell 1
      have cKq2 := Kq.cell 2
      have cKq3 := Kq.cell 3
      have cKq4 := Kq.cell 4
      have cKq5 := Kq.cell 5
      simp only [List.getElem?_toArray, List.getElem?_cons_succ, List.getElem?_cons_zero] at cKlm0 cKlm1 cKlm2 cKlm3 cKlm4 cKlm5 cKp0 cKp1 cKp2 cKp3 cKp4 cKp5 cKq0 cKq1 cKq2 cKq3 cKq4 cKq5
      go_wp2_with fail
      have HUx := Lib.hid (fun u : Up w27 => up_same (u := u) (HSx.out u.val))
      have HUy := Lib.hid (fun u : Up w27 => up_same (u := u) (HSy.out u.val))
      have HUm := Lib.hid (fun u : Up w27 => up_of (u := u) (HM3.out u.val))
      have uKlm0 : ∀ u : Up w27, u.val.cell? ⟨w23.heap.size, 0, none⟩ = some (.int .i64 (l0 * 65536)) := fun u => (u.cell lKlm).trans cKlm0
      have uKlm1 : ∀ u : Up w27, u.val.cell? ⟨w23.heap.size, 1, none⟩ = some (.int .i64 (l1 * 65536)) := fun u => (u.cell lKlm).trans cKlm1
      have uKlm2 : ∀ u : Up w27, u.val.cell? ⟨w23.heap.size, 2, none⟩ = some (.int .i64 (l2 * 65536)) := fun u => (u.cell lKlm).trans cKlm2
      have uKlm3 : ∀ u : Up w27, u.val.cell? ⟨w23.heap.size, 3, none⟩ = some (.int .i64 (l3 * 65536)) := fun u => (u.cell lKlm).trans cKlm3
      have uKlm4 : ∀ u : Up w27, u.val.cell? ⟨w23.heap.size, 4, none⟩ = some (.int .i64 (l4 * 65536)) := fun u => (u.cell lKlm).trans cKlm4
      have uKlm5 : ∀ u : Up w27, u.val.cell? ⟨w23.heap.size, 5, none⟩ = some (.int .i64 (l5 * 65536)) := fun u => (u.cell lKlm).trans cKlm5
      refine wp_region_up (by kernel_rfl) (by kernel_rfl) ?_
      repeat (go_big_quiet_step (fail))
      go_big_quiet_step (exact HUx.out _)
      repeat (go_big_quiet_step (fail))
      go_big_quiet_step (exact HUy.out _)
      repeat (go_big_quiet_step (fail))
      go_big_quiet_step (exact HUm.out _)
      repeat (go_big_quiet_step (fail))
      refine wpQuiet_nil ?_
      rintro _ ⟨uq, rfl⟩
      replace hbw := btrans hbw uq.ok
      replace Kp := Kp.below uq.ok lKp
      replace Kq := Kq.below uq.ok lKq
      generalize hwx : uq.val = wv at *
      clear hwx uq Klm lKlm cKlm0 cKlm1 cKlm2 cKlm3 cKlm4 cKlm5 lKp cKp0 cKp1 cKp2 cKp3 cKp4 cKp5 lKq cKq0 cKq1 cKq2 cKq3 cKq4 cKq5 uKlm0 uKlm1 uKlm2 uKlm3 uKlm4 uKlm5 HUx HUy HUm
      have lKp := Kp.lt
      have cKp0 := Kp.cell 0
      have cKp1 := Kp.cell 1
      have cKp2 := Kp.cell 2
      have cKp3 := Kp.cell 3
      have cKp4 := Kp.cell 4
      have cKp5 := Kp.cell 5
      have lKq := Kq.lt
      have cKq0 := Kq.cell 0
      have cKq1 := Kq.cell 1
      have cKq2 := Kq.cell 2
      have cKq3 := Kq.cell 3
      have cKq4 := Kq.cell 4
      have cKq5 := Kq.cell 5
      simp only [List.getElem?_toArray, List.getElem?_cons_succ, List.getElem?_cons_zero] at cKp0 cKp1 cKp2 cKp3 cKp4 cKp5 cKq0 cKq1 cKq2 cKq3 cKq4 cKq5
      go_wp2_with fail
      go_ret
      exact ⟨rfl, by (repeat' (first | refine bset ?_ (by first | omega | (simp <;> omega)) _ | refine balloc ?_ _ | refine Below.drew ?_ | refine below_drewN ?_ _ | exact hbw | exact Below.refl _ _))⟩

theorem assoc2 (a b c d e f p q : Int) : (a * c + b * e) * p + (a * d + b * f) * q = a * (c * p + d * q) + b * (e * p + f * q) := by
  simp only [Int.mul_add, Int.add_mul, Int.mul_assoc]
  omega
theorem prod_bd {a b m n : Int} (ha : -m ≤ a ∧ a ≤ m) (hb : -n ≤ b ∧ b ≤ n) : -(m * n) ≤ a * b ∧ a * b ≤ m * n := by
  have h1 := Int.mul_nonneg (show 0 ≤ m - a by omega) (show 0 ≤ n - b by omega)
  have h2 := Int.mul_nonneg (show 0 ≤ m + a by omega) (show 0 ≤ n + b by omega)
  have h3 := Int.mul_nonneg (show 0 ≤ m - a by omega) (show 0 ≤ n + b by omega)
  have h4 := Int.mul_nonneg (show 0 ≤ m + a by omega) (show 0 ≤ n - b by omega)
  simp only [Int.sub_mul, Int.mul_sub, Int.add_mul, Int.mul_add] at h1 h2 h3 h4
  have c1 := Int.mul_comm m b
  have c2 := Int.mul_comm n a
  have c3 := Int.mul_comm m n
  omega

theorem map2 (s0 s1 s2 s3 s4 s5 p q c x y : Int) : (s0 * p + s1 * q) * x + (s2 * p + s3 * q) * y + (s4 * p + s5 * q + c) = p * (s0 * x + s2 * y + s4) + q * (s1 * x + s3 * y + s5) + c := by
  simp only [Int.mul_add, Int.add_mul]
  have e1 : s0 * p * x = p * (s0 * x) := by rw [Int.mul_comm s0 p, Int.mul_assoc]
  have e2 : s1 * q * x = q * (s1 * x) := by rw [Int.mul_comm s1 q, Int.mul_assoc]
  have e3 : s2 * p * y = p * (s2 * y) := by rw [Int.mul_comm s2 p, Int.mul_assoc]
  have e4 : s3 * q * y = q * (s3 * y) := by rw [Int.mul_comm s3 q, Int.mul_assoc]
  have e5 := Int.mul_comm s4 p
  have e6 := Int.mul_comm s5 q
  omega

set_option maxRecDepth 100000 in
set_option maxHeartbeats 3200000 in
theorem through_law (a0 a1 a2 a3 a4 a5 b0 b1 b2 b3 b4 b5 c0 c1 c2 c3 c4 c5 x0 y0 : Int) (w : World) (_h0 : -9223372036854775808 ≤ a0 ∧ a0 ≤ 9223372036854775807) (_h1 : -9223372036854775808 ≤ a1 ∧ a1 ≤ 9223372036854775807) (_h2 : -9223372036854775808 ≤ a2 ∧ a2 ≤ 9223372036854775807) (_h3 : -9223372036854775808 ≤ a3 ∧ a3 ≤ 9223372036854775807) (_h4 : -9223372036854775808 ≤ a4 ∧ a4 ≤ 9223372036854775807) (_h5 : -9223372036854775808 ≤ a5 ∧ a5 ≤ 9223372036854775807) (_h6 : -9223372036854775808 ≤ b0 ∧ b0 ≤ 9223372036854775807) (_h7 : -9223372036854775808 ≤ b1 ∧ b1 ≤ 9223372036854775807) (_h8 : -9223372036854775808 ≤ b2 ∧ b2 ≤ 9223372036854775807) (_h9 : -9223372036854775808 ≤ b3 ∧ b3 ≤ 9223372036854775807) (_h10 : -9223372036854775808 ≤ b4 ∧ b4 ≤ 9223372036854775807) (_h11 : -9223372036854775808 ≤ b5 ∧ b5 ≤ 9223372036854775807) (_h12 : -9223372036854775808 ≤ c0 ∧ c0 ≤ 9223372036854775807) (_h13 : -9223372036854775808 ≤ c1 ∧ c1 ≤ 9223372036854775807) (_h14 : -9223372036854775808 ≤ c2 ∧ c2 ≤ 9223372036854775807) (_h15 : -9223372036854775808 ≤ c3 ∧ c3 ≤ 9223372036854775807) (_h16 : -9223372036854775808 ≤ c4 ∧ c4 ≤ 9223372036854775807) (_h17 : -9223372036854775808 ≤ c5 ∧ c5 ≤ 9223372036854775807) (_h18 : -9223372036854775808 ≤ x0 ∧ x0 ≤ 9223372036854775807) (_h19 : -9223372036854775808 ≤ y0 ∧ y0 ≤ 9223372036854775807) : Calls Try.prog 7 #[.agg #[.int .i64 a0, .int .i64 a1, .int .i64 a2, .int .i64 a3, .int .i64 a4, .int .i64 a5], .agg #[.int .i64 b0, .int .i64 b1, .int .i64 b2, .int .i64 b3, .int .i64 b4, .int .i64 b5], .agg #[.int .i64 c0, .int .i64 c1, .int .i64 c2, .int .i64 c3, .int .i64 c4, .int .i64 c5], .int .i64 x0, .int .i64 y0] w fun ed w' => ed = .returned (.bool true) ∧ Below w.heap.size w w' := by
  clear _h0 _h1 _h2 _h3 _h4 _h5 _h6 _h7 _h8 _h9 _h10 _h11 _h12 _h13 _h14 _h15 _h16 _h17 _h18 _h19
  have HPi0 : ∀ W, Calls Try.prog 31 #[.int .i64 a0, .int .i64 13] W fun ed w' => ed = .returned (.int .i64 (a0 % 13)) ∧ W = w' := fun W => place_any a0 13 W (by decide) (by decide)
  obtain ⟨qi00, qi01⟩ : 0 ≤ a0 % 13 ∧ a0 % 13 ≤ 12 := by omega
  generalize a0 % 13 = i0 at *
  have HPi1 : ∀ W, Calls Try.prog 31 #[.int .i64 a1, .int .i64 13] W fun ed w' => ed = .returned (.int .i64 (a1 % 13)) ∧ W = w' := fun W => place_any a1 13 W (by decide) (by decide)
  obtain ⟨qi10, qi11⟩ : 0 ≤ a1 % 13 ∧ a1 % 13 ≤ 12 := by omega
  generalize a1 % 13 = i1 at *
  have HPi2 : ∀ W, Calls Try.prog 31 #[.int .i64 a2, .int .i64 13] W fun ed w' => ed = .returned (.int .i64 (a2 % 13)) ∧ W = w' := fun W => place_any a2 13 W (by decide) (by decide)
  obtain ⟨qi20, qi21⟩ : 0 ≤ a2 % 13 ∧ a2 % 13 ≤ 12 := by omega
  generalize a2 % 13 = i2 at *
  have HPi3 : ∀ W, Calls Try.prog 31 #[.int .i64 a3, .int .i64 13] W fun ed w' => ed = .returned (.int .i64 (a3 % 13)) ∧ W = w' := fun W => place_any a3 13 W (by decide) (by decide)
  obtain ⟨qi30, qi31⟩ : 0 ≤ a3 % 13 ∧ a3 % 13 ≤ 12 := by omega
  generalize a3 % 13 = i3 at *
  have HPi4 : ∀ W, Calls Try.prog 31 #[.int .i64 a4, .int .i64 13] W fun ed w' => ed = .returned (.int .i64 (a4 % 13)) ∧ W = w' := fun W => place_any a4 13 W (by decide) (by decide)
  obtain ⟨qi40, qi41⟩ : 0 ≤ a4 % 13 ∧ a4 % 13 ≤ 12 := by omega
  generalize a4 % 13 = i4 at *
  have HPi5 : ∀ W, Calls Try.prog 31 #[.int .i64 a5, .int .i64 13] W fun ed w' => ed = .returned (.int .i64 (a5 % 13)) ∧ W = w' := fun W => place_any a5 13 W (by decide) (by decide)
  obtain ⟨qi50, qi51⟩ : 0 ≤ a5 % 13 ∧ a5 % 13 ≤ 12 := by omega
  generalize a5 % 13 = i5 at *
  have HPj0 : ∀ W, Calls Try.prog 31 #[.int .i64 b0, .int .i64 13] W fun ed w' => ed = .returned (.int .i64 (b0 % 13)) ∧ W = w' := fun W => place_any b0 13 W (by decide) (by decide)
  obtain ⟨qj00, qj01⟩ : 0 ≤ b0 % 13 ∧ b0 % 13 ≤ 12 := by omega
  generalize b0 % 13 = j0 at *
  have HPj1 : ∀ W, Calls Try.prog 31 #[.int .i64 b1, .int .i64 13] W fun ed w' => ed = .returned (.int .i64 (b1 % 13)) ∧ W = w' := fun W => place_any b1 13 W (by decide) (by decide)
  obtain ⟨qj10, qj11⟩ : 0 ≤ b1 % 13 ∧ b1 % 13 ≤ 12 := by omega
  generalize b1 % 13 = j1 at *
  have HPj2 : ∀ W, Calls Try.prog 31 #[.int .i64 b2, .int .i64 13] W fun ed w' => ed = .returned (.int .i64 (b2 % 13)) ∧ W = w' := fun W => place_any b2 13 W (by decide) (by decide)
  obtain ⟨qj20, qj21⟩ : 0 ≤ b2 % 13 ∧ b2 % 13 ≤ 12 := by omega
  generalize b2 % 13 = j2 at *
  have HPj3 : ∀ W, Calls Try.prog 31 #[.int .i64 b3, .int .i64 13] W fun ed w' => ed = .returned (.int .i64 (b3 % 13)) ∧ W = w' := fun W => place_any b3 13 W (by decide) (by decide)
  obtain ⟨qj30, qj31⟩ : 0 ≤ b3 % 13 ∧ b3 % 13 ≤ 12 := by omega
  generalize b3 % 13 = j3 at *
  have HPj4 : ∀ W, Calls Try.prog 31 #[.int .i64 b4, .int .i64 13] W fun ed w' => ed = .returned (.int .i64 (b4 % 13)) ∧ W = w' := fun W => place_any b4 13 W (by decide) (by decide)
  obtain ⟨qj40, qj41⟩ : 0 ≤ b4 % 13 ∧ b4 % 13 ≤ 12 := by omega
  generalize b4 % 13 = j4 at *
  have HPj5 : ∀ W, Calls Try.prog 31 #[.int .i64 b5, .int .i64 13] W fun ed w' => ed = .returned (.int .i64 (b5 % 13)) ∧ W = w' := fun W => place_any b5 13 W (by decide) (by decide)
  obtain ⟨qj50, qj51⟩ : 0 ≤ b5 % 13 ∧ b5 % 13 ≤ 12 := by omega
  generalize b5 % 13 = j5 at *
  have HPk0 : ∀ W, Calls Try.prog 31 #[.int .i64 c0, .int .i64 13] W fun ed w' => ed = .returned (.int .i64 (c0 % 13)) ∧ W = w' := fun W => place_any c0 13 W (by decide) (by decide)
  obtain ⟨qk00, qk01⟩ : 0 ≤ c0 % 13 ∧ c0 % 13 ≤ 12 := by omega
  generalize c0 % 13 = k0 at *
  have HPk1 : ∀ W, Calls Try.prog 31 #[.int .i64 c1, .int .i64 13] W fun ed w' => ed = .returned (.int .i64 (c1 % 13)) ∧ W = w' := fun W => place_any c1 13 W (by decide) (by decide)
  obtain ⟨qk10, qk11⟩ : 0 ≤ c1 % 13 ∧ c1 % 13 ≤ 12 := by omega
  generalize c1 % 13 = k1 at *
  have HPk2 : ∀ W, Calls Try.prog 31 #[.int .i64 c2, .int .i64 13] W fun ed w' => ed = .returned (.int .i64 (c2 % 13)) ∧ W = w' := fun W => place_any c2 13 W (by decide) (by decide)
  obtain ⟨qk20, qk21⟩ : 0 ≤ c2 % 13 ∧ c2 % 13 ≤ 12 := by omega
  generalize c2 % 13 = k2 at *
  have HPk3 : ∀ W, Calls Try.prog 31 #[.int .i64 c3, .int .i64 13] W fun ed w' => ed = .returned (.int .i64 (c3 % 13)) ∧ W = w' := fun W => place_any c3 13 W (by decide) (by decide)
  obtain ⟨qk30, qk31⟩ : 0 ≤ c3 % 13 ∧ c3 % 13 ≤ 12 := by omega
  generalize c3 % 13 = k3 at *
  have HPk4 : ∀ W, Calls Try.prog 31 #[.int .i64 c4, .int .i64 13] W fun ed w' => ed = .returned (.int .i64 (c4 % 13)) ∧ W = w' := fun W => place_any c4 13 W (by decide) (by decide)
  obtain ⟨qk40, qk41⟩ : 0 ≤ c4 % 13 ∧ c4 % 13 ≤ 12 := by omega
  generalize c4 % 13 = k4 at *
  have HPk5 : ∀ W, Calls Try.prog 31 #[.int .i64 c5, .int .i64 13] W fun ed w' => ed = .returned (.int .i64 (c5 % 13)) ∧ W = w' := fun W => place_any c5 13 W (by decide) (by decide)
  obtain ⟨qk50, qk51⟩ : 0 ≤ c5 % 13 ∧ c5 % 13 ≤ 12 := by omega
  generalize c5 % 13 = k5 at *
  have HSx : ∀ W, Calls Try.prog 33 #[.int .i64 x0] W fun ed w' => ed = .returned (.int .i64 (x0 % 81 - 40)) ∧ W = w' := fun W => small_any x0 W
  obtain ⟨qx0, qx1⟩ : -40 ≤ x0 % 81 - 40 ∧ x0 % 81 - 40 ≤ 40 := by omega
  generalize x0 % 81 - 40 = x at *
  have HSy : ∀ W, Calls Try.prog 33 #[.int .i64 y0] W fun ed w' => ed = .returned (.int .i64 (y0 % 81 - 40)) ∧ W = w' := fun W => small_any y0 W
  obtain ⟨qy0, qy1⟩ : -40 ≤ y0 % 81 - 40 ∧ y0 % 81 - 40 ≤ 40 := by omega
  generalize y0 % 81 - 40 = y at *
  have b_s0 : -6 ≤ (i0 - 6) ∧ (i0 - 6) ≤ 6 := by omega
  have b_s1 : -6 ≤ (i1 - 6) ∧ (i1 - 6) ≤ 6 := by omega
  have b_s2 : -6 ≤ (i2 - 6) ∧ (i2 - 6) ≤ 6 := by omega
  have b_s3 : -6 ≤ (i3 - 6) ∧ (i3 - 6) ≤ 6 := by omega
  have b_s4 : -6 ≤ (i4 - 6) ∧ (i4 - 6) ≤ 6 := by omega
  have b_s5 : -6 ≤ (i5 - 6) ∧ (i5 - 6) ≤ 6 := by omega
  have b_t0 : -6 ≤ (j0 - 6) ∧ (j0 - 6) ≤ 6 := by omega
  have b_t1 : -6 ≤ (j1 - 6) ∧ (j1 - 6) ≤ 6 := by omega
  have b_t2 : -6 ≤ (j2 - 6) ∧ (j2 - 6) ≤ 6 := by omega
  have b_t3 : -6 ≤ (j3 - 6) ∧ (j3 - 6) ≤ 6 := by omega
  have b_t4 : -6 ≤ (j4 - 6) ∧ (j4 - 6) ≤ 6 := by omega
  have b_t5 : -6 ≤ (j5 - 6) ∧ (j5 - 6) ≤ 6 := by omega
  have b_r0 : -6 ≤ (k0 - 6) ∧ (k0 - 6) ≤ 6 := by omega
  have b_r1 : -6 ≤ (k1 - 6) ∧ (k1 - 6) ≤ 6 := by omega
  have b_r2 : -6 ≤ (k2 - 6) ∧ (k2 - 6) ≤ 6 := by omega
  have b_r3 : -6 ≤ (k3 - 6) ∧ (k3 - 6) ≤ 6 := by omega
  have b_r4 : -6 ≤ (k4 - 6) ∧ (k4 - 6) ≤ 6 := by omega
  have b_r5 : -6 ≤ (k5 - 6) ∧ (k5 - 6) ≤ 6 := by omega
  have b_x : -40 ≤ x ∧ x ≤ 40 := ⟨qx0, qx1⟩
  have b_y : -40 ≤ y ∧ y ≤ 40 := ⟨qy0, qy1⟩
  have p_s0t0 := prod_bd b_s0 b_t0
  have p_s0t1 := prod_bd b_s0 b_t1
  have p_s1t2 := prod_bd b_s1 b_t2
  have p_s1t3 := prod_bd b_s1 b_t3
  have p_s2t0 := prod_bd b_s2 b_t0
  have p_s2t1 := prod_bd b_s2 b_t1
  have p_s3t2 := prod_bd b_s3 b_t2
  have p_s3t3 := prod_bd b_s3 b_t3
  have p_s4t0 := prod_bd b_s4 b_t0
  have p_s4t1 := prod_bd b_s4 b_t1
  have p_s5t2 := prod_bd b_s5 b_t2
  have p_s5t3 := prod_bd b_s5 b_t3
  have b_l0 : -72 ≤ (i0 - 6) * (j0 - 6) + (i1 - 6) * (j2 - 6) ∧ (i0 - 6) * (j0 - 6) + (i1 - 6) * (j2 - 6) ≤ 72 := by omega
  have b_l1 : -72 ≤ (i0 - 6) * (j1 - 6) + (i1 - 6) * (j3 - 6) ∧ (i0 - 6) * (j1 - 6) + (i1 - 6) * (j3 - 6) ≤ 72 := by omega
  have b_l2 : -72 ≤ (i2 - 6) * (j0 - 6) + (i3 - 6) * (j2 - 6) ∧ (i2 - 6) * (j0 - 6) + (i3 - 6) * (j2 - 6) ≤ 72 := by omega
  have b_l3 : -72 ≤ (i2 - 6) * (j1 - 6) + (i3 - 6) * (j3 - 6) ∧ (i2 - 6) * (j1 - 6) + (i3 - 6) * (j3 - 6) ≤ 72 := by omega
  have b_l4 : -78 ≤ (i4 - 6) * (j0 - 6) + (i5 - 6) * (j2 - 6) + (j4 - 6) ∧ (i4 - 6) * (j0 - 6) + (i5 - 6) * (j2 - 6) + (j4 - 6) ≤ 78 := by omega
  have b_l5 : -78 ≤ (i4 - 6) * (j1 - 6) + (i5 - 6) * (j3 - 6) + (j5 - 6) ∧ (i4 - 6) * (j1 - 6) + (i5 - 6) * (j3 - 6) + (j5 - 6) ≤ 78 := by omega
  clear p_s0t0 p_s0t1 p_s1t2 p_s1t3 p_s2t0 p_s2t1 p_s3t2 p_s3t3 p_s4t0 p_s4t1 p_s5t2 p_s5t3
  obtain ⟨l0, h_l0⟩ : ∃ z, (i0 - 6) * (j0 - 6) + (i1 - 6) * (j2 - 6) = z := ⟨_, rfl⟩
  rw [h_l0] at b_l0
  obtain ⟨l1, h_l1⟩ : ∃ z, (i0 - 6) * (j1 - 6) + (i1 - 6) * (j3 - 6) = z := ⟨_, rfl⟩
  rw [h_l1] at b_l1
  obtain ⟨l2, h_l2⟩ : ∃ z, (i2 - 6) * (j0 - 6) + (i3 - 6) * (j2 - 6) = z := ⟨_, rfl⟩
  rw [h_l2] at b_l2
  obtain ⟨l3, h_l3⟩ : ∃ z, (i2 - 6) * (j1 - 6) + (i3 - 6) * (j3 - 6) = z := ⟨_, rfl⟩
  rw [h_l3] at b_l3
  obtain ⟨l4, h_l4⟩ : ∃ z, (i4 - 6) * (j0 - 6) + (i5 - 6) * (j2 - 6) + (j4 - 6) = z := ⟨_, rfl⟩
  rw [h_l4] at b_l4
  obtain ⟨l5, h_l5⟩ : ∃ z, (i4 - 6) * (j1 - 6) + (i5 - 6) * (j3 - 6) + (j5 - 6) = z := ⟨_, rfl⟩
  rw [h_l5] at b_l5
  have p_t0r0 := prod_bd b_t0 b_r0
  have p_t0r1 := prod_bd b_t0 b_r1
  have p_t1r2 := prod_bd b_t1 b_r2
  have p_t1r3 := prod_bd b_t1 b_r3
  have p_t2r0 := prod_bd b_t2 b_r0
  have p_t2r1 := prod_bd b_t2 b_r1
  have p_t3r2 := prod_bd b_t3 b_r2
  have p_t3r3 := prod_bd b_t3 b_r3
  have p_t4r0 := prod_bd b_t4 b_r0
  have p_t4r1 := prod_bd b_t4 b_r1
  have p_t5r2 := prod_bd b_t5 b_r2
  have p_t5r3 := prod_bd b_t5 b_r3
  have b_m0 : -72 ≤ (j0 - 6) * (k0 - 6) + (j1 - 6) * (k2 - 6) ∧ (j0 - 6) * (k0 - 6) + (j1 - 6) * (k2 - 6) ≤ 72 := by omega
  have b_m1 : -72 ≤ (j0 - 6) * (k1 - 6) + (j1 - 6) * (k3 - 6) ∧ (j0 - 6) * (k1 - 6) + (j1 - 6) * (k3 - 6) ≤ 72 := by omega
  have b_m2 : -72 ≤ (j2 - 6) * (k0 - 6) + (j3 - 6) * (k2 - 6) ∧ (j2 - 6) * (k0 - 6) + (j3 - 6) * (k2 - 6) ≤ 72 := by omega
  have b_m3 : -72 ≤ (j2 - 6) * (k1 - 6) + (j3 - 6) * (k3 - 6) ∧ (j2 - 6) * (k1 - 6) + (j3 - 6) * (k3 - 6) ≤ 72 := by omega
  have b_m4 : -78 ≤ (j4 - 6) * (k0 - 6) + (j5 - 6) * (k2 - 6) + (k4 - 6) ∧ (j4 - 6) * (k0 - 6) + (j5 - 6) * (k2 - 6) + (k4 - 6) ≤ 78 := by omega
  have b_m5 : -78 ≤ (j4 - 6) * (k1 - 6) + (j5 - 6) * (k3 - 6) + (k5 - 6) ∧ (j4 - 6) * (k1 - 6) + (j5 - 6) * (k3 - 6) + (k5 - 6) ≤ 78 := by omega
  clear p_t0r0 p_t0r1 p_t1r2 p_t1r3 p_t2r0 p_t2r1 p_t3r2 p_t3r3 p_t4r0 p_t4r1 p_t5r2 p_t5r3
  obtain ⟨m0, h_m0⟩ : ∃ z, (j0 - 6) * (k0 - 6) + (j1 - 6) * (k2 - 6) = z := ⟨_, rfl⟩
  rw [h_m0] at b_m0
  obtain ⟨m1, h_m1⟩ : ∃ z, (j0 - 6) * (k1 - 6) + (j1 - 6) * (k3 - 6) = z := ⟨_, rfl⟩
  rw [h_m1] at b_m1
  obtain ⟨m2, h_m2⟩ : ∃ z, (j2 - 6) * (k0 - 6) + (j3 - 6) * (k2 - 6) = z := ⟨_, rfl⟩
  rw [h_m2] at b_m2
  obtain ⟨m3, h_m3⟩ : ∃ z, (j2 - 6) * (k1 - 6) + (j3 - 6) * (k3 - 6) = z := ⟨_, rfl⟩
  rw [h_m3] at b_m3
  obtain ⟨m4, h_m4⟩ : ∃ z, (j4 - 6) * (k0 - 6) + (j5 - 6) * (k2 - 6) + (k4 - 6) = z := ⟨_, rfl⟩
  rw [h_m4] at b_m4
  obtain ⟨m5, h_m5⟩ : ∃ z, (j4 - 6) * (k1 - 6) + (j5 - 6) * (k3 - 6) + (k5 - 6) = z := ⟨_, rfl⟩
  rw [h_m5] at b_m5
  have p_l0r0 := prod_bd b_l0 b_r0
  have p_l0r1 := prod_bd b_l0 b_r1
  have p_l1r2 := prod_bd b_l1 b_r2
  have p_l1r3 := prod_bd b_l1 b_r3
  have p_l2r0 := prod_bd b_l2 b_r0
  have p_l2r1 := prod_bd b_l2 b_r1
  have p_l3r2 := prod_bd b_l3 b_r2
  have p_l3r3 := prod_bd b_l3 b_r3
  have p_l4r0 := prod_bd b_l4 b_r0
  have p_l4r1 := prod_bd b_l4 b_r1
  have p_l5r2 := prod_bd b_l5 b_r2
  have p_l5r3 := prod_bd b_l5 b_r3
  have b_e0 : -864 ≤ l0 * (k0 - 6) + l1 * (k2 - 6) ∧ l0 * (k0 - 6) + l1 * (k2 - 6) ≤ 864 := by omega
  have b_e1 : -864 ≤ l0 * (k1 - 6) + l1 * (k3 - 6) ∧ l0 * (k1 - 6) + l1 * (k3 - 6) ≤ 864 := by omega
  have b_e2 : -864 ≤ l2 * (k0 - 6) + l3 * (k2 - 6) ∧ l2 * (k0 - 6) + l3 * (k2 - 6) ≤ 864 := by omega
  have b_e3 : -864 ≤ l2 * (k1 - 6) + l3 * (k3 - 6) ∧ l2 * (k1 - 6) + l3 * (k3 - 6) ≤ 864 := by omega
  have b_e4 : -942 ≤ l4 * (k0 - 6) + l5 * (k2 - 6) + (k4 - 6) ∧ l4 * (k0 - 6) + l5 * (k2 - 6) + (k4 - 6) ≤ 942 := by omega
  have b_e5 : -942 ≤ l4 * (k1 - 6) + l5 * (k3 - 6) + (k5 - 6) ∧ l4 * (k1 - 6) + l5 * (k3 - 6) + (k5 - 6) ≤ 942 := by omega
  clear p_l0r0 p_l0r1 p_l1r2 p_l1r3 p_l2r0 p_l2r1 p_l3r2 p_l3r3 p_l4r0 p_l4r1 p_l5r2 p_l5r3
  obtain ⟨e0, h_e0⟩ : ∃ z, l0 * (k0 - 6) + l1 * (k2 - 6) = z := ⟨_, rfl⟩
  rw [h_e0] at b_e0
  obtain ⟨e1, h_e1⟩ : ∃ z, l0 * (k1 - 6) + l1 * (k3 - 6) = z := ⟨_, rfl⟩
  rw [h_e1] at b_e1
  obtain ⟨e2, h_e2⟩ : ∃ z, l2 * (k0 - 6) + l3 * (k2 - 6) = z := ⟨_, rfl⟩
  rw [h_e2] at b_e2
  obtain ⟨e3, h_e3⟩ : ∃ z, l2 * (k1 - 6) + l3 * (k3 - 6) = z := ⟨_, rfl⟩
  rw [h_e3] at b_e3
  obtain ⟨e4, h_e4⟩ : ∃ z, l4 * (k0 - 6) + l5 * (k2 - 6) + (k4 - 6) = z := ⟨_, rfl⟩
  rw [h_e4] at b_e4
  obtain ⟨e5, h_e5⟩ : ∃ z, l4 * (k1 - 6) + l5 * (k3 - 6) + (k5 - 6) = z := ⟨_, rfl⟩
  rw [h_e5] at b_e5
  have p_s0x := prod_bd b_s0 b_x
  have p_s2y := prod_bd b_s2 b_y
  have p_s1x := prod_bd b_s1 b_x
  have p_s3y := prod_bd b_s3 b_y
  have b_u : -486 ≤ (i0 - 6) * x + (i2 - 6) * y + (i4 - 6) ∧ (i0 - 6) * x + (i2 - 6) * y + (i4 - 6) ≤ 486 := by omega
  have b_v : -486 ≤ (i1 - 6) * x + (i3 - 6) * y + (i5 - 6) ∧ (i1 - 6) * x + (i3 - 6) * y + (i5 - 6) ≤ 486 := by omega
  clear p_s0x p_s2y p_s1x p_s3y
  obtain ⟨u, h_u⟩ : ∃ z, (i0 - 6) * x + (i2 - 6) * y + (i4 - 6) = z := ⟨_, rfl⟩
  rw [h_u] at b_u
  obtain ⟨v, h_v⟩ : ∃ z, (i1 - 6) * x + (i3 - 6) * y + (i5 - 6) = z := ⟨_, rfl⟩
  rw [h_v] at b_v
  have p_t0u := prod_bd b_t0 b_u
  have p_t2v := prod_bd b_t2 b_v
  have p_t1u := prod_bd b_t1 b_u
  have p_t3v := prod_bd b_t3 b_v
  have b_z1 : -5838 ≤ (j0 - 6) * u + (j2 - 6) * v + (j4 - 6) ∧ (j0 - 6) * u + (j2 - 6) * v + (j4 - 6) ≤ 5838 := by omega
  have b_z2 : -5838 ≤ (j1 - 6) * u + (j3 - 6) * v + (j5 - 6) ∧ (j1 - 6) * u + (j3 - 6) * v + (j5 - 6) ≤ 5838 := by omega
  clear p_t0u p_t2v p_t1u p_t3v
  obtain ⟨z1, h_z1⟩ : ∃ z, (j0 - 6) * u + (j2 - 6) * v + (j4 - 6) = z := ⟨_, rfl⟩
  rw [h_z1] at b_z1
  obtain ⟨z2, h_z2⟩ : ∃ z, (j1 - 6) * u + (j3 - 6) * v + (j5 - 6) = z := ⟨_, rfl⟩
  rw [h_z2] at b_z2
  have w_e0 : (i0 - 6) * m0 + (i1 - 6) * m2 = e0 := by rw [← h_e0, ← h_l0, ← h_l1, ← h_m0, ← h_m2]; exact (assoc2 (i0 - 6) (i1 - 6) (j0 - 6) (j1 - 6) (j2 - 6) (j3 - 6) (k0 - 6) (k2 - 6)).symm
  have w_e1 : (i0 - 6) * m1 + (i1 - 6) * m3 = e1 := by rw [← h_e1, ← h_l0, ← h_l1, ← h_m1, ← h_m3]; exact (assoc2 (i0 - 6) (i1 - 6) (j0 - 6) (j1 - 6) (j2 - 6) (j3 - 6) (k1 - 6) (k3 - 6)).symm
  have w_e2 : (i2 - 6) * m0 + (i3 - 6) * m2 = e2 := by rw [← h_e2, ← h_l2, ← h_l3, ← h_m0, ← h_m2]; exact (assoc2 (i2 - 6) (i3 - 6) (j0 - 6) (j1 - 6) (j2 - 6) (j3 - 6) (k0 - 6) (k2 - 6)).symm
  have w_e3 : (i2 - 6) * m1 + (i3 - 6) * m3 = e3 := by rw [← h_e3, ← h_l2, ← h_l3, ← h_m1, ← h_m3]; exact (assoc2 (i2 - 6) (i3 - 6) (j0 - 6) (j1 - 6) (j2 - 6) (j3 - 6) (k1 - 6) (k3 - 6)).symm
  have w_e4 : (i4 - 6) * m0 + (i5 - 6) * m2 + m4 = e4 := by
    have := assoc2 (i4 - 6) (i5 - 6) (j0 - 6) (j1 - 6) (j2 - 6) (j3 - 6) (k0 - 6) (k2 - 6)
    rw [← h_e4, ← h_l4, ← h_l5, ← h_m0, ← h_m2, ← h_m4, Int.add_mul _ (j4 - 6) (k0 - 6), Int.add_mul _ (j5 - 6) (k2 - 6)]
    omega
  have w_e5 : (i4 - 6) * m1 + (i5 - 6) * m3 + m5 = e5 := by
    have := assoc2 (i4 - 6) (i5 - 6) (j0 - 6) (j1 - 6) (j2 - 6) (j3 - 6) (k1 - 6) (k3 - 6)
    rw [← h_e5, ← h_l4, ← h_l5, ← h_m1, ← h_m3, ← h_m5, Int.add_mul _ (j4 - 6) (k1 - 6), Int.add_mul _ (j5 - 6) (k3 - 6)]
    omega
  have w_z1 : l0 * x + l2 * y + l4 = z1 := by
    rw [← h_z1, ← h_u, ← h_v, ← h_l0, ← h_l2, ← h_l4]
    exact map2 (i0 - 6) (i1 - 6) (i2 - 6) (i3 - 6) (i4 - 6) (i5 - 6) (j0 - 6) (j2 - 6) (j4 - 6) x y
  have w_z2 : l1 * x + l3 * y + l5 = z2 := by
    rw [← h_z2, ← h_u, ← h_v, ← h_l1, ← h_l3, ← h_l5]
    exact map2 (i0 - 6) (i1 - 6) (i2 - 6) (i3 - 6) (i4 - 6) (i5 - 6) (j1 - 6) (j3 - 6) (j5 - 6) x y
  exact through_walk a0 a1 a2 a3 a4 a5 b0 b1 b2 b3 b4 b5 c0 c1 c2 c3 c4 c5 x0 y0 i0 i1 i2 i3 i4 i5 j0 j1 j2 j3 j4 j5 k0 k1 k2 k3 k4 k5 x y l0 l1 l2 l3 l4 l5 m0 m1 m2 m3 m4 m5 e0 e1 e2 e3 e4 e5 u v z1 z2 w qi00 qi01 qi10 qi11 qi20 qi21 qi30 qi31 qi40 qi41 qi50 qi51 qj00 qj01 qj10 qj11 qj20 qj21 qj30 qj31 qj40 qj41 qj50 qj51 qk00 qk01 qk10 qk11 qk20 qk21 qk30 qk31 qk40 qk41 qk50 qk51 qx0 qx1 qy0 qy1
    (Lib.hid HPi0) (Lib.hid HPi1) (Lib.hid HPi2) (Lib.hid HPi3) (Lib.hid HPi4) (Lib.hid HPi5) (Lib.hid HPj0) (Lib.hid HPj1) (Lib.hid HPj2) (Lib.hid HPj3) (Lib.hid HPj4) (Lib.hid HPj5) (Lib.hid HPk0) (Lib.hid HPk1) (Lib.hid HPk2) (Lib.hid HPk3) (Lib.hid HPk4) (Lib.hid HPk5) (Lib.hid HSx) (Lib.hid HSy)
    (Lib.hid (fun W => Whole_any (i0 - 6) (i1 - 6) (i2 - 6) (i3 - 6) (i4 - 6) (i5 - 6) W ⟨Int.le_trans (by decide) b_s0.1, Int.le_trans b_s0.2 (by decide)⟩ ⟨Int.le_trans (by decide) b_s1.1, Int.le_trans b_s1.2 (by decide)⟩ ⟨Int.le_trans (by decide) b_s2.1, Int.le_trans b_s2.2 (by decide)⟩ ⟨Int.le_trans (by decide) b_s3.1, Int.le_trans b_s3.2 (by decide)⟩ ⟨Int.le_trans (by decide) b_s4.1, Int.le_trans b_s4.2 (by decide)⟩ ⟨Int.le_trans (by decide) b_s5.1, Int.le_trans b_s5.2 (by decide)⟩))
    (Lib.hid (fun W => Whole_any (j0 - 6) (j1 - 6) (j2 - 6) (j3 - 6) (j4 - 6) (j5 - 6) W ⟨Int.le_trans (by decide) b_t0.1, Int.le_trans b_t0.2 (by decide)⟩ ⟨Int.le_trans (by decide) b_t1.1, Int.le_trans b_t1.2 (by decide)⟩ ⟨Int.le_trans (by decide) b_t2.1, Int.le_trans b_t2.2 (by decide)⟩ ⟨Int.le_trans (by decide) b_t3.1, Int.le_trans b_t3.2 (by decide)⟩ ⟨Int.le_trans (by decide) b_t4.1, Int.le_trans b_t4.2 (by decide)⟩ ⟨Int.le_trans (by decide) b_t5.1, Int.le_trans b_t5.2 (by decide)⟩))
    (Lib.hid (fun W => Whole_any (k0 - 6) (k1 - 6) (k2 - 6) (k3 - 6) (k4 - 6) (k5 - 6) W ⟨Int.le_trans (by decide) b_r0.1, Int.le_trans b_r0.2 (by decide)⟩ ⟨Int.le_trans (by decide) b_r1.1, Int.le_trans b_r1.2 (by decide)⟩ ⟨Int.le_trans (by decide) b_r2.1, Int.le_trans b_r2.2 (by decide)⟩ ⟨Int.le_trans (by decide) b_r3.1, Int.le_trans b_r3.2 (by decide)⟩ ⟨Int.le_trans (by decide) b_r4.1, Int.le_trans b_r4.2 (by decide)⟩ ⟨Int.le_trans (by decide) b_r5.1, Int.le_trans b_r5.2 (by decide)⟩))
    (Lib.hid (fun W => mul_whole (i0 - 6) (i1 - 6) (i2 - 6) (i3 - 6) (i4 - 6) (i5 - 6) (j0 - 6) (j1 - 6) (j2 - 6) (j3 - 6) (j4 - 6) (j5 - 6) l0 l1 l2 l3 l4 l5 W ⟨Int.le_trans (by decide) b_s0.1, Int.le_trans b_s0.2 (by decide)⟩ ⟨Int.le_trans (by decide) b_s1.1, Int.le_trans b_s1.2 (by decide)⟩ ⟨Int.le_trans (by decide) b_s2.1, Int.le_trans b_s2.2 (by decide)⟩ ⟨Int.le_trans (by decide) b_s3.1, Int.le_trans b_s3.2 (by decide)⟩ ⟨Int.le_trans (by decide) b_s4.1, Int.le_trans b_s4.2 (by decide)⟩ ⟨Int.le_trans (by decide) b_s5.1, Int.le_trans b_s5.2 (by decide)⟩ ⟨Int.le_trans (by decide) b_t0.1, Int.le_trans b_t0.2 (by decide)⟩ ⟨Int.le_trans (by decide) b_t1.1, Int.le_trans b_t1.2 (by decide)⟩ ⟨Int.le_trans (by decide) b_t2.1, Int.le_trans b_t2.2 (by decide)⟩ ⟨Int.le_trans (by decide) b_t3.1, Int.le_trans b_t3.2 (by decide)⟩ ⟨Int.le_trans (by decide) b_t4.1, Int.le_trans b_t4.2 (by decide)⟩ ⟨Int.le_trans (by decide) b_t5.1, Int.le_trans b_t5.2 (by decide)⟩ ⟨Int.le_trans (by decide) b_l0.1, Int.le_trans b_l0.2 (by decide)⟩ ⟨Int.le_trans (by decide) b_l1.1, Int.le_trans b_l1.2 (by decide)⟩ ⟨Int.le_trans (by decide) b_l2.1, Int.le_trans b_l2.2 (by decide)⟩ ⟨Int.le_trans (by decide) b_l3.1, Int.le_trans b_l3.2 (by decide)⟩ ⟨Int.le_trans (by decide) b_l4.1, Int.le_trans b_l4.2 (by decide)⟩ ⟨Int.le_trans (by decide) b_l5.1, Int.le_trans b_l5.2 (by decide)⟩ h_l0 h_l1 h_l2 h_l3 h_l4 h_l5))
    (Lib.hid (fun W => mul_whole (j0 - 6) (j1 - 6) (j2 - 6) (j3 - 6) (j4 - 6) (j5 - 6) (k0 - 6) (k1 - 6) (k2 - 6) (k3 - 6) (k4 - 6) (k5 - 6) m0 m1 m2 m3 m4 m5 W ⟨Int.le_trans (by decide) b_t0.1, Int.le_trans b_t0.2 (by decide)⟩ ⟨Int.le_trans (by decide) b_t1.1, Int.le_trans b_t1.2 (by decide)⟩ ⟨Int.le_trans (by decide) b_t2.1, Int.le_trans b_t2.2 (by decide)⟩ ⟨Int.le_trans (by decide) b_t3.1, Int.le_trans b_t3.2 (by decide)⟩ ⟨Int.le_trans (by decide) b_t4.1, Int.le_trans b_t4.2 (by decide)⟩ ⟨Int.le_trans (by decide) b_t5.1, Int.le_trans b_t5.2 (by decide)⟩ ⟨Int.le_trans (by decide) b_r0.1, Int.le_trans b_r0.2 (by decide)⟩ ⟨Int.le_trans (by decide) b_r1.1, Int.le_trans b_r1.2 (by decide)⟩ ⟨Int.le_trans (by decide) b_r2.1, Int.le_trans b_r2.2 (by decide)⟩ ⟨Int.le_trans (by decide) b_r3.1, Int.le_trans b_r3.2 (by decide)⟩ ⟨Int.le_trans (by decide) b_r4.1, Int.le_trans b_r4.2 (by decide)⟩ ⟨Int.le_trans (by decide) b_r5.1, Int.le_trans b_r5.2 (by decide)⟩ ⟨Int.le_trans (by decide) b_m0.1, Int.le_trans b_m0.2 (by decide)⟩ ⟨Int.le_trans (by decide) b_m1.1, Int.le_trans b_m1.2 (by decide)⟩ ⟨Int.le_trans (by decide) b_m2.1, Int.le_trans b_m2.2 (by decide)⟩ ⟨Int.le_trans (by decide) b_m3.1, Int.le_trans b_m3.2 (by decide)⟩ ⟨Int.le_trans (by decide) b_m4.1, Int.le_trans b_m4.2 (by decide)⟩ ⟨Int.le_trans (by decide) b_m5.1, Int.le_trans b_m5.2 (by decide)⟩ h_m0 h_m1 h_m2 h_m3 h_m4 h_m5))
    (Lib.hid (fun W => mul_whole l0 l1 l2 l3 l4 l5 (k0 - 6) (k1 - 6) (k2 - 6) (k3 - 6) (k4 - 6) (k5 - 6) e0 e1 e2 e3 e4 e5 W ⟨Int.le_trans (by decide) b_l0.1, Int.le_trans b_l0.2 (by decide)⟩ ⟨Int.le_trans (by decide) b_l1.1, Int.le_trans b_l1.2 (by decide)⟩ ⟨Int.le_trans (by decide) b_l2.1, Int.le_trans b_l2.2 (by decide)⟩ ⟨Int.le_trans (by decide) b_l3.1, Int.le_trans b_l3.2 (by decide)⟩ ⟨Int.le_trans (by decide) b_l4.1, Int.le_trans b_l4.2 (by decide)⟩ ⟨Int.le_trans (by decide) b_l5.1, Int.le_trans b_l5.2 (by decide)⟩ ⟨Int.le_trans (by decide) b_r0.1, Int.le_trans b_r0.2 (by decide)⟩ ⟨Int.le_trans (by decide) b_r1.1, Int.le_trans b_r1.2 (by decide)⟩ ⟨Int.le_trans (by decide) b_r2.1, Int.le_trans b_r2.2 (by decide)⟩ ⟨Int.le_trans (by decide) b_r3.1, Int.le_trans b_r3.2 (by decide)⟩ ⟨Int.le_trans (by decide) b_r4.1, Int.le_trans b_r4.2 (by decide)⟩ ⟨Int.le_trans (by decide) b_r5.1, Int.le_trans b_r5.2 (by decide)⟩ ⟨Int.le_trans (by decide) b_e0.1, Int.le_trans b_e0.2 (by decide)⟩ ⟨Int.le_trans (by decide) b_e1.1, Int.le_trans b_e1.2 (by decide)⟩ ⟨Int.le_trans (by decide) b_e2.1, Int.le_trans b_e2.2 (by decide)⟩ ⟨Int.le_trans (by decide) b_e3.1, Int.le_trans b_e3.2 (by decide)⟩ ⟨Int.le_trans (by decide) b_e4.1, Int.le_trans b_e4.2 (by decide)⟩ ⟨Int.le_trans (by decide) b_e5.1, Int.le_trans b_e5.2 (by decide)⟩ h_e0 h_e1 h_e2 h_e3 h_e4 h_e5))
    (Lib.hid (fun W => mul_whole (i0 - 6) (i1 - 6) (i2 - 6) (i3 - 6) (i4 - 6) (i5 - 6) m0 m1 m2 m3 m4 m5 e0 e1 e2 e3 e4 e5 W ⟨Int.le_trans (by decide) b_s0.1, Int.le_trans b_s0.2 (by decide)⟩ ⟨Int.le_trans (by decide) b_s1.1, Int.le_trans b_s1.2 (by decide)⟩ ⟨Int.le_trans (by decide) b_s2.1, Int.le_trans b_s2.2 (by decide)⟩ ⟨Int.le_trans (by decide) b_s3.1, Int.le_trans b_s3.2 (by decide)⟩ ⟨Int.le_trans (by decide) b_s4.1, Int.le_trans b_s4.2 (by decide)⟩ ⟨Int.le_trans (by decide) b_s5.1, Int.le_trans b_s5.2 (by decide)⟩ ⟨Int.le_trans (by decide) b_m0.1, Int.le_trans b_m0.2 (by decide)⟩ ⟨Int.le_trans (by decide) b_m1.1, Int.le_trans b_m1.2 (by decide)⟩ ⟨Int.le_trans (by decide) b_m2.1, Int.le_trans b_m2.2 (by decide)⟩ ⟨Int.le_trans (by decide) b_m3.1, Int.le_trans b_m3.2 (by decide)⟩ ⟨Int.le_trans (by decide) b_m4.1, Int.le_trans b_m4.2 (by decide)⟩ ⟨Int.le_trans (by decide) b_m5.1, Int.le_trans b_m5.2 (by decide)⟩ ⟨Int.le_trans (by decide) b_e0.1, Int.le_trans b_e0.2 (by decide)⟩ ⟨Int.le_trans (by decide) b_e1.1, Int.le_trans b_e1.2 (by decide)⟩ ⟨Int.le_trans (by decide) b_e2.1, Int.le_trans b_e2.2 (by decide)⟩ ⟨Int.le_trans (by decide) b_e3.1, Int.le_trans b_e3.2 (by decide)⟩ ⟨Int.le_trans (by decide) b_e4.1, Int.le_trans b_e4.2 (by decide)⟩ ⟨Int.le_trans (by decide) b_e5.1, Int.le_trans b_e5.2 (by decide)⟩ w_e0 w_e1 w_e2 w_e3 w_e4 w_e5))
    (Lib.hid (fun W => whole_map (i0 - 6) (i1 - 6) (i2 - 6) (i3 - 6) (i4 - 6) (i5 - 6) x y u v W ⟨Int.le_trans (by decide) b_s0.1, Int.le_trans b_s0.2 (by decide)⟩ ⟨Int.le_trans (by decide) b_s1.1, Int.le_trans b_s1.2 (by decide)⟩ ⟨Int.le_trans (by decide) b_s2.1, Int.le_trans b_s2.2 (by decide)⟩ ⟨Int.le_trans (by decide) b_s3.1, Int.le_trans b_s3.2 (by decide)⟩ ⟨Int.le_trans (by decide) b_s4.1, Int.le_trans b_s4.2 (by decide)⟩ ⟨Int.le_trans (by decide) b_s5.1, Int.le_trans b_s5.2 (by decide)⟩ ⟨Int.le_trans (by decide) b_x.1, Int.le_trans b_x.2 (by decide)⟩ ⟨Int.le_trans (by decide) b_y.1, Int.le_trans b_y.2 (by decide)⟩ ⟨Int.le_trans (by decide) b_u.1, Int.le_trans b_u.2 (by decide)⟩ ⟨Int.le_trans (by decide) b_v.1, Int.le_trans b_v.2 (by decide)⟩ h_u h_v))
    (Lib.hid (fun W => whole_map (j0 - 6) (j1 - 6) (j2 - 6) (j3 - 6) (j4 - 6) (j5 - 6) u v z1 z2 W ⟨Int.le_trans (by decide) b_t0.1, Int.le_trans b_t0.2 (by decide)⟩ ⟨Int.le_trans (by decide) b_t1.1, Int.le_trans b_t1.2 (by decide)⟩ ⟨Int.le_trans (by decide) b_t2.1, Int.le_trans b_t2.2 (by decide)⟩ ⟨Int.le_trans (by decide) b_t3.1, Int.le_trans b_t3.2 (by decide)⟩ ⟨Int.le_trans (by decide) b_t4.1, Int.le_trans b_t4.2 (by decide)⟩ ⟨Int.le_trans (by decide) b_t5.1, Int.le_trans b_t5.2 (by decide)⟩ ⟨Int.le_trans (by decide) b_u.1, Int.le_trans b_u.2 (by decide)⟩ ⟨Int.le_trans (by decide) b_v.1, Int.le_trans b_v.2 (by decide)⟩ ⟨Int.le_trans (by decide) b_z1.1, Int.le_trans b_z1.2 (by decide)⟩ ⟨Int.le_trans (by decide) b_z2.1, Int.le_trans b_z2.2 (by decide)⟩ h_z1 h_z2))
    (Lib.hid (fun W => whole_map l0 l1 l2 l3 l4 l5 x y z1 z2 W ⟨Int.le_trans (by decide) b_l0.1, Int.le_trans b_l0.2 (by decide)⟩ ⟨Int.le_trans (by decide) b_l1.1, Int.le_trans b_l1.2 (by decide)⟩ ⟨Int.le_trans (by decide) b_l2.1, Int.le_trans b_l2.2 (by decide)⟩ ⟨Int.le_trans (by decide) b_l3.1, Int.le_trans b_l3.2 (by decide)⟩ ⟨Int.le_trans (by decide) b_l4.1, Int.le_trans b_l4.2 (by decide)⟩ ⟨Int.le_trans (by decide) b_l5.1, Int.le_trans b_l5.2 (by decide)⟩ ⟨Int.le_trans (by decide) b_x.1, Int.le_trans b_x.2 (by decide)⟩ ⟨Int.le_trans (by decide) b_y.1, Int.le_trans b_y.2 (by decide)⟩ ⟨Int.le_trans (by decide) b_z1.1, Int.le_trans b_z1.2 (by decide)⟩ ⟨Int.le_trans (by decide) b_z2.1, Int.le_trans b_z2.2 (by decide)⟩ w_z1 w_z2))
end Go.Proofs.Ytaephahcohdbpaa.mt
