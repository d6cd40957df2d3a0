/-
  Layer 37: Place, Turn, beside.
-/
import Derived.Test.YtegpjjkbbdfggaaKnownI
namespace Go.Proofs.Ytegpjjkbbdfggaa.im
set_option linter.unusedVariables false
set_option linter.unusedSimpArgs false
open Go.RowKit bs mt

theorem tmod_cases (v n : Int) (h0 : 0 < n) : ∃ q : Int, v.tmod n = q ∧ -n < q ∧ q < n ∧ (q < 0 → q + n = v % n) ∧ (0 ≤ q → q = v % n) := by
  refine ⟨_, rfl, ?_⟩
  rcases Int.lt_or_le v 0 with hv | hv
  · have e : v.tmod n = -((-v) % n) := by
      have := Int.neg_tmod (-v) n
      rw [Int.neg_neg] at this
      rw [this, Int.tmod_eq_emod_of_nonneg (by omega)]
    have b0 := Int.emod_nonneg (-v) (show n ≠ 0 by omega)
    have b1 := Int.emod_lt_of_pos (-v) h0
    have c0 := Int.emod_nonneg v (show n ≠ 0 by omega)
    have c1 := Int.emod_lt_of_pos v h0
    have d1 := Int.mul_ediv_add_emod (-v) n
    have d2 := Int.mul_ediv_add_emod v n
    rw [e]
    have key : (v % n = 0 ∧ (-v) % n = 0) ∨ v % n = n - (-v) % n := by
      have hs : n * ((-v) / n + v / n) = -((-v) % n + v % n) := by rw [Int.mul_add]; omega
      have hb : (-v) / n + v / n = 0 ∨ (-v) / n + v / n = -1 := by
        have h1 : n * ((-v) / n + v / n) ≤ 0 := by omega
        have h2 : -(2 * n) < n * ((-v) / n + v / n) := by omega
        have h3 : (-v) / n + v / n ≤ 0 := by
          rcases Int.lt_or_le 0 ((-v) / n + v / n) with h | h
          · have := Int.mul_pos h0 h; omega
          · exact h
        have h4 : -2 < (-v) / n + v / n := by
          rcases Int.lt_or_le (-2) ((-v) / n + v / n) with h | h
          · exact h
          · have := Int.mul_le_mul_of_nonneg_left h (show 0 ≤ n by omega); omega
        omega
      rcases hb with hb | hb <;> rw [hb] at hs <;> omega
    omega
  · rw [Int.tmod_eq_emod_of_nonneg hv]
    have b0 := Int.emod_nonneg v (show n ≠ 0 by omega)
    have b1 := Int.emod_lt_of_pos v h0
    omega

theorem place_any (v n : Int) (w : World) (h0 : 0 < n) (h1 : n ≤ 1152921504606846976) :
    Calls Try.prog 25 #[.int .i64 v, .int .i64 n] w fun e w' => e = .returned (.int .i64 (v % n)) ∧ w = w' := by
  have hne : (n == 0) = false := by simp; omega
  obtain ⟨q, hq, q0, q1, q2, q3⟩ := tmod_cases v n h0
  have Q2 := Lib.hid q2
  have Q3 := Lib.hid q3
  clear q2 q3
  go_enter Try.func25, Try.ntmps25
  go_wp2_with fail
  all_goals go_ret
  all_goals refine ⟨ret_int ?_, rfl⟩
  · exact Q2.out (by omega)
  · exact Q3.out (by omega)


def arrT (a0 a1 a2 a3 a4 a5 i0 i1 i2 i3 i4 i5 : Int) : Nat → Array Value
  | 0 => #[.int .i64 a0, .int .i64 a1, .int .i64 a2, .int .i64 a3, .int .i64 a4, .int .i64 a5]
  | 1 => #[.int .i64 (i0 - 1966080), .int .i64 a1, .int .i64 a2, .int .i64 a3, .int .i64 a4, .int .i64 a5]
  | 2 => #[.int .i64 (i0 - 1966080), .int .i64 (i1 - 1966080), .int .i64 a2, .int .i64 a3, .int .i64 a4, .int .i64 a5]
  | 3 => #[.int .i64 (i0 - 1966080), .int .i64 (i1 - 1966080), .int .i64 (i2 - 1966080), .int .i64 a3, .int .i64 a4, .int .i64 a5]
  | 4 => #[.int .i64 (i0 - 1966080), .int .i64 (i1 - 1966080), .int .i64 (i2 - 1966080), .int .i64 (i3 - 1966080), .int .i64 a4, .int .i64 a5]
  | 5 => #[.int .i64 (i0 - 1966080), .int .i64 (i1 - 1966080), .int .i64 (i2 - 1966080), .int .i64 (i3 - 1966080), .int .i64 (i4 - 1966080), .int .i64 a5]
  | _ => #[.int .i64 (i0 - 1966080), .int .i64 (i1 - 1966080), .int .i64 (i2 - 1966080), .int .i64 (i3 - 1966080), .int .i64 (i4 - 1966080), .int .i64 (i5 - 1966080)]

set_option maxRecDepth 100000 in
set_option maxHeartbeats 1600000 in
theorem turn_walk (a0 a1 a2 a3 a4 a5 i0 i1 i2 i3 i4 i5 : Int) (w : World) (q00 : 0 ≤ i0) (q01 : i0 < 3932160) (q10 : 0 ≤ i1) (q11 : i1 < 3932160) (q20 : 0 ≤ i2) (q21 : i2 < 3932160) (q30 : 0 ≤ i3) (q31 : i3 < 3932160) (q40 : 0 ≤ i4) (q41 : i4 < 3932160) (q50 : 0 ≤ i5) (q51 : i5 < 3932160)
    (HP0 : Hid (∀ W', Calls Try.prog 25 #[.int .i64 a0, .int .i64 3932160] W' fun ed w' => ed = .returned (.int .i64 i0) ∧ W' = w'))
    (HP1 : Hid (∀ W', Calls Try.prog 25 #[.int .i64 a1, .int .i64 3932160] W' fun ed w' => ed = .returned (.int .i64 i1) ∧ W' = w'))
    (HP2 : Hid (∀ W', Calls Try.prog 25 #[.int .i64 a2, .int .i64 3932160] W' fun ed w' => ed = .returned (.int .i64 i2) ∧ W' = w'))
    (HP3 : Hid (∀ W', Calls Try.prog 25 #[.int .i64 a3, .int .i64 3932160] W' fun ed w' => ed = .returned (.int .i64 i3) ∧ W' = w'))
    (HP4 : Hid (∀ W', Calls Try.prog 25 #[.int .i64 a4, .int .i64 3932160] W' fun ed w' => ed = .returned (.int .i64 i4) ∧ W' = w'))
    (HP5 : Hid (∀ W', Calls Try.prog 25 #[.int .i64 a5, .int .i64 3932160] W' fun ed w' => ed = .returned (.int .i64 i5) ∧ W' = w'))
    : Calls Try.prog 24 #[.agg #[.int .i64 a0, .int .i64 a1, .int .i64 a2, .int .i64 a3, .int .i64 a4, .int .i64 a5]] w fun ed w' => ed = .returned (.agg #[.int .i64 (i0 - 1966080), .int .i64 (i1 - 1966080), .int .i64 (i2 - 1966080), .int .i64 (i3 - 1966080), .int .i64 (4 * (i4 - 1966080)), .int .i64 (4 * (i5 - 1966080))]) ∧ Below w.heap.size w w' := by
  have Ka := (Blk.new w 34 #[.int .i64 a0, .int .i64 a1, .int .i64 a2, .int .i64 a3, .int .i64 a4, .int .i64 a5]).alloc (.cells #[.int .i64 0, .int .i64 0, .int .i64 0, .int .i64 0, .int .i64 0, .int .i64 0] 25)
  have Kv := Blk.new (w.alloc (.cells #[.int .i64 a0, .int .i64 a1, .int .i64 a2, .int .i64 a3, .int .i64 a4, .int .i64 a5] 34)) 25 #[.int .i64 0, .int .i64 0, .int .i64 0, .int .i64 0, .int .i64 0, .int .i64 0]
  have s1 : (w.alloc (.cells #[.int .i64 a0, .int .i64 a1, .int .i64 a2, .int .i64 a3, .int .i64 a4, .int .i64 a5] 34)).heap.size = w.heap.size + 1 := by simp
  rw [s1] at Kv
  clear s1
  have hbw : Below w.heap.size w ((w.alloc (.cells #[.int .i64 a0, .int .i64 a1, .int .i64 a2, .int .i64 a3, .int .i64 a4, .int .i64 a5] 34)).alloc (.cells #[.int .i64 0, .int .i64 0, .int .i64 0, .int .i64 0, .int .i64 0, .int .i64 0] 25)) := by (repeat' (first | exact Below.refl _ _ | exact Below.refl _ _ | refine balloc ?_ _ | refine Below.drew ?_ | refine below_drewN ?_ _ | refine bset ?_ (by first | omega | (simp <;> omega)) _))
  have HK := Lib.hid Ka
  have HV := Lib.hid Kv
  have HBW := Lib.hid hbw
  clear Ka Kv hbw
  go_enter Try.func24, Try.ntmps24
  go_wp2_with fail
  go_loopw [3] (fun c wr => ∃ k : Nat, k ≤ 6 ∧ c = .int .i64 k ∧ Blk wr w.heap.size 34 (arrT a0 a1 a2 a3 a4 a5 i0 i1 i2 i3 i4 i5 k) ∧ Blk wr (w.heap.size + 1) 25 #[.int .i64 0, .int .i64 0, .int .i64 0, .int .i64 0, .int .i64 0, .int .i64 0] ∧ Below w.heap.size w wr) (fun c _ => 6 - (intOf c).toNat)
  case atStart => exact ⟨0, by omega, rfl, HK.out, HV.out, HBW.out⟩
  case round =>
    clear HK HV HBW
    obtain ⟨k, hk, rfl, Ka, Kv, hbw⟩ := hrel
    rcases (show k = 0 ∨ k = 1 ∨ k = 2 ∨ k = 3 ∨ k = 4 ∨ k = 5 ∨ k = 6 by omega) with h | h | h | h | h | h | h <;> subst h
    · have c0 := Ka.cell 0
      have f0 := Ka.frozen 0
      simp only [arrT, List.getElem?_toArray, List.getElem?_cons_succ, List.getElem?_cons_zero] at c0
      have HN := Lib.hid (Ka.set_ 0 (.int .i64 (i0 - 1966080)))
      have HV := Lib.hid (Kv.far (p := ⟨w.heap.size, 0, none⟩) (show w.heap.size + 1 ≠ w.heap.size by omega) (.int .i64 (i0 - 1966080)))
      have HB2 := Lib.hid hbw
      clear Ka Kv hbw
      go_wp2_with fail
      refine (HP0.out _).mono ?_
      rintro e_ w_ ⟨rfl, rfl⟩
      go_wp2_with fail
      go_roundw
      case rel => exact ⟨1, by omega, rfl, HN.out, HV.out, bset HB2.out (Nat.le_refl _) _⟩
      case measure => simp [intOf]
    · have c0 := Ka.cell 1
      have f0 := Ka.frozen 1
      simp only [arrT, List.getElem?_toArray, List.getElem?_cons_succ, List.getElem?_cons_zero] at c0
      have HN := Lib.hid (Ka.set_ 1 (.int .i64 (i1 - 1966080)))
      have HV := Lib.hid (Kv.far (p := ⟨w.heap.size, 1, none⟩) (show w.heap.size + 1 ≠ w.heap.size by omega) (.int .i64 (i1 - 1966080)))
      have HB2 := Lib.hid hbw
      clear Ka Kv hbw
      go_wp2_with fail
      refine (HP1.out _).mono ?_
      rintro e_ w_ ⟨rfl, rfl⟩
      go_wp2_with fail
      go_roundw
      case rel => exact ⟨2, by omega, rfl, HN.out, HV.out, bset HB2.out (Nat.le_refl _) _⟩
      case measure => simp [intOf]
    · have c0 := Ka.cell 2
      have f0 := Ka.frozen 2
      simp only [arrT, List.getElem?_toArray, List.getElem?_cons_succ, List.getElem?_cons_zero] at c0
      have HN := Lib.hid (Ka.set_ 2 (.int .i64 (i2 - 1966080)))
      have HV := Lib.hid (Kv.far (p := ⟨w.heap.size, 2, none⟩) (show w.heap.size + 1 ≠ w.heap.size by omega) (.int .i64 (i2 - 1966080)))
      have HB2 := Lib.hid hbw
      clear Ka Kv hbw
      go_wp2_with fail
      refine (HP2.out _).mono ?_
      rintro e_ w_ ⟨rfl, rfl⟩
      go_wp2_with fail
      go_roundw
      case rel => exact ⟨3, by omega, rfl, HN.out, HV.out, bset HB2.out (Nat.le_refl _) _⟩
      case measure => simp [intOf]
    · have c0 := Ka.cell 3
      have f0 := Ka.frozen 3
      simp only [arrT, List.getElem?_toArray, List.getElem?_cons_succ, List.getElem?_cons_zero] at c0
      have HN := Lib.hid (Ka.set_ 3 (.int .i64 (i3 - 1966080)))
      have HV := Lib.hid (Kv.far (p := ⟨w.heap.size, 3, none⟩) (show w.heap.size + 1 ≠ w.heap.size by omega) (.int .i64 (i3 - 1966080)))
      have HB2 := Lib.hid hbw
      clear Ka Kv hbw
      go_wp2_with fail
      refine (HP3.out _).mono ?_
      rintro e_ w_ ⟨rfl, rfl⟩
      go_wp2_with fail
      go_roundw
      case rel => exact ⟨4, by omega, rfl, HN.out, HV.out, bset HB2.out (Nat.le_refl _) _⟩
      case measure => simp [intOf]
    · have c0 := Ka.cell 4
      have f0 := Ka.frozen 4
      simp only [arrT, List.getElem?_toArray, List.getElem?_cons_succ, List.getElem?_cons_zero] at c0
      have HN := Lib.hid (Ka.set_ 4 (.int .i64 (i4 - 1966080)))
      have HV := Lib.hid (Kv.far (p := ⟨w.heap.size, 4, none⟩) (show w.heap.size + 1 ≠ w.heap.size by omega) (.int .i64 (i4 - 1966080)))
      have HB2 := Lib.hid hbw
      clear Ka Kv hbw
      go_wp2_with fail
      refine (HP4.out _).mono ?_
      rintro e_ w_ ⟨rfl, rfl⟩
      go_wp2_with fail
      go_roundw
      case rel => exact ⟨5, by omega, rfl, HN.out, HV.out, bset HB2.out (Nat.le_refl _) _⟩
      case measure => simp [intOf]
    · have c0 := Ka.cell 5
      have f0 := Ka.frozen 5
      simp only [arrT, List.getElem?_toArray, List.getElem?_cons_succ, List.getElem?_cons_zero] at c0
      have HN := Lib.hid (Ka.set_ 5 (.int .i64 (i5 - 1966080)))
      have HV := Lib.hid (Kv.far (p := ⟨w.heap.size, 5, none⟩) (show w.heap.size + 1 ≠ w.heap.size by omega) (.int .i64 (i5 - 1966080)))
      have HB2 := Lib.hid hbw
      clear Ka Kv hbw
      go_wp2_with fail
      refine (HP5.out _).mono ?_
      rintro e_ w_ ⟨rfl, rfl⟩
      go_wp2_with fail
      go_roundw
      case rel => exact ⟨6, by omega, rfl, HN.out, HV.out, bset HB2.out (Nat.le_refl _) _⟩
      case measure => simp [intOf]
    · replace Ka : Blk wr w.heap.size 34 #[.int .i64 (i0 - 1966080), .int .i64 (i1 - 1966080), .int .i64 (i2 - 1966080), .int .i64 (i3 - 1966080), .int .i64 (i4 - 1966080), .int .i64 (i5 - 1966080)] := Ka
      have la := Ka.lt
      have ca0 := Ka.cell 0
      have cv0 := Kv.cell 0
      have fv0 := Kv.frozen 0
      have ca1 := Ka.cell 1
      have cv1 := Kv.cell 1
      have fv1 := Kv.frozen 1
      have ca2 := Ka.cell 2
      have cv2 := Kv.cell 2
      have fv2 := Kv.frozen 2
      have ca3 := Ka.cell 3
      have cv3 := Kv.cell 3
      have fv3 := Kv.frozen 3
      have ca4 := Ka.cell 4
      have cv4 := Kv.cell 4
      have fv4 := Kv.frozen 4
      have ca5 := Ka.cell 5
      have cv5 := Kv.cell 5
      have fv5 := Kv.frozen 5
      simp only [List.getElem?_toArray, List.getElem?_cons_succ, List.getElem?_cons_zero] at ca0 cv0 ca1 cv1 ca2 cv2 ca3 cv3 ca4 cv4 ca5 cv5
      have HV := Lib.hid Kv
      have HBW := Lib.hid hbw
      clear Ka Kv hbw
      go_wp2_with fail
      refine ret_struct1 (g := w.heap.size + 1) (t := 25) (cs := #[.int .i64 (i0 - 1966080), .int .i64 (i1 - 1966080), .int .i64 (i2 - 1966080), .int .i64 (i3 - 1966080), .int .i64 (4 * (i4 - 1966080)), .int .i64 (4 * (i5 - 1966080))]) rfl rfl ?_ Try.underlying25 rfl rfl rfl ?_
      · exact blk_cast ((((((HV.out.set_ 0 (.int .i64 (i0 - 1966080))).set_ 1 (.int .i64 (i1 - 1966080))).set_ 2 (.int .i64 (i2 - 1966080))).set_ 3 (.int .i64 (i3 - 1966080))).set_ 4 (.int .i64 (4 * (i4 - 1966080)))).set_ 5 (.int .i64 (4 * (i5 - 1966080)))) (by kernel_rfl)
      · exact ⟨rfl, by (repeat' (first | refine bset ?_ (by first | omega | (simp <;> omega)) _ | refine balloc ?_ _ | refine Below.drew ?_ | refine below_drewN ?_ _ | exact HBW.out | exact Below.refl _ _))⟩

theorem turn_any (a0 a1 a2 a3 a4 a5 : Int) (w : World) : ∃ i0 i1 i2 i3 i4 i5 : Int, (0 ≤ i0 ∧ i0 < 3932160) ∧ (0 ≤ i1 ∧ i1 < 3932160) ∧ (0 ≤ i2 ∧ i2 < 3932160) ∧ (0 ≤ i3 ∧ i3 < 3932160) ∧ (0 ≤ i4 ∧ i4 < 3932160) ∧ (0 ≤ i5 ∧ i5 < 3932160) ∧ ∀ W, Calls Try.prog 24 #[.agg #[.int .i64 a0, .int .i64 a1, .int .i64 a2, .int .i64 a3, .int .i64 a4, .int .i64 a5]] W fun ed w' => ed = .returned (.agg #[.int .i64 (i0 - 1966080), .int .i64 (i1 - 1966080), .int .i64 (i2 - 1966080), .int .i64 (i3 - 1966080), .int .i64 (4 * (i4 - 1966080)), .int .i64 (4 * (i5 - 1966080))]) ∧ Below W.heap.size W w' := by
  refine ⟨a0 % 3932160, a1 % 3932160, a2 % 3932160, a3 % 3932160, a4 % 3932160, a5 % 3932160, ⟨by omega, by omega⟩, ⟨by omega, by omega⟩, ⟨by omega, by omega⟩, ⟨by omega, by omega⟩, ⟨by omega, by omega⟩, ⟨by omega, by omega⟩, fun W => ?_⟩
  exact turn_walk a0 a1 a2 a3 a4 a5 _ _ _ _ _ _ W (by omega) (by omega) (by omega) (by omega) (by omega) (by omega) (by omega) (by omega) (by omega) (by omega) (by omega) (by omega) (Lib.hid fun W => place_any a0 3932160 W (by decide) (by decide)) (Lib.hid fun W => place_any a1 3932160 W (by decide) (by decide)) (Lib.hid fun W => place_any a2 3932160 W (by decide) (by decide)) (Lib.hid fun W => place_any a3 3932160 W (by decide) (by decide)) (Lib.hid fun W => place_any a4 3932160 W (by decide) (by decide)) (Lib.hid fun W => place_any a5 3932160 W (by decide) (by decide))

/-- is a fix within one of a whole number -/
def besideB (f : Int) : Bool := decide (f % 65536 ≤ 1) || f % 65536 == 65535
set_option maxRecDepth 100000 in
set_option maxHeartbeats 800000 in
theorem beside_any (f : Int) (w : World) : Calls Try.prog 27 #[.int .i64 f] w fun ed w' => ed = .returned (.bool (besideB f)) ∧ w = w' := by
  have HP := Lib.hid (fun W => place_any f 65536 W (by decide) (by decide))
  unfold besideB
  generalize f % 65536 = r at *
  by_cases h : r ≤ 1
  · have h1 : decide (r ≤ 1) = true := by simp; exact h
    rw [h1]
    go_enter Try.func27, Try.ntmps27
    go_wp2_with fail
    refine (HP.out _).mono ?_
    rintro e_ w_ ⟨rfl, rfl⟩
    go_wp2_with fail
    go_ret
    exact ⟨rfl, rfl⟩
  · have h1 : decide (r ≤ 1) = false := by simp; omega
    rw [h1]
    go_enter Try.func27, Try.ntmps27
    go_wp2_with fail
    refine (HP.out _).mono ?_
    rintro e_ w_ ⟨rfl, rfl⟩
    go_wp2_with fail
    go_ret
    exact ⟨rfl, rfl⟩

end Go.Proofs.Ytegpjjkbbdfggaa.im
