/-
  The reference for layer 24: Floor, Width, Move, Size, Device, IsSide.
-/
import Derived.Test.YtaephahcohdbpaaExact
namespace Go.Proofs.Ytaephahcohdbpaa.mt
set_option linter.unusedVariables false
set_option linter.unusedSimpArgs false
open Go.RowKit bs

set_option maxHeartbeats 800000 in
theorem rfloor_any (n : Nat) (w : World) (h : n < 18446744073709551616) : Calls Try.prog 54 #[.int .u64 (n : Int)] w fun e w' => e = .returned (.int .u64 (isq n : Int)) ∧ w = w' := by
  have hs := isq_lt n h
  have HL := Lib.hid (fun t => @isq_le n t)
  generalize isq n = s at *
  go_enter Try.func54, Try.ntmps54
  go_wp2_with fail
  go_loop [3, 4, 5] (fun r c y => ∃ m : Nat, m ≤ 32 ∧ c = .int .i64 ((m : Int) - 1) ∧ ∃ R : Nat, r = .int .u64 (R : Int) ∧ R < 4294967296 ∧ Hid (s / 2 ^ m * 2 ^ m = R)) (fun _ c _ => (intOf c + 1).toNat)
  case atStart => exact ⟨32, by omega, rfl, 0, rfl, by omega, (by
    show s / 2 ^ 32 * 2 ^ 32 = 0
    rw [Nat.div_eq_of_lt (by omega), Nat.zero_mul] : _ = _)⟩
  case round =>
    obtain ⟨m, hm, rfl, R, rfl, hR, hI⟩ := hrel
    cases m with
    | zero =>
      go_wp2
      go_ret
      have e := hI.out
      rw [Nat.pow_zero, Nat.div_one, Nat.mul_one] at e
      exact ⟨by rw [e]; rfl, rfl⟩
    | succ j =>
      have hexp : 31 - (31 - j) = j := by omega
      have e := hI.out
      obtain ⟨T, hT, hT2, s1, s2⟩ := root_step s j (by omega) hs
      rw [e] at hT s2
      obtain ⟨f3, _⟩ := or_pow _ R j (by omega) e (by omega)
      rw [hT] at f3
      obtain ⟨z, hz⟩ : ∃ z, T * T = z := ⟨_, rfl⟩
      have hzb : z ≤ 18446744065119617025 := by
        rw [← hz]
        exact Nat.le_trans (Nat.mul_le_mul (show T ≤ 4294967295 by omega) (show T ≤ 4294967295 by omega)) (by decide)
      have hsq : (T : Int) * (T : Int) = (z : Int) := by rw [← hz]; push_cast; rfl
      have hw : IntKind.u64.wrap (z : Int) = (z : Int) := wraps_u64 _ (by omega) (by omega)
      have hc := HL.out T
      rw [hz] at hc
      have S1 := Lib.hid s1
      have S2 := Lib.hid s2
      have HC := Lib.hid hc
      clear hz s1 s2 hc e hT
      by_cases c : z ≤ n
      · have c1 : decide ((z : Int) ≤ (n : Int)) = true := by simp; omega
        go_wp2
        go_round
        case rel => exact ⟨j, by omega, by go_num, T, rfl, hT2, S1.out (HC.out.2 c)⟩
        case measure => simp [intOf]
      · have c1 : decide ((z : Int) ≤ (n : Int)) = false := by simp; omega
        go_wp2
        go_round
        case rel => exact ⟨j, by omega, by go_num, R, rfl, hR, (by
          have hlt : s < T := by
            rcases Nat.lt_or_ge s T with h2 | h2
            · exact h2
            · exact absurd (HC.out.1 h2) c
          show s / 2 ^ j * 2 ^ j = R
          exact S2.out hlt : _ = _)⟩
        case measure => simp [intOf]

set_option maxHeartbeats 800000 in
theorem rMove_any (x y : Int) (w : World) : Calls Try.prog 19 #[.int .i64 x, .int .i64 y] w fun ed w' => ed = .returned (.agg #[.int .i64 65536, .int .i64 0, .int .i64 0, .int .i64 65536, .int .i64 x, .int .i64 y]) ∧ Below w.heap.size w w' := by
  have K2 := Blk.new w 23 #[.int .i64 0, .int .i64 0, .int .i64 0, .int .i64 0, .int .i64 0, .int .i64 0]
  have q0 := K2.cell 0
  have f0 := K2.frozen 0
  have q1 := K2.cell 1
  have f1 := K2.frozen 1
  have q2 := K2.cell 2
  have f2 := K2.frozen 2
  have q3 := K2.cell 3
  have f3 := K2.frozen 3
  have q4 := K2.cell 4
  have f4 := K2.frozen 4
  have q5 := K2.cell 5
  have f5 := K2.frozen 5
  simp only [List.getElem?_toArray, List.getElem?_cons_succ, List.getElem?_cons_zero] at q0 q1 q2 q3 q4 q5
  clear K2
  go_enter Try.func19, Try.ntmps19
  go_wp2_with fail
  refine ret_struct1 (g := w.heap.size) (t := 23) (cs := #[.int .i64 65536, .int .i64 0, .int .i64 0, .int .i64 65536, .int .i64 x, .int .i64 y]) rfl rfl ?_ Try.underlying23 rfl rfl rfl ?_
  · exact Blk.new _ _ _
  · exact ⟨rfl, by (repeat' (first | refine bset ?_ (by first | omega | (simp <;> omega)) _ | refine balloc ?_ _ | refine Below.drew ?_ | refine below_drewN ?_ _ | exact Below.refl _ _ | exact Below.refl _ _))⟩

set_option maxHeartbeats 800000 in
theorem rSize_any (x y : Int) (w : World) : Calls Try.prog 20 #[.int .i64 x, .int .i64 y] w fun ed w' => ed = .returned (.agg #[.int .i64 x, .int .i64 0, .int .i64 0, .int .i64 y, .int .i64 0, .int .i64 0]) ∧ Below w.heap.size w w' := by
  have K2 := Blk.new w 23 #[.int .i64 0, .int .i64 0, .int .i64 0, .int .i64 0, .int .i64 0, .int .i64 0]
  have q0 := K2.cell 0
  have f0 := K2.frozen 0
  have q1 := K2.cell 1
  have f1 := K2.frozen 1
  have q2 := K2.cell 2
  have f2 := K2.frozen 2
  have q3 := K2.cell 3
  have f3 := K2.frozen 3
  have q4 := K2.cell 4
  have f4 := K2.frozen 4
  have q5 := K2.cell 5
  have f5 := K2.frozen 5
  simp only [List.getElem?_toArray, List.getElem?_cons_succ, List.getElem?_cons_zero] at q0 q1 q2 q3 q4 q5
  clear K2
  go_enter Try.func20, Try.ntmps20
  go_wp2_with fail
  refine ret_struct1 (g := w.heap.size) (t := 23) (cs := #[.int .i64 x, .int .i64 0, .int .i64 0, .int .i64 y, .int .i64 0, .int .i64 0]) rfl rfl ?_ Try.underlying23 rfl rfl rfl ?_
  · exact Blk.new _ _ _
  · exact ⟨rfl, by (repeat' (first | refine bset ?_ (by first | omega | (simp <;> omega)) _ | refine balloc ?_ _ | refine Below.drew ?_ | refine below_drewN ?_ _ | exact Below.refl _ _ | exact Below.refl _ _))⟩

set_option maxHeartbeats 800000 in
theorem rDevice_any (h : Int) (w : World) (h0 : 1 ≤ h) (h1 : h ≤ 64) : Calls Try.prog 23 #[.int .i64 h] w fun ed w' => ed = .returned (.agg #[.int .i64 1048576, .int .i64 0, .int .i64 0, .int .i64 (-1048576), .int .i64 0, .int .i64 (16 * h * 65536)]) ∧ Below w.heap.size w w' := by
  have K2 := Blk.new w 23 #[.int .i64 0, .int .i64 0, .int .i64 0, .int .i64 0, .int .i64 0, .int .i64 0]
  have q0 := K2.cell 0
  have f0 := K2.frozen 0
  have q1 := K2.cell 1
  have f1 := K2.frozen 1
  have q2 := K2.cell 2
  have f2 := K2.frozen 2
  have q3 := K2.cell 3
  have f3 := K2.frozen 3
  have q4 := K2.cell 4
  have f4 := K2.frozen 4
  have q5 := K2.cell 5
  have f5 := K2.frozen 5
  simp only [List.getElem?_toArray, List.getElem?_cons_succ, List.getElem?_cons_zero] at q0 q1 q2 q3 q4 q5
  clear K2
  go_enter Try.func23, Try.ntmps23
  go_wp2_with fail
  refine ret_struct1 (g := w.heap.size) (t := 23) (cs := #[.int .i64 1048576, .int .i64 0, .int .i64 0, .int .i64 (-1048576), .int .i64 0, .int .i64 (16 * h * 65536)]) rfl rfl ?_ Try.underlying23 rfl rfl rfl ?_
  · exact Blk.new _ _ _
  · exact ⟨rfl, by (repeat' (first | refine bset ?_ (by first | omega | (simp <;> omega)) _ | refine balloc ?_ _ | refine Below.drew ?_ | refine below_drewN ?_ _ | exact Below.refl _ _ | exact Below.refl _ _))⟩

def sideB (h : Int) : Bool := decide (1 ≤ h) && decide (h ≤ 64)
theorem side_any (h : Int) (w : World) : Calls Try.prog 22 #[.int .i64 h] w fun ed w' => ed = .returned (.bool (sideB h)) ∧ w = w' := by
  by_cases a : 1 ≤ h
  · have c1 : decide (1 ≤ h) = true := by simp; omega
    by_cases b : h ≤ 64
    · have c2 : decide (h ≤ 64) = true := by simp; omega
      rw [show sideB h = true by unfold sideB; rw [c1, c2]; rfl]
      go_enter Try.func22, Try.ntmps22
      go_wp2_with fail
      go_ret
      exact ⟨rfl, rfl⟩
    · have c2 : decide (h ≤ 64) = false := by simp; omega
      rw [show sideB h = false by unfold sideB; rw [c1, c2]; rfl]
      go_enter Try.func22, Try.ntmps22
      go_wp2_with fail
      go_ret
      exact ⟨rfl, rfl⟩
  · have c1 : decide (1 ≤ h) = false := by simp; omega
    rw [show sideB h = false by unfold sideB; rw [c1]; rfl]
    go_enter Try.func22, Try.ntmps22
    go_wp2_with fail
    go_ret
    exact ⟨rfl, rfl⟩

set_option maxHeartbeats 1600000 in
theorem Width_no1 (A B C D E F v : Int) (w : World) (h : mayB A B C D E F = false) : Calls Try.prog 25 #[.agg #[.int .i64 A, .int .i64 B, .int .i64 C, .int .i64 D, .int .i64 E, .int .i64 F], .int .i64 v] w fun ed w' => ed = .returned (.tuple #[.int .i64 0, .int .i64 1]) ∧ Below w.heap.size w w' := by
  have HA := Lib.hid (fun W => show Calls Try.prog 38 #[.agg #[.int .i64 A, .int .i64 B, .int .i64 C, .int .i64 D, .int .i64 E, .int .i64 F]] W fun ed w' => ed = .returned (.bool false) ∧ Below W.heap.size W w' by have := rmay_any A B C D E F W; rw [h] at this; exact this)
  clear h
  have K1 := Blk.new w 23 #[.int .i64 A, .int .i64 B, .int .i64 C, .int .i64 D, .int .i64 E, .int .i64 F]
  go_enter Try.func25, Try.ntmps25
  go_wp2_with fail
  refine (HA.out _).mono ?_
  rintro e_ w1 ⟨rfl, hb1⟩
  replace K1 := K1.below hb1 (by simp)
  have hbw : Below w.heap.size w w1 := btrans (by (repeat' (first | exact Below.refl _ _ | exact Below.refl _ _ | refine balloc ?_ _ | refine Below.drew ?_ | refine below_drewN ?_ _ | refine bset ?_ (by first | omega | (simp <;> omega)) _))) hb1
  clear hb1
  clear K1
  go_wp2_with fail
  go_ret2
  exact ⟨rfl, hbw⟩


set_option maxHeartbeats 1600000 in
theorem Width_no2 (A B C D E F v : Int) (w : World) (h : mayB A B C D E F = true) (hx : fixB v = false) : Calls Try.prog 25 #[.agg #[.int .i64 A, .int .i64 B, .int .i64 C, .int .i64 D, .int .i64 E, .int .i64 F], .int .i64 v] w fun ed w' => ed = .returned (.tuple #[.int .i64 0, .int .i64 1]) ∧ Below w.heap.size w w' := by
  have HA := Lib.hid (fun W => show Calls Try.prog 38 #[.agg #[.int .i64 A, .int .i64 B, .int .i64 C, .int .i64 D, .int .i64 E, .int .i64 F]] W fun ed w' => ed = .returned (.bool true) ∧ Below W.heap.size W w' by have := rmay_any A B C D E F W; rw [h] at this; exact this)
  have HX := Lib.hid (fun W => show Calls Try.prog 18 #[.int .i64 v] W fun ed w' => ed = .returned (.bool false) ∧ W = w' by have := rfix_any v W; rw [hx] at this; exact this)
  clear h hx
  have K1 := Blk.new w 23 #[.int .i64 A, .int .i64 B, .int .i64 C, .int .i64 D, .int .i64 E, .int .i64 F]
  go_enter Try.func25, Try.ntmps25
  go_wp2_with fail
  refine (HA.out _).mono ?_
  rintro e_ w1 ⟨rfl, hb1⟩
  replace K1 := K1.below hb1 (by simp)
  have hbw : Below w.heap.size w w1 := btrans (by (repeat' (first | exact Below.refl _ _ | exact Below.refl _ _ | refine balloc ?_ _ | refine Below.drew ?_ | refine below_drewN ?_ _ | refine bset ?_ (by first | omega | (simp <;> omega)) _))) hb1
  clear hb1
  have l1 := K1.lt
  have p0_ := K1.cell 0
  have p1_ := K1.cell 1
  have p2_ := K1.cell 2
  have p3_ := K1.cell 3
  have p4_ := K1.cell 4
  have p5_ := K1.cell 5
  simp only [List.getElem?_toArray, List.getElem?_cons_succ, List.getElem?_cons_zero] at p0_ p1_ p2_ p3_ p4_ p5_
  go_wp2_with fail
  refine (HX.out _).mono ?_
  rintro e_ w2 ⟨rfl, rfl⟩
  go_wp2_with fail
  go_ret2
  exact ⟨rfl, hbw⟩


set_option maxHeartbeats 1600000 in
theorem Width_no3 (A B C D E F v : Int) (w : World) (h : mayB A B C D E F = true) (hv : v < 0) (hx : fixB v = true) : Calls Try.prog 25 #[.agg #[.int .i64 A, .int .i64 B, .int .i64 C, .int .i64 D, .int .i64 E, .int .i64 F], .int .i64 v] w fun ed w' => ed = .returned (.tuple #[.int .i64 0, .int .i64 1]) ∧ Below w.heap.size w w' := by
  have HA := Lib.hid (fun W => show Calls Try.prog 38 #[.agg #[.int .i64 A, .int .i64 B, .int .i64 C, .int .i64 D, .int .i64 E, .int .i64 F]] W fun ed w' => ed = .returned (.bool true) ∧ Below W.heap.size W w' by have := rmay_any A B C D E F W; rw [h] at this; exact this)
  have HX := Lib.hid (fun W => show Calls Try.prog 18 #[.int .i64 v] W fun ed w' => ed = .returned (.bool true) ∧ W = w' by have := rfix_any v W; rw [hx] at this; exact this)
  clear h hx
  have c1 : decide (v < 0) = true := by simp; omega
  have K1 := Blk.new w 23 #[.int .i64 A, .int .i64 B, .int .i64 C, .int .i64 D, .int .i64 E, .int .i64 F]
  go_enter Try.func25, Try.ntmps25
  go_wp2_with fail
  refine (HA.out _).mono ?_
  rintro e_ w1 ⟨rfl, hb1⟩
  replace K1 := K1.below hb1 (by simp)
  have hbw : Below w.heap.size w w1 := btrans (by (repeat' (first | exact Below.refl _ _ | exact Below.refl _ _ | refine balloc ?_ _ | refine Below.drew ?_ | refine below_drewN ?_ _ | refine bset ?_ (by first | omega | (simp <;> omega)) _))) hb1
  clear hb1
  have l1 := K1.lt
  have p0_ := K1.cell 0
  have p1_ := K1.cell 1
  have p2_ := K1.cell 2
  have p3_ := K1.cell 3
  have p4_ := K1.cell 4
  have p5_ := K1.cell 5
  simp only [List.getElem?_toArray, List.getElem?_cons_succ, List.getElem?_cons_zero] at p0_ p1_ p2_ p3_ p4_ p5_
  go_wp2_with fail
  refine (HX.out _).mono ?_
  rintro e_ w2 ⟨rfl, rfl⟩
  go_wp2_with fail
  go_ret2
  exact ⟨rfl, hbw⟩


set_option maxHeartbeats 1600000 in
theorem Width_yes (A B C D E F v : Int) (w : World) (h : mayB A B C D E F = true) (hv : 0 ≤ v) (hx : fixB v = true) : Calls Try.prog 25 #[.agg #[.int .i64 A, .int .i64 B, .int .i64 C, .int .i64 D, .int .i64 E, .int .i64 F], .int .i64 v] w fun ed w' => ed = .returned (.tuple #[.int .i64 (okI (decide (wideV (A * D - B * C) v ≤ 2048)) (wideV (A * D - B * C) v)), .int .i64 (okE (decide (wideV (A * D - B * C) v ≤ 2048)))]) ∧ Below w.heap.size w w' := by
  obtain ⟨bA, bB, bC, bD, bE, bF⟩ := mayB_bd h
  have bv := fixB_bd hx
  have m1 := fix_mul bA bD
  have m2 := fix_mul bB bC
  have HA := Lib.hid (fun W => show Calls Try.prog 38 #[.agg #[.int .i64 A, .int .i64 B, .int .i64 C, .int .i64 D, .int .i64 E, .int .i64 F]] W fun ed w' => ed = .returned (.bool true) ∧ Below W.heap.size W w' by have := rmay_any A B C D E F W; rw [h] at this; exact this)
  have HX := Lib.hid (fun W => show Calls Try.prog 18 #[.int .i64 v] W fun ed w' => ed = .returned (.bool true) ∧ W = w' by have := rfix_any v W; rw [hx] at this; exact this)
  have HD := Lib.hid (fun W => rdet_any A B C D E F W h)
  have db : -2305843009213693952 ≤ (A * D - B * C) ∧ (A * D - B * C) ≤ 2305843009213693952 := by omega
  generalize (A * D - B * C) = d at *
  obtain ⟨k, hk⟩ : ∃ k : Nat, d.natAbs = k := ⟨_, rfl⟩
  have hk2 : k ≤ 2305843009213693952 := by omega
  have HF := Lib.hid (fun W => rfloor_any k W (by omega))
  have HAb := Lib.hid (fun W => show Calls Try.prog 55 #[.int .i64 d] W fun ed w' => ed = .returned (.int .u64 (k : Int)) ∧ W = w' by have := abs_any d W (by omega) (by omega); rw [size_abs, hk] at this; exact this)
  have hw : wideV d v = v * (isq k : Int) / 4294967296 := by unfold wideV; rw [hk]
  have hs : isq k < 2147483648 := by
    rcases Nat.lt_or_ge (isq k) 2147483648 with hl | hl
    · exact hl
    · have := isq_le.1 hl
      omega
  generalize isq k = s at *
  have hm : 0 ≤ v * (s : Int) ∧ v * (s : Int) ≤ 2305843009213693952 := by
    have := Int.mul_le_mul (show v ≤ 1073741824 by omega) (show (s : Int) ≤ 2147483648 by omega) (by omega) (by omega)
    exact ⟨Int.mul_nonneg hv (by omega), by omega⟩
  generalize hvs : v * (s : Int) = z at *
  obtain ⟨z0, z1⟩ := hm
  rw [hw]
  obtain ⟨r, hr⟩ : ∃ r, z / 4294967296 = r := ⟨_, rfl⟩
  have r0 : 0 ≤ r := by omega
  rw [hr]
  obtain ⟨bv0, bv1⟩ := bv
  have c1 : decide (v < 0) = false := by simp; omega
  clear hw h hx m1 m2 bA bB bC bD bE bF
  by_cases hc : r ≤ 2048
  · have c3 : decide (2048 < r) = false := by simp; omega
    rw [show decide (r ≤ 2048) = true by simp; omega]
    have K1 := Blk.new w 23 #[.int .i64 A, .int .i64 B, .int .i64 C, .int .i64 D, .int .i64 E, .int .i64 F]
    go_enter Try.func25, Try.ntmps25
    go_wp2_with fail
    refine (HA.out _).mono ?_
    rintro e_ w1 ⟨rfl, hb1⟩
    replace K1 := K1.below hb1 (by simp)
    have hbw : Below w.heap.size w w1 := btrans (by (repeat' (first | exact Below.refl _ _ | exact Below.refl _ _ | refine balloc ?_ _ | refine Below.drew ?_ | refine below_drewN ?_ _ | refine bset ?_ (by first | omega | (simp <;> omega)) _))) hb1
    clear hb1
    have p0_ := K1.cell 0
    have p1_ := K1.cell 1
    have p2_ := K1.cell 2
    have p3_ := K1.cell 3
    have p4_ := K1.cell 4
    have p5_ := K1.cell 5
    simp only [List.getElem?_toArray, List.getElem?_cons_succ, List.getElem?_cons_zero] at p0_ p1_ p2_ p3_ p4_ p5_
    go_wp2_with fail
    refine (HX.out _).mono ?_
    rintro e_ w2 ⟨rfl, rfl⟩
    go_wp2_with fail
    refine (HD.out _).mono ?_
    rintro e_ w3 ⟨rfl, hb1⟩
    replace hbw := btrans hbw hb1
    clear hb1 p0_ p1_ p2_ p3_ p4_ p5_ K1
    go_wp2_with fail
    refine (HAb.out _).mono ?_
    rintro e_ w4 ⟨rfl, rfl⟩
    go_wp2_with fail
    refine (HF.out _).mono ?_
    rintro e_ w5 ⟨rfl, rfl⟩
    go_wp2_with fail
    go_ret2
    exact ⟨rfl, hbw⟩
  · have c3 : decide (2048 < r) = true := by simp; omega
    rw [show decide (r ≤ 2048) = false by simp; omega]
    have K1 := Blk.new w 23 #[.int .i64 A, .int .i64 B, .int .i64 C, .int .i64 D, .int .i64 E, .int .i64 F]
    go_enter Try.func25, Try.ntmps25
    go_wp2_with fail
    refine (HA.out _).mono ?_
    rintro e_ w1 ⟨rfl, hb1⟩
    replace K1 := K1.below hb1 (by simp)
    have hbw : Below w.heap.size w w1 := btrans (by (repeat' (first | exact Below.refl _ _ | exact Below.refl _ _ | refine balloc ?_ _ | refine Below.drew ?_ | refine below_drewN ?_ _ | refine bset ?_ (by first | omega | (simp <;> omega)) _))) hb1
    clear hb1
    have p0_ := K1.cell 0
    have p1_ := K1.cell 1
    have p2_ := K1.cell 2
    have p3_ := K1.cell 3
    have p4_ := K1.cell 4
    have p5_ := K1.cell 5
    simp only [List.getElem?_toArray, List.getElem?_cons_succ, List.getElem?_cons_zero] at p0_ p1_ p2_ p3_ p4_ p5_
    go_wp2_with fail
    refine (HX.out _).mono ?_
    rintro e_ w2 ⟨rfl, rfl⟩
    go_wp2_with fail
    refine (HD.out _).mono ?_
    rintro e_ w3 ⟨rfl, hb1⟩
    replace hbw := btrans hbw hb1
    clear hb1 p0_ p1_ p2_ p3_ p4_ p5_ K1
    go_wp2_with fail
    refine (HAb.out _).mono ?_
    rintro e_ w4 ⟨rfl, rfl⟩
    go_wp2_with fail
    refine (HF.out _).mono ?_
    rintro e_ w5 ⟨rfl, rfl⟩
    go_wp2_with fail
    go_ret2
    exact ⟨rfl, hbw⟩

/-- Wide and the reference's Width return the same two numbers -/
theorem wide_both (A B C D E F v : Int) : ∃ s t : Int, (∀ W, Calls Try.prog 24 #[.agg #[.int .i64 A, .int .i64 B, .int .i64 C, .int .i64 D, .int .i64 E, .int .i64 F], .int .i64 v] W fun ed w' => ed = .returned (.tuple #[.int .i64 s, .int .i64 t]) ∧ Below W.heap.size W w') ∧ (∀ W, Calls Try.prog 25 #[.agg #[.int .i64 A, .int .i64 B, .int .i64 C, .int .i64 D, .int .i64 E, .int .i64 F], .int .i64 v] W fun ed w' => ed = .returned (.tuple #[.int .i64 s, .int .i64 t]) ∧ Below W.heap.size W w') := by
  cases h : mayB A B C D E F with
  | false => exact ⟨0, 1, fun W => Wide_no1 A B C D E F v W h, fun W => Width_no1 A B C D E F v W h⟩
  | true =>
    cases hx : fixB v with
    | false =>
      rcases Int.lt_or_le v 0 with hv | hv
      · exact ⟨0, 1, fun W => Wide_no2 A B C D E F v W h hv, fun W => Width_no2 A B C D E F v W h hx⟩
      · exact ⟨0, 1, fun W => Wide_no3 A B C D E F v W h hv hx, fun W => Width_no2 A B C D E F v W h hx⟩
    | true =>
      rcases Int.lt_or_le v 0 with hv | hv
      · exact ⟨0, 1, fun W => Wide_no2 A B C D E F v W h hv, fun W => Width_no3 A B C D E F v W h hv hx⟩
      · exact ⟨_, _, fun W => Wide_yes A B C D E F v W h hv hx, fun W => Width_yes A B C D E F v W h hv hx⟩

end Go.Proofs.Ytaephahcohdbpaa.mt
