/-
  Layer 24 in the seat of the images: Invert (the text of mat/XInvert).
-/
import Derived.Test.YtegpjjkbbdfggaaLawBack
namespace Go.Proofs.Ytegpjjkbbdfggaa.mt
set_option linter.unusedVariables false
set_option linter.unusedSimpArgs false
open Go.RowKit bs
/-- the array of results behind k rounds -/
def outS (q0 q1 q2 q3 q4 q5 : Int) : Nat → Array Value
  | 0 => #[.int .i64 0, .int .i64 0, .int .i64 0, .int .i64 0, .int .i64 0, .int .i64 0]
  | 1 => #[.int .i64 q0, .int .i64 0, .int .i64 0, .int .i64 0, .int .i64 0, .int .i64 0]
  | 2 => #[.int .i64 q0, .int .i64 q1, .int .i64 0, .int .i64 0, .int .i64 0, .int .i64 0]
  | 3 => #[.int .i64 q0, .int .i64 q1, .int .i64 q2, .int .i64 0, .int .i64 0, .int .i64 0]
  | 4 => #[.int .i64 q0, .int .i64 q1, .int .i64 q2, .int .i64 q3, .int .i64 0, .int .i64 0]
  | 5 => #[.int .i64 q0, .int .i64 q1, .int .i64 q2, .int .i64 q3, .int .i64 q4, .int .i64 0]
  | _ => #[.int .i64 q0, .int .i64 q1, .int .i64 q2, .int .i64 q3, .int .i64 q4, .int .i64 q5]
set_option maxRecDepth 100000 in
set_option maxHeartbeats 3200000 in
theorem Invert_yes (A B C D E F q0 q1 q2 q3 q4 q5 : Int) (w : World) (h : mayB A B C D E F = true) (hd : ¬ A * D - B * C = 0) (h0 : mulDiv D 4294967296 (A * D - B * C) = some q0) (g0 : fixB q0 = true) (h1 : mulDiv (-B) 4294967296 (A * D - B * C) = some q1) (g1 : fixB q1 = true) (h2 : mulDiv (-C) 4294967296 (A * D - B * C) = some q2) (g2 : fixB q2 = true) (h3 : mulDiv A 4294967296 (A * D - B * C) = some q3) (g3 : fixB q3 = true) (h4 : mulDiv (C * F - D * E) 65536 (A * D - B * C) = some q4) (g4 : fixB q4 = true) (h5 : mulDiv (B * E - A * F) 65536 (A * D - B * C) = some q5) (g5 : fixB q5 = true) : Calls Try.prog 43 #[.agg #[.int .i64 A, .int .i64 B, .int .i64 C, .int .i64 D, .int .i64 E, .int .i64 F]] w fun ed w' => ed = .returned (.tuple #[.agg #[.int .i64 q0, .int .i64 q1, .int .i64 q2, .int .i64 q3, .int .i64 q4, .int .i64 q5], .int .i64 0]) ∧ Below w.heap.size w w' := by
  obtain ⟨bA, bB, bC, bD, bE, bF⟩ := mayB_bd h
  have m1 := fix_mul bA bD
  have m2 := fix_mul bB bC
  have m3 := fix_mul bC bF
  have m4 := fix_mul bD bE
  have m5 := fix_mul bB bE
  have m6 := fix_mul bA bF
  have HA := Lib.hid (fun W => show Calls Try.prog 66 #[.agg #[.int .i64 A, .int .i64 B, .int .i64 C, .int .i64 D, .int .i64 E, .int .i64 F]] W fun ed w' => ed = .returned (.bool true) ∧ Below W.heap.size W w' by have := may_any A B C D E F W; rw [h] at this; exact this)
  have HD0 := fun W => det_any A B C D E F W h
  have db : -9223372036854775808 ≤ A * D - B * C ∧ A * D - B * C ≤ 9223372036854775807 := by omega
  generalize A * D - B * C = dt at *
  have c0 : (dt == 0) = false := by simp; omega
  have HD := Lib.hid HD0
  have M0 := fun W => show Calls Try.prog 69 #[.int .i64 D, .int .i64 4294967296, .int .i64 dt] W fun ed w' => ed = .returned (.tuple #[.int .i64 q0, .bool true]) ∧ Below W.heap.size W w' by have := mulDiv_any D 4294967296 dt W (by omega) (by omega) db; rw [h0] at this; exact this
  have M1 := fun W => show Calls Try.prog 69 #[.int .i64 (-B), .int .i64 4294967296, .int .i64 dt] W fun ed w' => ed = .returned (.tuple #[.int .i64 q1, .bool true]) ∧ Below W.heap.size W w' by have := mulDiv_any (-B) 4294967296 dt W (by omega) (by omega) db; rw [h1] at this; exact this
  have M2 := fun W => show Calls Try.prog 69 #[.int .i64 (-C), .int .i64 4294967296, .int .i64 dt] W fun ed w' => ed = .returned (.tuple #[.int .i64 q2, .bool true]) ∧ Below W.heap.size W w' by have := mulDiv_any (-C) 4294967296 dt W (by omega) (by omega) db; rw [h2] at this; exact this
  have M3 := fun W => show Calls Try.prog 69 #[.int .i64 A, .int .i64 4294967296, .int .i64 dt] W fun ed w' => ed = .returned (.tuple #[.int .i64 q3, .bool true]) ∧ Below W.heap.size W w' by have := mulDiv_any A 4294967296 dt W (by omega) (by omega) db; rw [h3] at this; exact this
  have M4 := fun W => show Calls Try.prog 69 #[.int .i64 (C * F - D * E), .int .i64 65536, .int .i64 dt] W fun ed w' => ed = .returned (.tuple #[.int .i64 q4, .bool true]) ∧ Below W.heap.size W w' by have := mulDiv_any (C * F - D * E) 65536 dt W (by omega) (by omega) db; rw [h4] at this; exact this
  have M5 := fun W => show Calls Try.prog 69 #[.int .i64 (B * E - A * F), .int .i64 65536, .int .i64 dt] W fun ed w' => ed = .returned (.tuple #[.int .i64 q5, .bool true]) ∧ Below W.heap.size W w' by have := mulDiv_any (B * E - A * F) 65536 dt W (by omega) (by omega) db; rw [h5] at this; exact this
  generalize hx3 : C * F = x3 at *
  generalize hx4 : D * E = x4 at *
  generalize hx5 : B * E = x5 at *
  generalize hx6 : A * F = x6 at *
  have HM0 := Lib.hid M0
  have HM1 := Lib.hid M1
  have HM2 := Lib.hid M2
  have HM3 := Lib.hid M3
  have HM4 := Lib.hid M4
  have HM5 := Lib.hid M5
  have HX0 := Lib.hid (fun W => show Calls Try.prog 83 #[.int .i64 q0] W fun ed w' => ed = .returned (.bool true) ∧ W = w' by have := fix_any q0 W; rw [g0] at this; exact this)
  have HX1 := Lib.hid (fun W => show Calls Try.prog 83 #[.int .i64 q1] W fun ed w' => ed = .returned (.bool true) ∧ W = w' by have := fix_any q1 W; rw [g1] at this; exact this)
  have HX2 := Lib.hid (fun W => show Calls Try.prog 83 #[.int .i64 q2] W fun ed w' => ed = .returned (.bool true) ∧ W = w' by have := fix_any q2 W; rw [g2] at this; exact this)
  have HX3 := Lib.hid (fun W => show Calls Try.prog 83 #[.int .i64 q3] W fun ed w' => ed = .returned (.bool true) ∧ W = w' by have := fix_any q3 W; rw [g3] at this; exact this)
  have HX4 := Lib.hid (fun W => show Calls Try.prog 83 #[.int .i64 q4] W fun ed w' => ed = .returned (.bool true) ∧ W = w' by have := fix_any q4 W; rw [g4] at this; exact this)
  have HX5 := Lib.hid (fun W => show Calls Try.prog 83 #[.int .i64 q5] W fun ed w' => ed = .returned (.bool true) ∧ W = w' by have := fix_any q5 W; rw [g5] at this; exact this)
  clear HD0 hd h db M0 h0 g0 M1 h1 g1 M2 h2 g2 M3 h3 g3 M4 h4 g4 M5 h5 g5 m1 m2
  obtain ⟨bA0, bA1⟩ := bA
  obtain ⟨bB0, bB1⟩ := bB
  obtain ⟨bC0, bC1⟩ := bC
  obtain ⟨bD0, bD1⟩ := bD
  obtain ⟨m30, m31⟩ := m3
  obtain ⟨m40, m41⟩ := m4
  obtain ⟨m50, m51⟩ := m5
  obtain ⟨m60, m61⟩ := m6
  clear bE bF
  obtain ⟨y4, hy4⟩ : ∃ y, x3 - x4 = y := ⟨_, rfl⟩
  obtain ⟨y5, hy5⟩ : ∃ y, x5 - x6 = y := ⟨_, rfl⟩
  rw [hy4] at HM4
  rw [hy5] at HM5
  have J0 := ix0 D (-B) (-C) A y4 y5
  have J1 := ix1 D (-B) (-C) A y4 y5
  have J2 := ix2 D (-B) (-C) A y4 y5
  have J3 := ix3 D (-B) (-C) A y4 y5
  have J4 := ix4 D (-B) (-C) A y4 y5
  have J5 := ix5 D (-B) (-C) A y4 y5
  have K1 := (Blk.new w 25 #[.int .i64 A, .int .i64 B, .int .i64 C, .int .i64 D, .int .i64 E, .int .i64 F]).alloc (.cells #[.int .i64 0, .int .i64 0, .int .i64 0, .int .i64 0, .int .i64 0, .int .i64 0] 25)
  have K2 := Blk.new (w.alloc (.cells #[.int .i64 A, .int .i64 B, .int .i64 C, .int .i64 D, .int .i64 E, .int .i64 F] 25)) 25 #[.int .i64 0, .int .i64 0, .int .i64 0, .int .i64 0, .int .i64 0, .int .i64 0]
  have s1 : (w.alloc (.cells #[.int .i64 A, .int .i64 B, .int .i64 C, .int .i64 D, .int .i64 E, .int .i64 F] 25)).heap.size = w.heap.size + 1 := by simp
  rw [s1] at K2
  clear s1
  go_enter Try.func43, Try.ntmps43
  go_wp2_with fail
  refine (HA.out _).mono ?_
  rintro e_ w1 ⟨rfl, hb1⟩
  replace K1 := K1.below hb1 (by simp; omega)
  replace K2 := K2.below hb1 (by simp)
  have hbw : Below w.heap.size w w1 := btrans (by (repeat' (first | exact Below.refl _ _ | exact Below.refl _ _ | refine balloc ?_ _ | refine Below.drew ?_ | refine below_drewN ?_ _ | refine bset ?_ (by first | omega | (simp <;> omega)) _))) hb1
  have p0 := K1.cell 0
  have p1 := K1.cell 1
  have p2 := K1.cell 2
  have p3 := K1.cell 3
  have p4 := K1.cell 4
  have p5 := K1.cell 5
  simp only [List.getElem?_toArray, List.getElem?_cons_succ, List.getElem?_cons_zero] at p0 p1 p2 p3 p4 p5
  have l1 := K1.lt
  have l2 := K2.lt
  clear hb1
  go_wp2_with fail
  refine (HD.out _).mono ?_
  rintro e_ w2 ⟨rfl, hb1⟩
  replace K1 := K1.below hb1 l1
  replace K2 := K2.below hb1 l2
  replace hbw := btrans hbw hb1
  clear hb1 l1 l2 p0 p1 p2 p3 p4 p5
  have p0 := K1.cell 0
  have p1 := K1.cell 1
  have p2 := K1.cell 2
  have p3 := K1.cell 3
  have p4 := K1.cell 4
  have p5 := K1.cell 5
  simp only [List.getElem?_toArray, List.getElem?_cons_succ, List.getElem?_cons_zero] at p0 p1 p2 p3 p4 p5
  have Ko := Blk.new (w2.alloc (.cells #[.int .i64 D, .int .i64 (-B), .int .i64 (-C), .int .i64 A, .int .i64 y4, .int .i64 y5] 34)) 34 #[.int .i64 0, .int .i64 0, .int .i64 0, .int .i64 0, .int .i64 0, .int .i64 0]
  have s1 : (w2.alloc (.cells #[.int .i64 D, .int .i64 (-B), .int .i64 (-C), .int .i64 A, .int .i64 y4, .int .i64 y5] 34)).heap.size = w2.heap.size + 1 := by simp
  rw [s1] at Ko
  have hlt0 := K2.lt
  replace K2 := (K2.alloc (.cells #[.int .i64 D, .int .i64 (-B), .int .i64 (-C), .int .i64 A, .int .i64 y4, .int .i64 y5] 34)).alloc (.cells #[.int .i64 0, .int .i64 0, .int .i64 0, .int .i64 0, .int .i64 0, .int .i64 0] 34)
  have hb2 : Below w.heap.size w ((w2.alloc (.cells #[.int .i64 D, .int .i64 (-B), .int .i64 (-C), .int .i64 A, .int .i64 y4, .int .i64 y5] 34)).alloc (.cells #[.int .i64 0, .int .i64 0, .int .i64 0, .int .i64 0, .int .i64 0, .int .i64 0] 34)) := by (repeat' (first | exact hbw | exact Below.refl _ _ | refine balloc ?_ _ | refine Below.drew ?_ | refine below_drewN ?_ _ | refine bset ?_ (by first | omega | (simp <;> omega)) _))
  have hlt : w.heap.size + 2 ≤ w2.heap.size + 1 := by omega
  have HK2 := Lib.hid K2
  have HKo := Lib.hid Ko
  have HB2 := Lib.hid hb2
  clear K1 K2 Ko hb2 hbw s1
  go_wp2_with fail
  go_loopw [7, 8, 9, 10, 11, 55] (fun x y z t u c wr => ∃ k : Nat, k ≤ 6 ∧ c = .int .i64 k ∧ Blk wr (w2.heap.size + 1) 34 (outS q0 q1 q2 q3 q4 q5 k) ∧ Blk wr (w.heap.size + 1) 25 #[.int .i64 0, .int .i64 0, .int .i64 0, .int .i64 0, .int .i64 0, .int .i64 0] ∧ Below w.heap.size w wr) (fun _ _ _ _ _ c _ => 6 - (intOf c).toNat)
  case atStart => exact ⟨0, by omega, rfl, HKo.out, HK2.out, HB2.out⟩
  case round =>
    obtain ⟨k, hk, rfl, Ka, Kr, hbw⟩ := hrel
    rcases (show k = 0 ∨ k = 1 ∨ k = 2 ∨ k = 3 ∨ k = 4 ∨ k = 5 ∨ k = 6 by omega) with h | h | h | h | h | h | h <;> subst h
    · have lA := Ka.lt
      have lR := Kr.lt
      go_wp2_with fail
      refine (HM0.out _).mono ?_
      rintro e_ w3 ⟨rfl, hb3⟩
      replace Ka := Ka.below hb3 lA
      replace Kr := Kr.below hb3 lR
      replace hbw := btrans hbw hb3
      have c1 := Ka.cell 0
      have f1 := Ka.frozen 0
      simp only [outS, List.getElem?_toArray, List.getElem?_cons_succ, List.getElem?_cons_zero] at c1
      have HN := Lib.hid (Ka.set_ 0 (.int .i64 q0))
      have HR := Lib.hid (Kr.far (p := ⟨w2.heap.size + 1, 0, none⟩) (by show w.heap.size + 1 ≠ w2.heap.size + 1; omega) (.int .i64 q0))
      have HB3 := Lib.hid hbw
      clear Ka Kr hbw hb3 lA lR
      go_wp2_with fail
      refine (HX0.out _).mono ?_
      rintro e_ w_ ⟨rfl, rfl⟩
      go_wp2_with fail
      go_roundw
      case rel => exact ⟨1, by omega, rfl, HN.out, HR.out, bset HB3.out (by show w.heap.size ≤ w2.heap.size + 1; omega) _⟩
      case measure => simp [intOf]
    · have lA := Ka.lt
      have lR := Kr.lt
      go_wp2_with fail
      refine (HM1.out _).mono ?_
      rintro e_ w3 ⟨rfl, hb3⟩
      replace Ka := Ka.below hb3 lA
      replace Kr := Kr.below hb3 lR
      replace hbw := btrans hbw hb3
      have c1 := Ka.cell 1
      have f1 := Ka.frozen 1
      simp only [outS, List.getElem?_toArray, List.getElem?_cons_succ, List.getElem?_cons_zero] at c1
      have HN := Lib.hid (Ka.set_ 1 (.int .i64 q1))
      have HR := Lib.hid (Kr.far (p := ⟨w2.heap.size + 1, 1, none⟩) (by show w.heap.size + 1 ≠ w2.heap.size + 1; omega) (.int .i64 q1))
      have HB3 := Lib.hid hbw
      clear Ka Kr hbw hb3 lA lR
      go_wp2_with fail
      refine (HX1.out _).mono ?_
      rintro e_ w_ ⟨rfl, rfl⟩
      go_wp2_with fail
      go_roundw
      case rel => exact ⟨2, by omega, rfl, HN.out, HR.out, bset HB3.out (by show w.heap.size ≤ w2.heap.size + 1; omega) _⟩
      case measure => simp [intOf]
    · have lA := Ka.lt
      have lR := Kr.lt
      go_wp2_with fail
      refine (HM2.out _).mono ?_
      rintro e_ w3 ⟨rfl, hb3⟩
      replace Ka := Ka.below hb3 lA
      replace Kr := Kr.below hb3 lR
      replace hbw := btrans hbw hb3
      have c1 := Ka.cell 2
      have f1 := Ka.frozen 2
      simp only [outS, List.getElem?_toArray, List.getElem?_cons_succ, List.getElem?_cons_zero] at c1
      have HN := Lib.hid (Ka.set_ 2 (.int .i64 q2))
      have HR := Lib.hid (Kr.far (p := ⟨w2.heap.size + 1, 2, none⟩) (by show w.heap.size + 1 ≠ w2.heap.size + 1; omega) (.int .i64 q2))
      have HB3 := Lib.hid hbw
      clear Ka Kr hbw hb3 lA lR
      go_wp2_with fail
      refine (HX2.out _).mono ?_
      rintro e_ w_ ⟨rfl, rfl⟩
      go_wp2_with fail
      go_roundw
      case rel => exact ⟨3, by omega, rfl, HN.out, HR.out, bset HB3.out (by show w.heap.size ≤ w2.heap.size + 1; omega) _⟩
      case measure => simp [intOf]
    · have lA := Ka.lt
      have lR := Kr.lt
      go_wp2_with fail
      refine (HM3.out _).mono ?_
      rintro e_ w3 ⟨rfl, hb3⟩
      replace Ka := Ka.below hb3 lA
      replace Kr := Kr.below hb3 lR
      replace hbw := btrans hbw hb3
      have c1 := Ka.cell 3
      have f1 := Ka.frozen 3
      simp only [outS, List.getElem?_toArray, List.getElem?_cons_succ, List.getElem?_cons_zero] at c1
      have HN := Lib.hid (Ka.set_ 3 (.int .i64 q3))
      have HR := Lib.hid (Kr.far (p := ⟨w2.heap.size + 1, 3, none⟩) (by show w.heap.size + 1 ≠ w2.heap.size + 1; omega) (.int .i64 q3))
      have HB3 := Lib.hid hbw
      clear Ka Kr hbw hb3 lA lR
      go_wp2_with fail
      refine (HX3.out _).mono ?_
      rintro e_ w_ ⟨rfl, rfl⟩
      go_wp2_with fail
      go_roundw
      case rel => exact ⟨4, by omega, rfl, HN.out, HR.out, bset HB3.out (by show w.heap.size ≤ w2.heap.size + 1; omega) _⟩
      case measure => simp [intOf]
    · have lA := Ka.lt
      have lR := Kr.lt
      go_wp2_with fail
      refine (HM4.out _).mono ?_
      rintro e_ w3 ⟨rfl, hb3⟩
      replace Ka := Ka.below hb3 lA
      replace Kr := Kr.below hb3 lR
      replace hbw := btrans hbw hb3
      have c1 := Ka.cell 4
      have f1 := Ka.frozen 4
      simp only [outS, List.getElem?_toArray, List.getElem?_cons_succ, List.getElem?_cons_zero] at c1
      have HN := Lib.hid (Ka.set_ 4 (.int .i64 q4))
      have HR := Lib.hid (Kr.far (p := ⟨w2.heap.size + 1, 4, none⟩) (by show w.heap.size + 1 ≠ w2.heap.size + 1; omega) (.int .i64 q4))
      have HB3 := Lib.hid hbw
      clear Ka Kr hbw hb3 lA lR
      go_wp2_with fail
      refine (HX4.out _).mono ?_
      rintro e_ w_ ⟨rfl, rfl⟩
      go_wp2_with fail
      go_roundw
      case rel => exact ⟨5, by omega, rfl, HN.out, HR.out, bset HB3.out (by show w.heap.size ≤ w2.heap.size + 1; omega) _⟩
      case measure => simp [intOf]
    · have lA := Ka.lt
      have lR := Kr.lt
      go_wp2_with fail
      refine (HM5.out _).mono ?_
      rintro e_ w3 ⟨rfl, hb3⟩
      replace Ka := Ka.below hb3 lA
      replace Kr := Kr.below hb3 lR
      replace hbw := btrans hbw hb3
      have c1 := Ka.cell 5
      have f1 := Ka.frozen 5
      simp only [outS, List.getElem?_toArray, List.getElem?_cons_succ, List.getElem?_cons_zero] at c1
      have HN := Lib.hid (Ka.set_ 5 (.int .i64 q5))
      have HR := Lib.hid (Kr.far (p := ⟨w2.heap.size + 1, 5, none⟩) (by show w.heap.size + 1 ≠ w2.heap.size + 1; omega) (.int .i64 q5))
      have HB3 := Lib.hid hbw
      clear Ka Kr hbw hb3 lA lR
      go_wp2_with fail
      refine (HX5.out _).mono ?_
      rintro e_ w_ ⟨rfl, rfl⟩
      go_wp2_with fail
      go_roundw
      case rel => exact ⟨6, by omega, rfl, HN.out, HR.out, bset HB3.out (by show w.heap.size ≤ w2.heap.size + 1; omega) _⟩
      case measure => simp [intOf]
    · replace Ka : Blk wr (w2.heap.size + 1) 34 #[.int .i64 q0, .int .i64 q1, .int .i64 q2, .int .i64 q3, .int .i64 q4, .int .i64 q5] := Ka
      have p0_ := Ka.cell 0
      have q0_ := Kr.cell 0
      have f0_ := Kr.frozen 0
      have p1_ := Ka.cell 1
      have q1_ := Kr.cell 1
      have f1_ := Kr.frozen 1
      have p2_ := Ka.cell 2
      have q2_ := Kr.cell 2
      have f2_ := Kr.frozen 2
      have p3_ := Ka.cell 3
      have q3_ := Kr.cell 3
      have f3_ := Kr.frozen 3
      have p4_ := Ka.cell 4
      have q4_ := Kr.cell 4
      have f4_ := Kr.frozen 4
      have p5_ := Ka.cell 5
      have q5_ := Kr.cell 5
      have f5_ := Kr.frozen 5
      simp only [List.getElem?_toArray, List.getElem?_cons_succ, List.getElem?_cons_zero] at p0_ q0_ p1_ q1_ p2_ q2_ p3_ q3_ p4_ q4_ p5_ q5_
      have HK := Lib.hid Kr
      have HBW := Lib.hid hbw
      clear Ka Kr hbw
      go_wp2_with fail
      have K := (((((HK.out.set_ 0 (.int .i64 q0)).set_ 1 (.int .i64 q1)).set_ 2 (.int .i64 q2)).set_ 3 (.int .i64 q3)).set_ 4 (.int .i64 q4)).set_ 5 (.int .i64 q5)
      refine ret_struct2 (g := w.heap.size + 1) (t := 25) (cs := #[.int .i64 q0, .int .i64 q1, .int .i64 q2, .int .i64 q3, .int .i64 q4, .int .i64 q5]) rfl rfl ?_ Try.underlying25 rfl rfl rfl ?_
      · exact K
      · exact ⟨rfl, by (repeat' (first | refine bset ?_ (by first | omega | (simp <;> omega)) _ | refine balloc ?_ _ | refine Below.drew ?_ | refine below_drewN ?_ _ | exact HBW.out | exact Below.refl _ _))⟩
end Go.Proofs.Ytegpjjkbbdfggaa.mt
