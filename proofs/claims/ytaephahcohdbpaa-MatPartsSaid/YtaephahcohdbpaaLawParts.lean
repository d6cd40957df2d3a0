/-
  MatParts: a way does not hang on where the matrix moves to.
-/
import Derived.Test.YtaephahcohdbpaaExact
namespace Go.Proofs.Ytaephahcohdbpaa.mt
set_option linter.unusedVariables false
set_option linter.unusedSimpArgs false
open Go.RowKit bs

set_option maxRecDepth 100000 in
set_option maxHeartbeats 3200000 in
theorem mparts_no (A B C D E F x y e f : Int) (w : World) (h : mayB A B C D E F = false) : Calls Try.prog 9 #[.agg #[.int .i64 A, .int .i64 B, .int .i64 C, .int .i64 D, .int .i64 E, .int .i64 F], .int .i64 x, .int .i64 y, .int .i64 e, .int .i64 f] w fun ed w' => ed = .returned (.bool true) ∧ Below w.heap.size w w' := by
  have HMay := Lib.hid (fun W => show Calls Try.prog 30 #[.agg #[.int .i64 A, .int .i64 B, .int .i64 C, .int .i64 D, .int .i64 E, .int .i64 F]] W fun ed w' => ed = .returned (.bool false) ∧ Below W.heap.size W w' by have := may_any A B C D E F W; rw [h] at this; exact this)
  have HRef := Lib.hid (fun W => show Calls Try.prog 38 #[.agg #[.int .i64 A, .int .i64 B, .int .i64 C, .int .i64 D, .int .i64 E, .int .i64 F]] W fun ed w' => ed = .returned (.bool false) ∧ Below W.heap.size W w' by have := rmay_any A B C D E F W; rw [h] at this; exact this)
  go_enter Try.func9, Try.ntmps9
  go_wp2_with fail
  refine (known_any _).mono ?_
  rintro e_ w1 ⟨rfl, hb1⟩
  have K0 := (Blk.new w 23 #[.int .i64 A, .int .i64 B, .int .i64 C, .int .i64 D, .int .i64 E, .int .i64 F]).below hb1 (by simp)
  have hbw : Below w.heap.size w w1 := btrans (by (repeat' (first | exact Below.refl _ _ | exact Below.refl _ _ | refine balloc ?_ _ | refine Below.drew ?_ | refine below_drewN ?_ _ | refine bset ?_ (by first | omega | (simp <;> omega)) _))) hb1
  clear hb1
  have lK0 := K0.lt
  have cK00 := K0.cell 0
  have cK01 := K0.cell 1
  have cK02 := K0.cell 2
  have cK03 := K0.cell 3
  have cK04 := K0.cell 4
  have cK05 := K0.cell 5
  simp only [List.getElem?_toArray, List.getElem?_cons_succ, List.getElem?_cons_zero] at cK00 cK01 cK02 cK03 cK04 cK05
  go_wp2_with fail
  refine (HMay.out _).mono ?_
  rintro e_ w2 ⟨rfl, hb2⟩
  replace K0 := K0.below hb2 (by first | exact lK0 | (have := lK0; simp; omega))
  replace hbw : Below w.heap.size w w2 := btrans (by (repeat' (first | refine bset ?_ (by first | omega | (simp <;> omega)) _ | refine balloc ?_ _ | refine Below.drew ?_ | refine below_drewN ?_ _ | exact hbw | exact Below.refl _ _))) hb2
  clear hb2 lK0 cK00 cK01 cK02 cK03 cK04 cK05
  have lK0 := K0.lt
  have cK00 := K0.cell 0
  have cK01 := K0.cell 1
  have cK02 := K0.cell 2
  have cK03 := K0.cell 3
  have cK04 := K0.cell 4
  have cK05 := K0.cell 5
  simp only [List.getElem?_toArray, List.getElem?_cons_succ, List.getElem?_cons_zero] at cK00 cK01 cK02 cK03 cK04 cK05
  go_wp2_with fail
  refine (HRef.out _).mono ?_
  rintro e_ w3 ⟨rfl, hb3⟩
  replace K0 := K0.below hb3 (by first | exact lK0 | (have := lK0; simp; omega))
  replace hbw : Below w.heap.size w w3 := btrans (by (repeat' (first | refine bset ?_ (by first | omega | (simp <;> omega)) _ | refine balloc ?_ _ | refine Below.drew ?_ | refine below_drewN ?_ _ | exact hbw | exact Below.refl _ _))) hb3
  clear hb3 lK0 cK00 cK01 cK02 cK03 cK04 cK05
  have lK0 := K0.lt
  have cK00 := K0.cell 0
  have cK01 := K0.cell 1
  have cK02 := K0.cell 2
  have cK03 := K0.cell 3
  have cK04 := K0.cell 4
  have cK05 := K0.cell 5
  simp only [List.getElem?_toArray, List.getElem?_cons_succ, List.getElem?_cons_zero] at cK00 cK01 cK02 cK03 cK04 cK05
  go_wp2_with fail
  go_ret
  exact ⟨rfl, hbw⟩

set_option maxRecDepth 100000 in
set_option maxHeartbeats 3200000 in
theorem parts_a (A B C D E F x y e f p q u1 u2 u3 a1 a2 : Int) (w : World) (h : mayB A B C D E F = true) (hp : e % 536870911 - 268435455 = p) (hq : f % 536870911 - 268435455 = q)
    (hV : ∀ E F, mayB A B C D E F = true → ∀ W, Calls Try.prog 36 #[.agg #[.int .i64 A, .int .i64 B, .int .i64 C, .int .i64 D, .int .i64 E, .int .i64 F], .int .i64 x, .int .i64 y] W fun ed w' => ed = .returned (.tuple #[.int .i64 u1, .int .i64 u2, .int .i64 u3]) ∧ Below W.heap.size W w')
    (hA : ∀ E F, mayB A B C D E F = true → ∀ W, Calls Try.prog 39 #[.agg #[.int .i64 A, .int .i64 B, .int .i64 C, .int .i64 D, .int .i64 E, .int .i64 F], .int .i64 x, .int .i64 y] W fun ed w' => ed = .returned (.tuple #[.int .i64 a1, .int .i64 a2, .int .i64 1]) ∧ Below W.heap.size W w')
    (hM : ∀ W, Calls Try.prog 37 #[.agg #[.int .i64 A, .int .i64 B, .int .i64 C, .int .i64 D, .int .i64 p, .int .i64 q], .int .i64 x, .int .i64 y] W fun ed w' => ed = .returned (.tuple #[.int .i64 0, .int .i64 0, .int .i64 1]) ∧ Below W.heap.size W w')  : Calls Try.prog 9 #[.agg #[.int .i64 A, .int .i64 B, .int .i64 C, .int .i64 D, .int .i64 E, .int .i64 F], .int .i64 x, .int .i64 y, .int .i64 e, .int .i64 f] w fun ed w' => ed = .returned (.bool true) ∧ Below w.heap.size w w' := by
  have bp : -268435455 ≤ p ∧ p ≤ 268435455 := by omega
  have bq : -268435455 ≤ q ∧ q ≤ 268435455 := by omega
  obtain ⟨bA, bB, bC, bD, _, _⟩ := mayB_bd h
  have h2 : mayB A B C D p q = true := mayB_true bA bB bC bD (by omega) (by omega)
  have HV1 := Lib.hid (hV E F h)
  have HV2 := Lib.hid (hV p q h2)
  have HA1 := Lib.hid (hA E F h)
  have HA2 := Lib.hid (hA p q h2)
  have HM := Lib.hid hM
  have HFe := Lib.hid (fun W => fixed_any e W)
  have HFf := Lib.hid (fun W => fixed_any f W)
  rw [hp] at HFe
  rw [hq] at HFf
  clear hV hA hM hp hq h2 bA bB bC bD
  have HMay := Lib.hid (fun W => show Calls Try.prog 30 #[.agg #[.int .i64 A, .int .i64 B, .int .i64 C, .int .i64 D, .int .i64 E, .int .i64 F]] W fun ed w' => ed = .returned (.bool true) ∧ Below W.heap.size W w' by have := may_any A B C D E F W; rw [h] at this; exact this)
  clear h
  go_enter Try.func9, Try.ntmps9
  go_wp2_with fail
  refine (known_any _).mono ?_
  rintro e_ w1 ⟨rfl, hb1⟩
  have K0 := (Blk.new w 23 #[.int .i64 A, .int .i64 B, .int .i64 C, .int .i64 D, .int .i64 E, .int .i64 F]).below hb1 (by simp)
  have hbw : Below w.heap.size w w1 := btrans (by (repeat' (first | exact Below.refl _ _ | exact Below.refl _ _ | refine balloc ?_ _ | refine Below.drew ?_ | refine below_drewN ?_ _ | refine bset ?_ (by first | omega | (simp <;> omega)) _))) hb1
  clear hb1
  have lK0 := K0.lt
  have cK00 := K0.cell 0
  have cK01 := K0.cell 1
  have cK02 := K0.cell 2
  have cK03 := K0.cell 3
  have cK04 := K0.cell 4
  have cK05 := K0.cell 5
  simp only [List.getElem?_toArray, List.getElem?_cons_succ, List.getElem?_cons_zero] at cK00 cK01 cK02 cK03 cK04 cK05
  go_wp2_with fail
  refine (HMay.out _).mono ?_
  rintro e_ w2 ⟨rfl, hb2⟩
  replace K0 := K0.below hb2 (by first | exact lK0 | (have := lK0; simp; omega))
  replace hbw : Below w.heap.size w w2 := btrans (by (repeat' (first | refine bset ?_ (by first | omega | (simp <;> omega)) _ | refine balloc ?_ _ | refine Below.drew ?_ | refine below_drewN ?_ _ | exact hbw | exact Below.refl _ _))) hb2
  clear hb2 lK0 cK00 cK01 cK02 cK03 cK04 cK05
  have lK0 := K0.lt
  have cK00 := K0.cell 0
  have cK01 := K0.cell 1
  have cK02 := K0.cell 2
  have cK03 := K0.cell 3
  have cK04 := K0.cell 4
  have cK05 := K0.cell 5
  simp only [List.getElem?_toArray, List.getElem?_cons_succ, List.getElem?_cons_zero] at cK00 cK01 cK02 cK03 cK04 cK05
  go_wp2_with fail
  refine (HFe.out _).mono ?_
  rintro e_ w_ ⟨rfl, rfl⟩
  go_wp2_with fail
  refine (HFf.out _).mono ?_
  rintro e_ w_ ⟨rfl, rfl⟩
  go_wp2_with fail
  refine (HV1.out _).mono ?_
  rintro e_ w3 ⟨rfl, hb3⟩
  replace K0 := (K0.alloc (.cells #[.int .i64 A, .int .i64 B, .int .i64 C, .int .i64 D, .int .i64 p, .int .i64 q] 23)).below hb3 (by first | exact lK0 | (have := lK0; simp; omega))
  have Kn := (Blk.new w2 23 #[.int .i64 A, .int .i64 B, .int .i64 C, .int .i64 D, .int .i64 p, .int .i64 q]).below hb3 (by simp)
  replace hbw : Below w.heap.size w w3 := btrans (by (repeat' (first | refine bset ?_ (by first | omega | (simp <;> omega)) _ | refine balloc ?_ _ | refine Below.drew ?_ | refine below_drewN ?_ _ | exact hbw | exact Below.refl _ _))) hb3
  clear hb3 lK0 cK00 cK01 cK02 cK03 cK04 cK05
  have lK0 := K0.lt
  have cK00 := K0.cell 0
  have cK01 := K0.cell 1
  have cK02 := K0.cell 2
  have cK03 := K0.cell 3
  have cK04 := K0.cell 4
  have cK05 := K0.cell 5
  have lKn := Kn.lt
  have cKn0 := Kn.cell 0
  have cKn1 := Kn.cell 1
  have cKn2 := Kn.cell 2
  have cKn3 := Kn.cell 3
  have cKn4 := Kn.cell 4
  have cKn5 := Kn.cell 5
  simp only [List.getElem?_toArray, List.getElem?_cons_succ, List.getElem?_cons_zero] at cK00 cK01 cK02 cK03 cK04 cK05 cKn0 cKn1 cKn2 cKn3 cKn4 cKn5
  go_wp2_with fail
  refine (HV2.out _).mono ?_
  rintro e_ w4 ⟨rfl, hb4⟩
  replace K0 := K0.below hb4 (by first | exact lK0 | (have := lK0; simp; omega))
  replace Kn := Kn.below hb4 (by first | exact lKn | (have := lKn; simp; omega))
  replace hbw : Below w.heap.size w w4 := btrans (by (repeat' (first | refine bset ?_ (by first | omega | (simp <;> omega)) _ | refine balloc ?_ _ | refine Below.drew ?_ | refine below_drewN ?_ _ | exact hbw | exact Below.refl _ _))) hb4
  clear hb4 lK0 cK00 cK01 cK02 cK03 cK04 cK05 lKn cKn0 cKn1 cKn2 cKn3 cKn4 cKn5
  have lK0 := K0.lt
  have cK00 := K0.cell 0
  have cK01 := K0.cell 1
  have cK02 := K0.cell 2
  have cK03 := K0.cell 3
  have cK04 := K0.cell 4
  have cK05 := K0.cell 5
  have lKn := Kn.lt
  have cKn0 := Kn.cell 0
  have cKn1 := Kn.cell 1
  have cKn2 := Kn.cell 2
  have cKn3 := Kn.cell 3
  have cKn4 := Kn.cell 4
  have cKn5 := Kn.cell 5
  simp only [List.getElem?_toArray, List.getElem?_cons_succ, List.getElem?_cons_zero] at cK00 cK01 cK02 cK03 cK04 cK05 cKn0 cKn1 cKn2 cKn3 cKn4 cKn5
  go_wp2_with fail
  refine (HA1.out _).mono ?_
  rintro e_ w5 ⟨rfl, hb5⟩
  replace K0 := K0.below hb5 (by first | exact lK0 | (have := lK0; simp; omega))
  replace Kn := Kn.below hb5 (by first | exact lKn | (have := lKn; simp; omega))
  replace hbw : Below w.heap.size w w5 := btrans (by (repeat' (first | refine bset ?_ (by first | omega | (simp <;> omega)) _ | refine balloc ?_ _ | refine Below.drew ?_ | refine below_drewN ?_ _ | exact hbw | exact Below.refl _ _))) hb5
  clear hb5 lK0 cK00 cK01 cK02 cK03 cK04 cK05 lKn cKn0 cKn1 cKn2 cKn3 cKn4 cKn5
  have lK0 := K0.lt
  have cK00 := K0.cell 0
  have cK01 := K0.cell 1
  have cK02 := K0.cell 2
  have cK03 := K0.cell 3
  have cK04 := K0.cell 4
  have cK05 := K0.cell 5
  have lKn := Kn.lt
  have cKn0 := Kn.cell 0
  have cKn1 := Kn.cell 1
  have cKn2 := Kn.cell 2
  have cKn3 := Kn.cell 3
  have cKn4 := Kn.cell 4
  have cKn5 := Kn.cell 5
  simp only [List.getElem?_toArray, List.getElem?_cons_succ, List.getElem?_cons_zero] at cK00 cK01 cK02 cK03 cK04 cK05 cKn0 cKn1 cKn2 cKn3 cKn4 cKn5
  go_wp2_with fail
  refine (HA2.out _).mono ?_
  rintro e_ w6 ⟨rfl, hb6⟩
  replace K0 := K0.below hb6 (by first | exact lK0 | (have := lK0; simp; omega))
  replace Kn := Kn.below hb6 (by first | exact lKn | (have := lKn; simp; omega))
  replace hbw : Below w.heap.size w w6 := btrans (by (repeat' (first | refine bset ?_ (by first | omega | (simp <;> omega)) _ | refine balloc ?_ _ | refine Below.drew ?_ | refine below_drewN ?_ _ | exact hbw | exact Below.refl _ _))) hb6
  clear hb6 lK0 cK00 cK01 cK02 cK03 cK04 cK05 lKn cKn0 cKn1 cKn2 cKn3 cKn4 cKn5
  have lK0 := K0.lt
  have cK00 := K0.cell 0
  have cK01 := K0.cell 1
  have cK02 := K0.cell 2
  have cK03 := K0.cell 3
  have cK04 := K0.cell 4
  have cK05 := K0.cell 5
  have lKn := Kn.lt
  have cKn0 := Kn.cell 0
  have cKn1 := Kn.cell 1
  have cKn2 := Kn.cell 2
  have cKn3 := Kn.cell 3
  have cKn4 := Kn.cell 4
  have cKn5 := Kn.cell 5
  simp only [List.getElem?_toArray, List.getElem?_cons_succ, List.getElem?_cons_zero] at cK00 cK01 cK02 cK03 cK04 cK05 cKn0 cKn1 cKn2 cKn3 cKn4 cKn5
  go_wp2_with fail
  refine (HM.out _).mono ?_
  rintro e_ w7 ⟨rfl, hb7⟩
  replace K0 := K0.below hb7 (by first | exact lK0 | (have := lK0; simp; omega))
  replace Kn := Kn.below hb7 (by first | exact lKn | (have := lKn; simp; omega))
  replace hbw : Below w.heap.size w w7 := btrans (by (repeat' (first | refine bset ?_ (by first | omega | (simp <;> omega)) _ | refine balloc ?_ _ | refine Below.drew ?_ | refine below_drewN ?_ _ | exact hbw | exact Below.refl _ _))) hb7
  clear hb7 lK0 cK00 cK01 cK02 cK03 cK04 cK05 lKn cKn0 cKn1 cKn2 cKn3 cKn4 cKn5
  have lK0 := K0.lt
  have cK00 := K0.cell 0
  have cK01 := K0.cell 1
  have cK02 := K0.cell 2
  have cK03 := K0.cell 3
  have cK04 := K0.cell 4
  have cK05 := K0.cell 5
  have lKn := Kn.lt
  have cKn0 := Kn.cell 0
  have cKn1 := Kn.cell 1
  have cKn2 := Kn.cell 2
  have cKn3 := Kn.cell 3
  have cKn4 := Kn.cell 4
  have cKn5 := Kn.cell 5
  simp only [List.getElem?_toArray, List.getElem?_cons_succ, List.getElem?_cons_zero] at cK00 cK01 cK02 cK03 cK04 cK05 cKn0 cKn1 cKn2 cKn3 cKn4 cKn5
  go_wp2_with fail
  go_ret
  exact ⟨rfl, hbw⟩

set_option maxRecDepth 100000 in
set_option maxHeartbeats 3200000 in
theorem parts_b (A B C D E F x y e f p q u1 u2 u3 a1 a2 a3 : Int) (w : World) (h : mayB A B C D E F = true) (hp : e % 536870911 - 268435455 = p) (hq : f % 536870911 - 268435455 = q)
    (hV : ∀ E F, mayB A B C D E F = true → ∀ W, Calls Try.prog 36 #[.agg #[.int .i64 A, .int .i64 B, .int .i64 C, .int .i64 D, .int .i64 E, .int .i64 F], .int .i64 x, .int .i64 y] W fun ed w' => ed = .returned (.tuple #[.int .i64 u1, .int .i64 u2, .int .i64 u3]) ∧ Below W.heap.size W w')
    (hA : ∀ E F, mayB A B C D E F = true → ∀ W, Calls Try.prog 39 #[.agg #[.int .i64 A, .int .i64 B, .int .i64 C, .int .i64 D, .int .i64 E, .int .i64 F], .int .i64 x, .int .i64 y] W fun ed w' => ed = .returned (.tuple #[.int .i64 a1, .int .i64 a2, .int .i64 a3]) ∧ Below W.heap.size W w')
    (hM : ∀ W, Calls Try.prog 37 #[.agg #[.int .i64 A, .int .i64 B, .int .i64 C, .int .i64 D, .int .i64 p, .int .i64 q], .int .i64 x, .int .i64 y] W fun ed w' => ed = .returned (.tuple #[.int .i64 0, .int .i64 0, .int .i64 2]) ∧ Below W.heap.size W w')  : Calls Try.prog 9 #[.agg #[.int .i64 A, .int .i64 B, .int .i64 C, .int .i64 D, .int .i64 E, .int .i64 F], .int .i64 x, .int .i64 y, .int .i64 e, .int .i64 f] w fun ed w' => ed = .returned (.bool true) ∧ Below w.heap.size w w' := by
  have bp : -268435455 ≤ p ∧ p ≤ 268435455 := by omega
  have bq : -268435455 ≤ q ∧ q ≤ 268435455 := by omega
  obtain ⟨bA, bB, bC, bD, _, _⟩ := mayB_bd h
  have h2 : mayB A B C D p q = true := mayB_true bA bB bC bD (by omega) (by omega)
  have HV1 := Lib.hid (hV E F h)
  have HV2 := Lib.hid (hV p q h2)
  have HA1 := Lib.hid (hA E F h)
  have HA2 := Lib.hid (hA p q h2)
  have HM := Lib.hid hM
  have HFe := Lib.hid (fun W => fixed_any e W)
  have HFf := Lib.hid (fun W => fixed_any f W)
  rw [hp] at HFe
  rw [hq] at HFf
  clear hV hA hM hp hq h2 bA bB bC bD
  have HMay := Lib.hid (fun W => show Calls Try.prog 30 #[.agg #[.int .i64 A, .int .i64 B, .int .i64 C, .int .i64 D, .int .i64 E, .int .i64 F]] W fun ed w' => ed = .returned (.bool true) ∧ Below W.heap.size W w' by have := may_any A B C D E F W; rw [h] at this; exact this)
  clear h
  go_enter Try.func9, Try.ntmps9
  go_wp2_with fail
  refine (known_any _).mono ?_
  rintro e_ w1 ⟨rfl, hb1⟩
  have K0 := (Blk.new w 23 #[.int .i64 A, .int .i64 B, .int .i64 C, .int .i64 D, .int .i64 E, .int .i64 F]).below hb1 (by simp)
  have hbw : Below w.heap.size w w1 := btrans (by (repeat' (first | exact Below.refl _ _ | exact Below.refl _ _ | refine balloc ?_ _ | refine Below.drew ?_ | refine below_drewN ?_ _ | refine bset ?_ (by first | omega | (simp <;> omega)) _))) hb1
  clear hb1
  have lK0 := K0.lt
  have cK00 := K0.cell 0
  have cK01 := K0.cell 1
  have cK02 := K0.cell 2
  have cK03 := K0.cell 3
  have cK04 := K0.cell 4
  have cK05 := K0.cell 5
  simp only [List.getElem?_toArray, List.getElem?_cons_succ, List.getElem?_cons_zero] at cK00 cK01 cK02 cK03 cK04 cK05
  go_wp2_with fail
  refine (HMay.out _).mono ?_
  rintro e_ w2 ⟨rfl, hb2⟩
  replace K0 := K0.below hb2 (by first | exact lK0 | (have := lK0; simp; omega))
  replace hbw : Below w.heap.size w w2 := btrans (by (repeat' (first | refine bset ?_ (by first | omega | (simp <;> omega)) _ | refine balloc ?_ _ | refine Below.drew ?_ | refine below_drewN ?_ _ | exact hbw | exact Below.refl _ _))) hb2
  clear hb2 lK0 cK00 cK01 cK02 cK03 cK04 cK05
  have lK0 := K0.lt
  have cK00 := K0.cell 0
  have cK01 := K0.cell 1
  have cK02 := K0.cell 2
  have cK03 := K0.cell 3
  have cK04 := K0.cell 4
  have cK05 := K0.cell 5
  simp only [List.getElem?_toArray, List.getElem?_cons_succ, List.getElem?_cons_zero] at cK00 cK01 cK02 cK03 cK04 cK05
  go_wp2_with fail
  refine (HFe.out _).mono ?_
  rintro e_ w_ ⟨rfl, rfl⟩
  go_wp2_with fail
  refine (HFf.out _).mono ?_
  rintro e_ w_ ⟨rfl, rfl⟩
  go_wp2_with fail
  refine (HV1.out _).mono ?_
  rintro e_ w3 ⟨rfl, hb3⟩
  replace K0 := (K0.alloc (.cells #[.int .i64 A, .int .i64 B, .int .i64 C, .int .i64 D, .int .i64 p, .int .i64 q] 23)).below hb3 (by first | exact lK0 | (have := lK0; simp; omega))
  have Kn := (Blk.new w2 23 #[.int .i64 A, .int .i64 B, .int .i64 C, .int .i64 D, .int .i64 p, .int .i64 q]).below hb3 (by simp)
  replace hbw : Below w.heap.size w w3 := btrans (by (repeat' (first | refine bset ?_ (by first | omega | (simp <;> omega)) _ | refine balloc ?_ _ | refine Below.drew ?_ | refine below_drewN ?_ _ | exact hbw | exact Below.refl _ _))) hb3
  clear hb3 lK0 cK00 cK01 cK02 cK03 cK04 cK05
  have lK0 := K0.lt
  have cK00 := K0.cell 0
  have cK01 := K0.cell 1
  have cK02 := K0.cell 2
  have cK03 := K0.cell 3
  have cK04 := K0.cell 4
  have cK05 := K0.cell 5
  have lKn := Kn.lt
  have cKn0 := Kn.cell 0
  have cKn1 := Kn.cell 1
  have cKn2 := Kn.cell 2
  have cKn3 := Kn.cell 3
  have cKn4 := Kn.cell 4
  have cKn5 := Kn.cell 5
  simp only [List.getElem?_toArray, List.getElem?_cons_succ, List.getElem?_cons_zero] at cK00 cK01 cK02 cK03 cK04 cK05 cKn0 cKn1 cKn2 cKn3 cKn4 cKn5
  go_wp2_with fail
  refine (HV2.out _).mono ?_
  rintro e_ w4 ⟨rfl, hb4⟩
  replace K0 := K0.below hb4 (by first | exact lK0 | (have := lK0; simp; omega))
  replace Kn := Kn.below hb4 (by first | exact lKn | (have := lKn; simp; omega))
  replace hbw : Below w.heap.size w w4 := btrans (by (repeat' (first | refine bset ?_ (by first | omega | (simp <;> omega)) _ | refine balloc ?_ _ | refine Below.drew ?_ | refine below_drewN ?_ _ | exact hbw | exact Below.refl _ _))) hb4
  clear hb4 lK0 cK00 cK01 cK02 cK03 cK04 cK05 lKn cKn0 cKn1 cKn2 cKn3 cKn4 cKn5
  have lK0 := K0.lt
  have cK00 := K0.cell 0
  have cK01 := K0.cell 1
  have cK02 := K0.cell 2
  have cK03 := K0.cell 3
  have cK04 := K0.cell 4
  have cK05 := K0.cell 5
  have lKn := Kn.lt
  have cKn0 := Kn.cell 0
  have cKn1 := Kn.cell 1
  have cKn2 := Kn.cell 2
  have cKn3 := Kn.cell 3
  have cKn4 := Kn.cell 4
  have cKn5 := Kn.cell 5
  simp only [List.getElem?_toArray, List.getElem?_cons_succ, List.getElem?_cons_zero] at cK00 cK01 cK02 cK03 cK04 cK05 cKn0 cKn1 cKn2 cKn3 cKn4 cKn5
  go_wp2_with fail
  refine (HA1.out _).mono ?_
  rintro e_ w5 ⟨rfl, hb5⟩
  replace K0 := K0.below hb5 (by first | exact lK0 | (have := lK0; simp; omega))
  replace Kn := Kn.below hb5 (by first | exact lKn | (have := lKn; simp; omega))
  replace hbw : Below w.heap.size w w5 := btrans (by (repeat' (first | refine bset ?_ (by first | omega | (simp <;> omega)) _ | refine balloc ?_ _ | refine Below.drew ?_ | refine below_drewN ?_ _ | exact hbw | exact Below.refl _ _))) hb5
  clear hb5 lK0 cK00 cK01 cK02 cK03 cK04 cK05 lKn cKn0 cKn1 cKn2 cKn3 cKn4 cKn5
  have lK0 := K0.lt
  have cK00 := K0.cell 0
  have cK01 := K0.cell 1
  have cK02 := K0.cell 2
  have cK03 := K0.cell 3
  have cK04 := K0.cell 4
  have cK05 := K0.cell 5
  have lKn := Kn.lt
  have cKn0 := Kn.cell 0
  have cKn1 := Kn.cell 1
  have cKn2 := Kn.cell 2
  have cKn3 := Kn.cell 3
  have cKn4 := Kn.cell 4
  have cKn5 := Kn.cell 5
  simp only [List.getElem?_toArray, List.getElem?_cons_succ, List.getElem?_cons_zero] at cK00 cK01 cK02 cK03 cK04 cK05 cKn0 cKn1 cKn2 cKn3 cKn4 cKn5
  go_wp2_with fail
  refine (HA2.out _).mono ?_
  rintro e_ w6 ⟨rfl, hb6⟩
  replace K0 := K0.below hb6 (by first | exact lK0 | (have := lK0; simp; omega))
  replace Kn := Kn.below hb6 (by first | exact lKn | (have := lKn; simp; omega))
  replace hbw : Below w.heap.size w w6 := btrans (by (repeat' (first | refine bset ?_ (by first | omega | (simp <;> omega)) _ | refine balloc ?_ _ | refine Below.drew ?_ | refine below_drewN ?_ _ | exact hbw | exact Below.refl _ _))) hb6
  clear hb6 lK0 cK00 cK01 cK02 cK03 cK04 cK05 lKn cKn0 cKn1 cKn2 cKn3 cKn4 cKn5
  have lK0 := K0.lt
  have cK00 := K0.cell 0
  have cK01 := K0.cell 1
  have cK02 := K0.cell 2
  have cK03 := K0.cell 3
  have cK04 := K0.cell 4
  have cK05 := K0.cell 5
  have lKn := Kn.lt
  have cKn0 := Kn.cell 0
  have cKn1 := Kn.cell 1
  have cKn2 := Kn.cell 2
  have cKn3 := Kn.cell 3
  have cKn4 := Kn.cell 4
  have cKn5 := Kn.cell 5
  simp only [List.getElem?_toArray, List.getElem?_cons_succ, List.getElem?_cons_zero] at cK00 cK01 cK02 cK03 cK04 cK05 cKn0 cKn1 cKn2 cKn3 cKn4 cKn5
  go_wp2_with fail
  refine (HM.out _).mono ?_
  rintro e_ w7 ⟨rfl, hb7⟩
  replace K0 := K0.below hb7 (by first | exact lK0 | (have := lK0; simp; omega))
  replace Kn := Kn.below hb7 (by first | exact lKn | (have := lKn; simp; omega))
  replace hbw : Below w.heap.size w w7 := btrans (by (repeat' (first | refine bset ?_ (by first | omega | (simp <;> omega)) _ | refine balloc ?_ _ | refine Below.drew ?_ | refine below_drewN ?_ _ | exact hbw | exact Below.refl _ _))) hb7
  clear hb7 lK0 cK00 cK01 cK02 cK03 cK04 cK05 lKn cKn0 cKn1 cKn2 cKn3 cKn4 cKn5
  have lK0 := K0.lt
  have cK00 := K0.cell 0
  have cK01 := K0.cell 1
  have cK02 := K0.cell 2
  have cK03 := K0.cell 3
  have cK04 := K0.cell 4
  have cK05 := K0.cell 5
  have lKn := Kn.lt
  have cKn0 := Kn.cell 0
  have cKn1 := Kn.cell 1
  have cKn2 := Kn.cell 2
  have cKn3 := Kn.cell 3
  have cKn4 := Kn.cell 4
  have cKn5 := Kn.cell 5
  simp only [List.getElem?_toArray, List.getElem?_cons_succ, List.getElem?_cons_zero] at cK00 cK01 cK02 cK03 cK04 cK05 cKn0 cKn1 cKn2 cKn3 cKn4 cKn5
  go_wp2_with fail
  go_ret
  exact ⟨rfl, hbw⟩

set_option maxRecDepth 100000 in
set_option maxHeartbeats 3200000 in
theorem parts_c (A B C D E F x y e f p q u1 u2 u3 a1 a2 m1 m2 : Int) (w : World) (h : mayB A B C D E F = true) (hp : e % 536870911 - 268435455 = p) (hq : f % 536870911 - 268435455 = q)
    (hV : ∀ E F, mayB A B C D E F = true → ∀ W, Calls Try.prog 36 #[.agg #[.int .i64 A, .int .i64 B, .int .i64 C, .int .i64 D, .int .i64 E, .int .i64 F], .int .i64 x, .int .i64 y] W fun ed w' => ed = .returned (.tuple #[.int .i64 u1, .int .i64 u2, .int .i64 u3]) ∧ Below W.heap.size W w')
    (hA : ∀ E F, mayB A B C D E F = true → ∀ W, Calls Try.prog 39 #[.agg #[.int .i64 A, .int .i64 B, .int .i64 C, .int .i64 D, .int .i64 E, .int .i64 F], .int .i64 x, .int .i64 y] W fun ed w' => ed = .returned (.tuple #[.int .i64 a1, .int .i64 a2, .int .i64 2]) ∧ Below W.heap.size W w')
    (hM : ∀ W, Calls Try.prog 37 #[.agg #[.int .i64 A, .int .i64 B, .int .i64 C, .int .i64 D, .int .i64 p, .int .i64 q], .int .i64 x, .int .i64 y] W fun ed w' => ed = .returned (.tuple #[.int .i64 m1, .int .i64 m2, .int .i64 0]) ∧ Below W.heap.size W w')  : Calls Try.prog 9 #[.agg #[.int .i64 A, .int .i64 B, .int .i64 C, .int .i64 D, .int .i64 E, .int .i64 F], .int .i64 x, .int .i64 y, .int .i64 e, .int .i64 f] w fun ed w' => ed = .returned (.bool true) ∧ Below w.heap.size w w' := by
  have bp : -268435455 ≤ p ∧ p ≤ 268435455 := by omega
  have bq : -268435455 ≤ q ∧ q ≤ 268435455 := by omega
  obtain ⟨bA, bB, bC, bD, _, _⟩ := mayB_bd h
  have h2 : mayB A B C D p q = true := mayB_true bA bB bC bD (by omega) (by omega)
  have HV1 := Lib.hid (hV E F h)
  have HV2 := Lib.hid (hV p q h2)
  have HA1 := Lib.hid (hA E F h)
  have HA2 := Lib.hid (hA p q h2)
  have HM := Lib.hid hM
  have HFe := Lib.hid (fun W => fixed_any e W)
  have HFf := Lib.hid (fun W => fixed_any f W)
  rw [hp] at HFe
  rw [hq] at HFf
  clear hV hA hM hp hq h2 bA bB bC bD
  have HMay := Lib.hid (fun W => show Calls Try.prog 30 #[.agg #[.int .i64 A, .int .i64 B, .int .i64 C, .int .i64 D, .int .i64 E, .int .i64 F]] W fun ed w' => ed = .returned (.bool true) ∧ Below W.heap.size W w' by have := may_any A B C D E F W; rw [h] at this; exact this)
  clear h
  go_enter Try.func9, Try.ntmps9
  go_wp2_with fail
  refine (known_any _).mono ?_
  rintro e_ w1 ⟨rfl, hb1⟩
  have K0 := (Blk.new w 23 #[.int .i64 A, .int .i64 B, .int .i64 C, .int .i64 D, .int .i64 E, .int .i64 F]).below hb1 (by simp)
  have hbw : Below w.heap.size w w1 := btrans (by (repeat' (first | exact Below.refl _ _ | exact Below.refl _ _ | refine balloc ?_ _ | refine Below.drew ?_ | refine below_drewN ?_ _ | refine bset ?_ (by first | omega | (simp <;> omega)) _))) hb1
  clear hb1
  have lK0 := K0.lt
  have cK00 := K0.cell 0
  have cK01 := K0.cell 1
  have cK02 := K0.cell 2
  have cK03 := K0.cell 3
  have cK04 := K0.cell 4
  have cK05 := K0.cell 5
  simp only [List.getElem?_toArray, List.getElem?_cons_succ, List.getElem?_cons_zero] at cK00 cK01 cK02 cK03 cK04 cK05
  go_wp2_with fail
  refine (HMay.out _).mono ?_
  rintro e_ w2 ⟨rfl, hb2⟩
  replace K0 := K0.below hb2 (by first | exact lK0 | (have := lK0; simp; omega))
  replace hbw : Below w.heap.size w w2 := btrans (by (repeat' (first | refine bset ?_ (by first | omega | (simp <;> omega)) _ | refine balloc ?_ _ | refine Below.drew ?_ | refine below_drewN ?_ _ | exact hbw | exact Below.refl _ _))) hb2
  clear hb2 lK0 cK00 cK01 cK02 cK03 cK04 cK05
  have lK0 := K0.lt
  have cK00 := K0.cell 0
  have cK01 := K0.cell 1
  have cK02 := K0.cell 2
  have cK03 := K0.cell 3
  have cK04 := K0.cell 4
  have cK05 := K0.cell 5
  simp only [List.getElem?_toArray, List.getElem?_cons_succ, List.getElem?_cons_zero] at cK00 cK01 cK02 cK03 cK04 cK05
  go_wp2_with fail
  refine (HFe.out _).mono ?_
  rintro e_ w_ ⟨rfl, rfl⟩
  go_wp2_with fail
  refine (HFf.out _).mono ?_
  rintro e_ w_ ⟨rfl, rfl⟩
  go_wp2_with fail
  refine (HV1.out _).mono ?_
  rintro e_ w3 ⟨rfl, hb3⟩
  replace K0 := (K0.alloc (.cells #[.int .i64 A, .int .i64 B, .int .i64 C, .int .i64 D, .int .i64 p, .int .i64 q] 23)).below hb3 (by first | exact lK0 | (have := lK0; simp; omega))
  have Kn := (Blk.new w2 23 #[.int .i64 A, .int .i64 B, .int .i64 C, .int .i64 D, .int .i64 p, .int .i64 q]).below hb3 (by simp)
  replace hbw : Below w.heap.size w w3 := btrans (by (repeat' (first | refine bset ?_ (by first | omega | (simp <;> omega)) _ | refine balloc ?_ _ | refine Below.drew ?_ | refine below_drewN ?_ _ | exact hbw | exact Below.refl _ _))) hb3
  clear hb3 lK0 cK00 cK01 cK02 cK03 cK04 cK05
  have lK0 := K0.lt
  have cK00 := K0.cell 0
  have cK01 := K0.cell 1
  have cK02 := K0.cell 2
  have cK03 := K0.cell 3
  have cK04 := K0.cell 4
  have cK05 := K0.cell 5
  have lKn := Kn.lt
  have cKn0 := Kn.cell 0
  have cKn1 := Kn.cell 1
  have cKn2 := Kn.cell 2
  have cKn3 := Kn.cell 3
  have cKn4 := Kn.cell 4
  have cKn5 := Kn.cell 5
  simp only [List.getElem?_toArray, List.getElem?_cons_succ, List.getElem?_cons_zero] at cK00 cK01 cK02 cK03 cK04 cK05 cKn0 cKn1 cKn2 cKn3 cKn4 cKn5
  go_wp2_with fail
  refine (HV2.out _).mono ?_
  rintro e_ w4 ⟨rfl, hb4⟩
  replace K0 := K0.below hb4 (by first | exact lK0 | (have := lK0; simp; omega))
  replace Kn := Kn.below hb4 (by first | exact lKn | (have := lKn; simp; omega))
  replace hbw : Below w.heap.size w w4 := btrans (by (repeat' (first | refine bset ?_ (by first | omega | (simp <;> omega)) _ | refine balloc ?_ _ | refine Below.drew ?_ | refine below_drewN ?_ _ | exact hbw | exact Below.refl _ _))) hb4
  clear hb4 lK0 cK00 cK01 cK02 cK03 cK04 cK05 lKn cKn0 cKn1 cKn2 cKn3 cKn4 cKn5
  have lK0 := K0.lt
  have cK00 := K0.cell 0
  have cK01 := K0.cell 1
  have cK02 := K0.cell 2
  have cK03 := K0.cell 3
  have cK04 := K0.cell 4
  have cK05 := K0.cell 5
  have lKn := Kn.lt
  have cKn0 := Kn.cell 0
  have cKn1 := Kn.cell 1
  have cKn2 := Kn.cell 2
  have cKn3 := Kn.cell 3
  have cKn4 := Kn.cell 4
  have cKn5 := Kn.cell 5
  simp only [List.getElem?_toArray, List.getElem?_cons_succ, List.getElem?_cons_zero] at cK00 cK01 cK02 cK03 cK04 cK05 cKn0 cKn1 cKn2 cKn3 cKn4 cKn5
  go_wp2_with fail
  refine (HA1.out _).mono ?_
  rintro e_ w5 ⟨rfl, hb5⟩
  replace K0 := K0.below hb5 (by first | exact lK0 | (have := lK0; simp; omega))
  replace Kn := Kn.below hb5 (by first | exact lKn | (have := lKn; simp; omega))
  replace hbw : Below w.heap.size w w5 := btrans (by (repeat' (first | refine bset ?_ (by first | omega | (simp <;> omega)) _ | refine balloc ?_ _ | refine Below.drew ?_ | refine below_drewN ?_ _ | exact hbw | exact Below.refl _ _))) hb5
  clear hb5 lK0 cK00 cK01 cK02 cK03 cK04 cK05 lKn cKn0 cKn1 cKn2 cKn3 cKn4 cKn5
  have lK0 := K0.lt
  have cK00 := K0.cell 0
  have cK01 := K0.cell 1
  have cK02 := K0.cell 2
  have cK03 := K0.cell 3
  have cK04 := K0.cell 4
  have cK05 := K0.cell 5
  have lKn := Kn.lt
  have cKn0 := Kn.cell 0
  have cKn1 := Kn.cell 1
  have cKn2 := Kn.cell 2
  have cKn3 := Kn.cell 3
  have cKn4 := Kn.cell 4
  have cKn5 := Kn.cell 5
  simp only [List.getElem?_toArray, List.getElem?_cons_succ, List.getElem?_cons_zero] at cK00 cK01 cK02 cK03 cK04 cK05 cKn0 cKn1 cKn2 cKn3 cKn4 cKn5
  go_wp2_with fail
  refine (HA2.out _).mono ?_
  rintro e_ w6 ⟨rfl, hb6⟩
  replace K0 := K0.below hb6 (by first | exact lK0 | (have := lK0; simp; omega))
  replace Kn := Kn.below hb6 (by first | exact lKn | (have := lKn; simp; omega))
  replace hbw : Below w.heap.size w w6 := btrans (by (repeat' (first | refine bset ?_ (by first | omega | (simp <;> omega)) _ | refine balloc ?_ _ | refine Below.drew ?_ | refine below_drewN ?_ _ | exact hbw | exact Below.refl _ _))) hb6
  clear hb6 lK0 cK00 cK01 cK02 cK03 cK04 cK05 lKn cKn0 cKn1 cKn2 cKn3 cKn4 cKn5
  have lK0 := K0.lt
  have cK00 := K0.cell 0
  have cK01 := K0.cell 1
  have cK02 := K0.cell 2
  have cK03 := K0.cell 3
  have cK04 := K0.cell 4
  have cK05 := K0.cell 5
  have lKn := Kn.lt
  have cKn0 := Kn.cell 0
  have cKn1 := Kn.cell 1
  have cKn2 := Kn.cell 2
  have cKn3 := Kn.cell 3
  have cKn4 := Kn.cell 4
  have cKn5 := Kn.cell 5
  simp only [List.getElem?_toArray, List.getElem?_cons_succ, List.getElem?_cons_zero] at cK00 cK01 cK02 cK03 cK04 cK05 cKn0 cKn1 cKn2 cKn3 cKn4 cKn5
  go_wp2_with fail
  refine (HM.out _).mono ?_
  rintro e_ w7 ⟨rfl, hb7⟩
  replace K0 := K0.below hb7 (by first | exact lK0 | (have := lK0; simp; omega))
  replace Kn := Kn.below hb7 (by first | exact lKn | (have := lKn; simp; omega))
  replace hbw : Below w.heap.size w w7 := btrans (by (repeat' (first | refine bset ?_ (by first | omega | (simp <;> omega)) _ | refine balloc ?_ _ | refine Below.drew ?_ | refine below_drewN ?_ _ | exact hbw | exact Below.refl _ _))) hb7
  clear hb7 lK0 cK00 cK01 cK02 cK03 cK04 cK05 lKn cKn0 cKn1 cKn2 cKn3 cKn4 cKn5
  have lK0 := K0.lt
  have cK00 := K0.cell 0
  have cK01 := K0.cell 1
  have cK02 := K0.cell 2
  have cK03 := K0.cell 3
  have cK04 := K0.cell 4
  have cK05 := K0.cell 5
  have lKn := Kn.lt
  have cKn0 := Kn.cell 0
  have cKn1 := Kn.cell 1
  have cKn2 := Kn.cell 2
  have cKn3 := Kn.cell 3
  have cKn4 := Kn.cell 4
  have cKn5 := Kn.cell 5
  simp only [List.getElem?_toArray, List.getElem?_cons_succ, List.getElem?_cons_zero] at cK00 cK01 cK02 cK03 cK04 cK05 cKn0 cKn1 cKn2 cKn3 cKn4 cKn5
  go_wp2_with fail
  go_ret
  exact ⟨rfl, hbw⟩

set_option maxRecDepth 100000 in
set_option maxHeartbeats 3200000 in
theorem parts_d (A B C D E F x y e f p q u1 u2 u3 a1 a2 : Int) (w : World) (h : mayB A B C D E F = true) (hp : e % 536870911 - 268435455 = p) (hq : f % 536870911 - 268435455 = q)
    (hV : ∀ E F, mayB A B C D E F = true → ∀ W, Calls Try.prog 36 #[.agg #[.int .i64 A, .int .i64 B, .int .i64 C, .int .i64 D, .int .i64 E, .int .i64 F], .int .i64 x, .int .i64 y] W fun ed w' => ed = .returned (.tuple #[.int .i64 u1, .int .i64 u2, .int .i64 u3]) ∧ Below W.heap.size W w')
    (hA : ∀ E F, mayB A B C D E F = true → ∀ W, Calls Try.prog 39 #[.agg #[.int .i64 A, .int .i64 B, .int .i64 C, .int .i64 D, .int .i64 E, .int .i64 F], .int .i64 x, .int .i64 y] W fun ed w' => ed = .returned (.tuple #[.int .i64 a1, .int .i64 a2, .int .i64 0]) ∧ Below W.heap.size W w')
    (hM : ∀ W, Calls Try.prog 37 #[.agg #[.int .i64 A, .int .i64 B, .int .i64 C, .int .i64 D, .int .i64 p, .int .i64 q], .int .i64 x, .int .i64 y] W fun ed w' => ed = .returned (.tuple #[.int .i64 (a1 + p), .int .i64 (a2 + q), .int .i64 0]) ∧ Below W.heap.size W w') (b1 : -4611686018427387904 ≤ a1 ∧ a1 ≤ 4611686018427387904) (b2 : -4611686018427387904 ≤ a2 ∧ a2 ≤ 4611686018427387904) : Calls Try.prog 9 #[.agg #[.int .i64 A, .int .i64 B, .int .i64 C, .int .i64 D, .int .i64 E, .int .i64 F], .int .i64 x, .int .i64 y, .int .i64 e, .int .i64 f] w fun ed w' => ed = .returned (.bool true) ∧ Below w.heap.size w w' := by
  have bp : -268435455 ≤ p ∧ p ≤ 268435455 := by omega
  have bq : -268435455 ≤ q ∧ q ≤ 268435455 := by omega
  obtain ⟨bA, bB, bC, bD, _, _⟩ := mayB_bd h
  have h2 : mayB A B C D p q = true := mayB_true bA bB bC bD (by omega) (by omega)
  have HV1 := Lib.hid (hV E F h)
  have HV2 := Lib.hid (hV p q h2)
  have HA1 := Lib.hid (hA E F h)
  have HA2 := Lib.hid (hA p q h2)
  have HM := Lib.hid hM
  have HFe := Lib.hid (fun W => fixed_any e W)
  have HFf := Lib.hid (fun W => fixed_any f W)
  rw [hp] at HFe
  rw [hq] at HFf
  clear hV hA hM hp hq h2 bA bB bC bD
  obtain ⟨a10, a11⟩ := b1
  obtain ⟨a20, a21⟩ := b2
  obtain ⟨bp0, bp1⟩ := bp
  obtain ⟨bq0, bq1⟩ := bq
  have HMay := Lib.hid (fun W => show Calls Try.prog 30 #[.agg #[.int .i64 A, .int .i64 B, .int .i64 C, .int .i64 D, .int .i64 E, .int .i64 F]] W fun ed w' => ed = .returned (.bool true) ∧ Below W.heap.size W w' by have := may_any A B C D E F W; rw [h] at this; exact this)
  clear h
  go_enter Try.func9, Try.ntmps9
  go_wp2_with fail
  refine (known_any _).mono ?_
  rintro e_ w1 ⟨rfl, hb1⟩
  have K0 := (Blk.new w 23 #[.int .i64 A, .int .i64 B, .int .i64 C, .int .i64 D, .int .i64 E, .int .i64 F]).below hb1 (by simp)
  have hbw : Below w.heap.size w w1 := btrans (by (repeat' (first | exact Below.refl _ _ | exact Below.refl _ _ | refine balloc ?_ _ | refine Below.drew ?_ | refine below_drewN ?_ _ | refine bset ?_ (by first | omega | (simp <;> omega)) _))) hb1
  clear hb1
  have lK0 := K0.lt
  have cK00 := K0.cell 0
  have cK01 := K0.cell 1
  have cK02 := K0.cell 2
  have cK03 := K0.cell 3
  have cK04 := K0.cell 4
  have cK05 := K0.cell 5
  simp only [List.getElem?_toArray, List.getElem?_cons_succ, List.getElem?_cons_zero] at cK00 cK01 cK02 cK03 cK04 cK05
  go_wp2_with fail
  refine (HMay.out _).mono ?_
  rintro e_ w2 ⟨rfl, hb2⟩
  replace K0 := K0.below hb2 (by first | exact lK0 | (have := lK0; simp; omega))
  replace hbw : Below w.heap.size w w2 := btrans (by (repeat' (first | refine bset ?_ (by first | omega | (simp <;> omega)) _ | refine balloc ?_ _ | refine Below.drew ?_ | refine below_drewN ?_ _ | exact hbw | exact Below.refl _ _))) hb2
  clear hb2 lK0 cK00 cK01 cK02 cK03 cK04 cK05
  have lK0 := K0.lt
  have cK00 := K0.cell 0
  have cK01 := K0.cell 1
  have cK02 := K0.cell 2
  have cK03 := K0.cell 3
  have cK04 := K0.cell 4
  have cK05 := K0.cell 5
  simp only [List.getElem?_toArray, List.getElem?_cons_succ, List.getElem?_cons_zero] at cK00 cK01 cK02 cK03 cK04 cK05
  go_wp2_with fail
  refine (HFe.out _).mono ?_
  rintro e_ w_ ⟨rfl, rfl⟩
  go_wp2_with fail
  refine (HFf.out _).mono ?_
  rintro e_ w_ ⟨rfl, rfl⟩
  go_wp2_with fail
  refine (HV1.out _).mono ?_
  rintro e_ w3 ⟨rfl, hb3⟩
  replace K0 := (K0.alloc (.cells #[.int .i64 A, .int .i64 B, .int .i64 C, .int .i64 D, .int .i64 p, .int .i64 q] 23)).below hb3 (by first | exact lK0 | (have := lK0; simp; omega))
  have Kn := (Blk.new w2 23 #[.int .i64 A, .int .i64 B, .int .i64 C, .int .i64 D, .int .i64 p, .int .i64 q]).below hb3 (by simp)
  replace hbw : Below w.heap.size w w3 := btrans (by (repeat' (first | refine bset ?_ (by first | omega | (simp <;> omega)) _ | refine balloc ?_ _ | refine Below.drew ?_ | refine below_drewN ?_ _ | exact hbw | exact Below.refl _ _))) hb3
  clear hb3 lK0 cK00 cK01 cK02 cK03 cK04 cK05
  have lK0 := K0.lt
  have cK00 := K0.cell 0
  have cK01 := K0.cell 1
  have cK02 := K0.cell 2
  have cK03 := K0.cell 3
  have cK04 := K0.cell 4
  have cK05 := K0.cell 5
  have lKn := Kn.lt
  have cKn0 := Kn.cell 0
  have cKn1 := Kn.cell 1
  have cKn2 := Kn.cell 2
  have cKn3 := Kn.cell 3
  have cKn4 := Kn.cell 4
  have cKn5 := Kn.cell 5
  simp only [List.getElem?_toArray, List.getElem?_cons_succ, List.getElem?_cons_zero] at cK00 cK01 cK02 cK03 cK04 cK05 cKn0 cKn1 cKn2 cKn3 cKn4 cKn5
  go_wp2_with fail
  refine (HV2.out _).mono ?_
  rintro e_ w4 ⟨rfl, hb4⟩
  replace K0 := K0.below hb4 (by first | exact lK0 | (have := lK0; simp; omega))
  replace Kn := Kn.below hb4 (by first | exact lKn | (have := lKn; simp; omega))
  replace hbw : Below w.heap.size w w4 := btrans (by (repeat' (first | refine bset ?_ (by first | omega | (simp <;> omega)) _ | refine balloc ?_ _ | refine Below.drew ?_ | refine below_drewN ?_ _ | exact hbw | exact Below.refl _ _))) hb4
  clear hb4 lK0 cK00 cK01 cK02 cK03 cK04 cK05 lKn cKn0 cKn1 cKn2 cKn3 cKn4 cKn5
  have lK0 := K0.lt
  have cK00 := K0.cell 0
  have cK01 := K0.cell 1
  have cK02 := K0.cell 2
  have cK03 := K0.cell 3
  have cK04 := K0.cell 4
  have cK05 := K0.cell 5
  have lKn := Kn.lt
  have cKn0 := Kn.cell 0
  have cKn1 := Kn.cell 1
  have cKn2 := Kn.cell 2
  have cKn3 := Kn.cell 3
  have cKn4 := Kn.cell 4
  have cKn5 := Kn.cell 5
  simp only [List.getElem?_toArray, List.getElem?_cons_succ, List.getElem?_cons_zero] at cK00 cK01 cK02 cK03 cK04 cK05 cKn0 cKn1 cKn2 cKn3 cKn4 cKn5
  go_wp2_with fail
  refine (HA1.out _).mono ?_
  rintro e_ w5 ⟨rfl, hb5⟩
  replace K0 := K0.below hb5 (by first | exact lK0 | (have := lK0; simp; omega))
  replace Kn := Kn.below hb5 (by first | exact lKn | (have := lKn; simp; omega))
  replace hbw : Below w.heap.size w w5 := btrans (by (repeat' (first | refine bset ?_ (by first | omega | (simp <;> omega)) _ | refine balloc ?_ _ | refine Below.drew ?_ | refine below_drewN ?_ _ | exact hbw | exact Below.refl _ _))) hb5
  clear hb5 lK0 cK00 cK01 cK02 cK03 cK04 cK05 lKn cKn0 cKn1 cKn2 cKn3 cKn4 cKn5
  have lK0 := K0.lt
  have cK00 := K0.cell 0
  have cK01 := K0.cell 1
  have cK02 := K0.cell 2
  have cK03 := K0.cell 3
  have cK04 := K0.cell 4
  have cK05 := K0.cell 5
  have lKn := Kn.lt
  have cKn0 := Kn.cell 0
  have cKn1 := Kn.cell 1
  have cKn2 := Kn.cell 2
  have cKn3 := Kn.cell 3
  have cKn4 := Kn.cell 4
  have cKn5 := Kn.cell 5
  simp only [List.getElem?_toArray, List.getElem?_cons_succ, List.getElem?_cons_zero] at cK00 cK01 cK02 cK03 cK04 cK05 cKn0 cKn1 cKn2 cKn3 cKn4 cKn5
  go_wp2_with fail
  refine (HA2.out _).mono ?_
  rintro e_ w6 ⟨rfl, hb6⟩
  replace K0 := K0.below hb6 (by first | exact lK0 | (have := lK0; simp; omega))
  replace Kn := Kn.below hb6 (by first | exact lKn | (have := lKn; simp; omega))
  replace hbw : Below w.heap.size w w6 := btrans (by (repeat' (first | refine bset ?_ (by first | omega | (simp <;> omega)) _ | refine balloc ?_ _ | refine Below.drew ?_ | refine below_drewN ?_ _ | exact hbw | exact Below.refl _ _))) hb6
  clear hb6 lK0 cK00 cK01 cK02 cK03 cK04 cK05 lKn cKn0 cKn1 cKn2 cKn3 cKn4 cKn5
  have lK0 := K0.lt
  have cK00 := K0.cell 0
  have cK01 := K0.cell 1
  have cK02 := K0.cell 2
  have cK03 := K0.cell 3
  have cK04 := K0.cell 4
  have cK05 := K0.cell 5
  have lKn := Kn.lt
  have cKn0 := Kn.cell 0
  have cKn1 := Kn.cell 1
  have cKn2 := Kn.cell 2
  have cKn3 := Kn.cell 3
  have cKn4 := Kn.cell 4
  have cKn5 := Kn.cell 5
  simp only [List.getElem?_toArray, List.getElem?_cons_succ, List.getElem?_cons_zero] at cK00 cK01 cK02 cK03 cK04 cK05 cKn0 cKn1 cKn2 cKn3 cKn4 cKn5
  go_wp2_with fail
  refine (HM.out _).mono ?_
  rintro e_ w7 ⟨rfl, hb7⟩
  replace K0 := K0.below hb7 (by first | exact lK0 | (have := lK0; simp; omega))
  replace Kn := Kn.below hb7 (by first | exact lKn | (have := lKn; simp; omega))
  replace hbw : Below w.heap.size w w7 := btrans (by (repeat' (first | refine bset ?_ (by first | omega | (simp <;> omega)) _ | refine balloc ?_ _ | refine Below.drew ?_ | refine below_drewN ?_ _ | exact hbw | exact Below.refl _ _))) hb7
  clear hb7 lK0 cK00 cK01 cK02 cK03 cK04 cK05 lKn cKn0 cKn1 cKn2 cKn3 cKn4 cKn5
  have lK0 := K0.lt
  have cK00 := K0.cell 0
  have cK01 := K0.cell 1
  have cK02 := K0.cell 2
  have cK03 := K0.cell 3
  have cK04 := K0.cell 4
  have cK05 := K0.cell 5
  have lKn := Kn.lt
  have cKn0 := Kn.cell 0
  have cKn1 := Kn.cell 1
  have cKn2 := Kn.cell 2
  have cKn3 := Kn.cell 3
  have cKn4 := Kn.cell 4
  have cKn5 := Kn.cell 5
  simp only [List.getElem?_toArray, List.getElem?_cons_succ, List.getElem?_cons_zero] at cK00 cK01 cK02 cK03 cK04 cK05 cKn0 cKn1 cKn2 cKn3 cKn4 cKn5
  go_wp2_with fail
  go_ret
  exact ⟨rfl, hbw⟩

theorem good_of {A B C D E F x y : Int} (h : mayB A B C D E F = true) : goodB A B C D E F x y = (fixB x && fixB y) := by unfold goodB; rw [h]; rfl
theorem mparts_law (A B C D E F x y e f : Int) (w : World) (_hA : -9223372036854775808 ≤ A ∧ A ≤ 9223372036854775807) (_hB : -9223372036854775808 ≤ B ∧ B ≤ 9223372036854775807) (_hC : -9223372036854775808 ≤ C ∧ C ≤ 9223372036854775807) (_hD : -9223372036854775808 ≤ D ∧ D ≤ 9223372036854775807) (_hE : -9223372036854775808 ≤ E ∧ E ≤ 9223372036854775807) (_hF : -9223372036854775808 ≤ F ∧ F ≤ 9223372036854775807) (hx : -9223372036854775808 ≤ x ∧ x ≤ 9223372036854775807) (hy : -9223372036854775808 ≤ y ∧ y ≤ 9223372036854775807) (he : -9223372036854775808 ≤ e ∧ e ≤ 9223372036854775807) (hf : -9223372036854775808 ≤ f ∧ f ≤ 9223372036854775807) : Calls Try.prog 9 #[.agg #[.int .i64 A, .int .i64 B, .int .i64 C, .int .i64 D, .int .i64 E, .int .i64 F], .int .i64 x, .int .i64 y, .int .i64 e, .int .i64 f] w fun ed w' => ed = .returned (.bool true) ∧ Below w.heap.size w w' := by
  cases h : mayB A B C D E F with
  | false => exact mparts_no A B C D E F x y e f w h
  | true =>
    have hV : ∀ E F, mayB A B C D E F = true → ∀ W, Calls Try.prog 36 #[.agg #[.int .i64 A, .int .i64 B, .int .i64 C, .int .i64 D, .int .i64 E, .int .i64 F], .int .i64 x, .int .i64 y] W fun ed w' => ed = .returned (.tuple #[.int .i64 (okI ((fixB x && fixB y) && bVector A B C D 0 0 x y) (xVector A B C D 0 0 x y)), .int .i64 (okI ((fixB x && fixB y) && bVector A B C D 0 0 x y) (yVector A B C D 0 0 x y)), .int .i64 (erE (fixB x && fixB y) (bVector A B C D 0 0 x y))]) ∧ Below W.heap.size W w' := fun E F hm W => by
      have := Vector_any A B C D E F x y W
      rw [good_of hm] at this
      exact this
    have hA : ∀ E F, mayB A B C D E F = true → ∀ W, Calls Try.prog 39 #[.agg #[.int .i64 A, .int .i64 B, .int .i64 C, .int .i64 D, .int .i64 E, .int .i64 F], .int .i64 x, .int .i64 y] W fun ed w' => ed = .returned (.tuple #[.int .i64 (okI ((fixB x && fixB y) && bAim A B C D 0 0 x y) (xAim A B C D 0 0 x y)), .int .i64 (okI ((fixB x && fixB y) && bAim A B C D 0 0 x y) (yAim A B C D 0 0 x y)), .int .i64 (erE (fixB x && fixB y) (bAim A B C D 0 0 x y))]) ∧ Below W.heap.size W w' := fun E F hm W => by
      have := Aim_any A B C D E F x y W
      rw [good_of hm] at this
      exact this
    obtain ⟨p, hp⟩ : ∃ p, e % 536870911 - 268435455 = p := ⟨_, rfl⟩
    obtain ⟨q, hq⟩ : ∃ q, f % 536870911 - 268435455 = q := ⟨_, rfl⟩
    obtain ⟨bA, bB, bC, bD, _, _⟩ := mayB_bd h
    have h2 : mayB A B C D p q = true := mayB_true bA bB bC bD (by omega) (by omega)
    have hM := fun W => Map_any A B C D p q x y W
    rw [good_of h2] at hM
    have hxm : xMap A B C D p q x y = xAim A B C D 0 0 x y + p := rfl
    have hym : yMap A B C D p q x y = yAim A B C D 0 0 x y + q := rfl
    have hba : bAim A B C D 0 0 x y = nearB (xAim A B C D 0 0 x y) (yAim A B C D 0 0 x y) 1073741823 := rfl
    generalize okI ((fixB x && fixB y) && bVector A B C D 0 0 x y) (xVector A B C D 0 0 x y) = u1 at *
    generalize okI ((fixB x && fixB y) && bVector A B C D 0 0 x y) (yVector A B C D 0 0 x y) = u2 at *
    generalize erE (fixB x && fixB y) (bVector A B C D 0 0 x y) = u3 at *
    cases hg : (fixB x && fixB y) with
    | false =>
      rw [hg] at hA hM
      exact parts_a A B C D E F x y e f p q u1 u2 u3 _ _ w h hp hq hV hA hM
    | true =>
      rw [hg] at hA hM
      cases hm : bMap A B C D p q x y with
      | false =>
        rw [hm] at hM
        exact parts_b A B C D E F x y e f p q u1 u2 u3 _ _ _ w h hp hq hV hA hM
      | true =>
        rw [hm] at hM
        cases ha : bAim A B C D 0 0 x y with
        | false =>
          rw [ha] at hA
          exact parts_c A B C D E F x y e f p q u1 u2 u3 _ _ _ _ w h hp hq hV hA hM
        | true =>
          rw [ha] at hA
          rw [hxm, hym] at hM
          obtain ⟨b1, b2⟩ := nearB_bd (hba ▸ ha)
          exact parts_d A B C D E F x y e f p q u1 u2 u3 _ _ w h hp hq hV hA hM (by show -4611686018427387904 ≤ xAim A B C D 0 0 x y ∧ xAim A B C D 0 0 x y ≤ 4611686018427387904; omega) (by show -4611686018427387904 ≤ yAim A B C D 0 0 x y ∧ yAim A B C D 0 0 x y ≤ 4611686018427387904; omega)

end Go.Proofs.Ytaephahcohdbpaa.mt
