/-
  MatSays: May, Mul, Invert, Point, Vector, Map, Aim and Back are what the reference returns.
-/
import Derived.Test.YtaephahcohdbpaaInvB
import Derived.Test.YtaephahcohdbpaaKnown
namespace Go.Proofs.Ytaephahcohdbpaa.mt
set_option linter.unusedVariables false
set_option linter.unusedSimpArgs false
open Go.RowKit bs

theorem eqB_same (A B C D E F : Int) : eqB A B C D E F A B C D E F = true := by unfold eqB; simp
set_option maxRecDepth 100000 in
set_option maxHeartbeats 3200000 in
theorem says_walk (A B C D E F a b c d e f x y m0 m1 m2 m3 m4 m5 me v0 v1 v2 v3 v4 v5 ve x0 y0 e0 x1 y1 e1 x2 y2 e2 x3 y3 e3 x4 y4 e4 : Int) (mb : Bool) (w : World) (hb : mayB A B C D E F = mb)
    (hm1 : (∀ W, Calls Try.prog 29 #[.agg #[.int .i64 A, .int .i64 B, .int .i64 C, .int .i64 D, .int .i64 E, .int .i64 F], .agg #[.int .i64 a, .int .i64 b, .int .i64 c, .int .i64 d, .int .i64 e, .int .i64 f]] W fun ed w' => ed = .returned (.tuple #[.agg #[.int .i64 m0, .int .i64 m1, .int .i64 m2, .int .i64 m3, .int .i64 m4, .int .i64 m5], .int .i64 me]) ∧ Below W.heap.size W w')) (hm2 : (∀ W, Calls Try.prog 41 #[.agg #[.int .i64 A, .int .i64 B, .int .i64 C, .int .i64 D, .int .i64 E, .int .i64 F], .agg #[.int .i64 a, .int .i64 b, .int .i64 c, .int .i64 d, .int .i64 e, .int .i64 f]] W fun ed w' => ed = .returned (.tuple #[.agg #[.int .i64 m0, .int .i64 m1, .int .i64 m2, .int .i64 m3, .int .i64 m4, .int .i64 m5], .int .i64 me]) ∧ Below W.heap.size W w'))
    (hi1 : (∀ W, Calls Try.prog 40 #[.agg #[.int .i64 A, .int .i64 B, .int .i64 C, .int .i64 D, .int .i64 E, .int .i64 F]] W fun ed w' => ed = .returned (.tuple #[.agg #[.int .i64 v0, .int .i64 v1, .int .i64 v2, .int .i64 v3, .int .i64 v4, .int .i64 v5], .int .i64 ve]) ∧ Below W.heap.size W w')) (hi2 : (∀ W, Calls Try.prog 42 #[.agg #[.int .i64 A, .int .i64 B, .int .i64 C, .int .i64 D, .int .i64 E, .int .i64 F]] W fun ed w' => ed = .returned (.tuple #[.agg #[.int .i64 v0, .int .i64 v1, .int .i64 v2, .int .i64 v3, .int .i64 v4, .int .i64 v5], .int .i64 ve]) ∧ Below W.heap.size W w'))
    (hp0 : (∀ W, Calls Try.prog 34 #[.agg #[.int .i64 A, .int .i64 B, .int .i64 C, .int .i64 D, .int .i64 E, .int .i64 F], .int .i64 x, .int .i64 y] W fun ed w' => ed = .returned (.tuple #[.int .i64 x0, .int .i64 y0, .int .i64 e0]) ∧ Below W.heap.size W w')) (hr0 : (∀ W, Calls Try.prog 43 #[.agg #[.int .i64 A, .int .i64 B, .int .i64 C, .int .i64 D, .int .i64 E, .int .i64 F], .int .i64 x, .int .i64 y] W fun ed w' => ed = .returned (.tuple #[.int .i64 x0, .int .i64 y0, .int .i64 e0]) ∧ Below W.heap.size W w'))
    (hp1 : (∀ W, Calls Try.prog 36 #[.agg #[.int .i64 A, .int .i64 B, .int .i64 C, .int .i64 D, .int .i64 E, .int .i64 F], .int .i64 x, .int .i64 y] W fun ed w' => ed = .returned (.tuple #[.int .i64 x1, .int .i64 y1, .int .i64 e1]) ∧ Below W.heap.size W w')) (hr1 : (∀ W, Calls Try.prog 44 #[.agg #[.int .i64 A, .int .i64 B, .int .i64 C, .int .i64 D, .int .i64 E, .int .i64 F], .int .i64 x, .int .i64 y] W fun ed w' => ed = .returned (.tuple #[.int .i64 x1, .int .i64 y1, .int .i64 e1]) ∧ Below W.heap.size W w'))
    (hp2 : (∀ W, Calls Try.prog 37 #[.agg #[.int .i64 A, .int .i64 B, .int .i64 C, .int .i64 D, .int .i64 E, .int .i64 F], .int .i64 x, .int .i64 y] W fun ed w' => ed = .returned (.tuple #[.int .i64 x2, .int .i64 y2, .int .i64 e2]) ∧ Below W.heap.size W w')) (hr2 : (∀ W, Calls Try.prog 45 #[.agg #[.int .i64 A, .int .i64 B, .int .i64 C, .int .i64 D, .int .i64 E, .int .i64 F], .int .i64 x, .int .i64 y] W fun ed w' => ed = .returned (.tuple #[.int .i64 x2, .int .i64 y2, .int .i64 e2]) ∧ Below W.heap.size W w'))
    (hp3 : (∀ W, Calls Try.prog 39 #[.agg #[.int .i64 A, .int .i64 B, .int .i64 C, .int .i64 D, .int .i64 E, .int .i64 F], .int .i64 x, .int .i64 y] W fun ed w' => ed = .returned (.tuple #[.int .i64 x3, .int .i64 y3, .int .i64 e3]) ∧ Below W.heap.size W w')) (hr3 : (∀ W, Calls Try.prog 46 #[.agg #[.int .i64 A, .int .i64 B, .int .i64 C, .int .i64 D, .int .i64 E, .int .i64 F], .int .i64 x, .int .i64 y] W fun ed w' => ed = .returned (.tuple #[.int .i64 x3, .int .i64 y3, .int .i64 e3]) ∧ Below W.heap.size W w'))
    (hp4 : (∀ W, Calls Try.prog 35 #[.agg #[.int .i64 A, .int .i64 B, .int .i64 C, .int .i64 D, .int .i64 E, .int .i64 F], .int .i64 x, .int .i64 y] W fun ed w' => ed = .returned (.tuple #[.int .i64 x4, .int .i64 y4, .int .i64 e4]) ∧ Below W.heap.size W w')) (hr4 : (∀ W, Calls Try.prog 47 #[.agg #[.int .i64 A, .int .i64 B, .int .i64 C, .int .i64 D, .int .i64 E, .int .i64 F], .int .i64 x, .int .i64 y] W fun ed w' => ed = .returned (.tuple #[.int .i64 x4, .int .i64 y4, .int .i64 e4]) ∧ Below W.heap.size W w')) :
    Calls Try.prog 12 #[.agg #[.int .i64 A, .int .i64 B, .int .i64 C, .int .i64 D, .int .i64 E, .int .i64 F], .agg #[.int .i64 a, .int .i64 b, .int .i64 c, .int .i64 d, .int .i64 e, .int .i64 f], .int .i64 x, .int .i64 y] w fun ed w' => ed = .returned (.bool true) ∧ Below w.heap.size w w' := by
  have HB1 := Lib.hid (fun W => show Calls Try.prog 30 #[.agg #[.int .i64 A, .int .i64 B, .int .i64 C, .int .i64 D, .int .i64 E, .int .i64 F]] W fun ed w' => ed = .returned (.bool mb) ∧ Below W.heap.size W w' by have := may_any A B C D E F W; rw [hb] at this; exact this)
  have HB2 := Lib.hid (fun W => show Calls Try.prog 38 #[.agg #[.int .i64 A, .int .i64 B, .int .i64 C, .int .i64 D, .int .i64 E, .int .i64 F]] W fun ed w' => ed = .returned (.bool mb) ∧ Below W.heap.size W w' by have := rmay_any A B C D E F W; rw [hb] at this; exact this)
  clear hb
  have Hhm1 := Lib.hid hm1
  have Hhm2 := Lib.hid hm2
  have Hhi1 := Lib.hid hi1
  have Hhi2 := Lib.hid hi2
  have Hhp0 := Lib.hid hp0
  have Hhp1 := Lib.hid hp1
  have Hhp2 := Lib.hid hp2
  have Hhp3 := Lib.hid hp3
  have Hhp4 := Lib.hid hp4
  have Hhr0 := Lib.hid hr0
  have Hhr1 := Lib.hid hr1
  have Hhr2 := Lib.hid hr2
  have Hhr3 := Lib.hid hr3
  have Hhr4 := Lib.hid hr4
  clear hm1 hm2 hi1 hi2 hp0 hp1 hp2 hp3 hp4 hr0 hr1 hr2 hr3 hr4
  have JN := guard_mat_ne
  have J1 : ∀ w, (binOp .neq 23 (.agg #[.int .i64 m0, .int .i64 m1, .int .i64 m2, .int .i64 m3, .int .i64 m4, .int .i64 m5]) (.agg #[.int .i64 m0, .int .i64 m1, .int .i64 m2, .int .i64 m3, .int .i64 m4, .int .i64 m5])).run Try.prog w = .ok (.bool false) w := fun w => by
    have := ne_mat m0 m1 m2 m3 m4 m5 m0 m1 m2 m3 m4 m5 w
    rw [eqB_same] at this
    exact this
  have J2 : ∀ w, (binOp .neq 23 (.agg #[.int .i64 v0, .int .i64 v1, .int .i64 v2, .int .i64 v3, .int .i64 v4, .int .i64 v5]) (.agg #[.int .i64 v0, .int .i64 v1, .int .i64 v2, .int .i64 v3, .int .i64 v4, .int .i64 v5])).run Try.prog w = .ok (.bool false) w := fun w => by
    have := ne_mat v0 v1 v2 v3 v4 v5 v0 v1 v2 v3 v4 v5 w
    rw [eqB_same] at this
    exact this
  cases mb with
  | false =>
    go_enter Try.func12, Try.ntmps12
    go_wp2_with fail
    refine (known_any _).mono ?_
    rintro e_ w1 ⟨rfl, hb1⟩
    have K0 := ((Blk.new w 23 #[.int .i64 A, .int .i64 B, .int .i64 C, .int .i64 D, .int .i64 E, .int .i64 F]).alloc (.cells #[.int .i64 a, .int .i64 b, .int .i64 c, .int .i64 d, .int .i64 e, .int .i64 f] 23)).below hb1 (by simp; omega)
    have K1 := (Blk.new (w.alloc (.cells #[.int .i64 A, .int .i64 B, .int .i64 C, .int .i64 D, .int .i64 E, .int .i64 F] 23)) 23 #[.int .i64 a, .int .i64 b, .int .i64 c, .int .i64 d, .int .i64 e, .int .i64 f]).below hb1 (by simp)
    have hz_K1 : (w.alloc (.cells #[.int .i64 A, .int .i64 B, .int .i64 C, .int .i64 D, .int .i64 E, .int .i64 F] 23)).heap.size = w.heap.size + 1 := by simp
    rw [hz_K1] at K1
    clear hz_K1
    have hbw : Below w.heap.size w w1 := btrans (by (repeat' (first | exact Below.refl _ _ | exact Below.refl _ _ | refine balloc ?_ _ | refine Below.drew ?_ | refine below_drewN ?_ _ | refine bset ?_ (by first | omega | (simp <;> omega)) _))) hb1
    clear hb1
    have lK0 := K0.lt
    have cK00 := K0.cell 0
    have cK01 := K0.cell 1
    have cK02 := K0.cell 2
    have cK03 := K0.cell 3
    have cK04 := K0.cell 4
    have cK05 := K0.cell 5
    have lK1 := K1.lt
    have cK10 := K1.cell 0
    have cK11 := K1.cell 1
    have cK12 := K1.cell 2
    have cK13 := K1.cell 3
    have cK14 := K1.cell 4
    have cK15 := K1.cell 5
    simp only [List.getElem?_toArray, List.getElem?_cons_succ, List.getElem?_cons_zero] at cK00 cK01 cK02 cK03 cK04 cK05 cK10 cK11 cK12 cK13 cK14 cK15
    go_wp2_with fail
    refine (Hhm1.out _).mono ?_
    rintro e_ w2 ⟨rfl, hb2⟩
    replace K0 := K0.below hb2 (by first | exact lK0 | (have := lK0; simp; omega))
    replace K1 := K1.below hb2 (by first | exact lK1 | (have := lK1; simp; omega))
    replace hbw : Below w.heap.size w w2 := btrans (by (repeat' (first | refine bset ?_ (by first | omega | (simp <;> omega)) _ | refine balloc ?_ _ | refine Below.drew ?_ | refine below_drewN ?_ _ | exact hbw | exact Below.refl _ _))) hb2
    clear hb2 lK0 cK00 cK01 cK02 cK03 cK04 cK05 lK1 cK10 cK11 cK12 cK13 cK14 cK15
    have lK0 := K0.lt
    have cK00 := K0.cell 0
    have cK01 := K0.cell 1
    have cK02 := K0.cell 2
    have cK03 := K0.cell 3
    have cK04 := K0.cell 4
    have cK05 := K0.cell 5
    have lK1 := K1.lt
    have cK10 := K1.cell 0
    have cK11 := K1.cell 1
    have cK12 := K1.cell 2
    have cK13 := K1.cell 3
    have cK14 := K1.cell 4
    have cK15 := K1.cell 5
    simp only [List.getElem?_toArray, List.getElem?_cons_succ, List.getElem?_cons_zero] at cK00 cK01 cK02 cK03 cK04 cK05 cK10 cK11 cK12 cK13 cK14 cK15
    go_wp2_with fail
    refine (Hhm2.out _).mono ?_
    rintro e_ w3 ⟨rfl, hb3⟩
    replace K0 := (K0.alloc (.cells #[.int .i64 m0, .int .i64 m1, .int .i64 m2, .int .i64 m3, .int .i64 m4, .int .i64 m5] 23)).below hb3 (by first | exact lK0 | (have := lK0; simp; omega))
    replace K1 := (K1.alloc (.cells #[.int .i64 m0, .int .i64 m1, .int .i64 m2, .int .i64 m3, .int .i64 m4, .int .i64 m5] 23)).below hb3 (by first | exact lK1 | (have := lK1; simp; omega))
    have Ka := (Blk.new w2 23 #[.int .i64 m0, .int .i64 m1, .int .i64 m2, .int .i64 m3, .int .i64 m4, .int .i64 m5]).below hb3 (by simp)
    replace hbw : Below w.heap.size w w3 := btrans (by (repeat' (first | refine bset ?_ (by first | omega | (simp <;> omega)) _ | refine balloc ?_ _ | refine Below.drew ?_ | refine below_drewN ?_ _ | exact hbw | exact Below.refl _ _))) hb3
    clear hb3 lK0 cK00 cK01 cK02 cK03 cK04 cK05 lK1 cK10 cK11 cK12 cK13 cK14 cK15 K1
    have lK0 := K0.lt
    have cK00 := K0.cell 0
    have cK01 := K0.cell 1
    have cK02 := K0.cell 2
    have cK03 := K0.cell 3
    have cK04 := K0.cell 4
    have cK05 := K0.cell 5
    have lKa := Ka.lt
    have cKa0 := Ka.cell 0
    have cKa1 := Ka.cell 1
    have cKa2 := Ka.cell 2
    have cKa3 := Ka.cell 3
    have cKa4 := Ka.cell 4
    have cKa5 := Ka.cell 5
    simp only [List.getElem?_toArray, List.getElem?_cons_succ, List.getElem?_cons_zero] at cK00 cK01 cK02 cK03 cK04 cK05 cKa0 cKa1 cKa2 cKa3 cKa4 cKa5
    go_wp2_with fail
    refine (Hhi1.out _).mono ?_
    rintro e_ w4 ⟨rfl, hb4⟩
    replace K0 := (K0.alloc (.cells #[.int .i64 m0, .int .i64 m1, .int .i64 m2, .int .i64 m3, .int .i64 m4, .int .i64 m5] 23)).below hb4 (by first | exact lK0 | (have := lK0; simp; omega))
    replace Ka := (Ka.alloc (.cells #[.int .i64 m0, .int .i64 m1, .int .i64 m2, .int .i64 m3, .int .i64 m4, .int .i64 m5] 23)).below hb4 (by first | exact lKa | (have := lKa; simp; omega))
    have Kb := (Blk.new w3 23 #[.int .i64 m0, .int .i64 m1, .int .i64 m2, .int .i64 m3, .int .i64 m4, .int .i64 m5]).below hb4 (by simp)
    replace hbw : Below w.heap.size w w4 := btrans (by (repeat' (first | refine bset ?_ (by first | omega | (simp <;> omega)) _ | refine balloc ?_ _ | refine Below.drew ?_ | refine below_drewN ?_ _ | exact hbw | exact Below.refl _ _))) hb4
    clear hb4 lK0 cK00 cK01 cK02 cK03 cK04 cK05 lKa cKa0 cKa1 cKa2 cKa3 cKa4 cKa5
    have lK0 := K0.lt
    have cK00 := K0.cell 0
    have cK01 := K0.cell 1
    have cK02 := K0.cell 2
    have cK03 := K0.cell 3
    have cK04 := K0.cell 4
    have cK05 := K0.cell 5
    have lKa := Ka.lt
    have cKa0 := Ka.cell 0
    have cKa1 := Ka.cell 1
    have cKa2 := Ka.cell 2
    have cKa3 := Ka.cell 3
    have cKa4 := Ka.cell 4
    have cKa5 := Ka.cell 5
    have lKb := Kb.lt
    have cKb0 := Kb.cell 0
    have cKb1 := Kb.cell 1
    have cKb2 := Kb.cell 2
    have cKb3 := Kb.cell 3
    have cKb4 := Kb.cell 4
    have cKb5 := Kb.cell 5
    simp only [List.getElem?_toArray, List.getElem?_cons_succ, List.getElem?_cons_zero] at cK00 cK01 cK02 cK03 cK04 cK05 cKa0 cKa1 cKa2 cKa3 cKa4 cKa5 cKb0 cKb1 cKb2 cKb3 cKb4 cKb5
    go_wp2_with fail
    refine (Hhi2.out _).mono ?_
    rintro e_ w5 ⟨rfl, hb5⟩
    replace K0 := (K0.alloc (.cells #[.int .i64 v0, .int .i64 v1, .int .i64 v2, .int .i64 v3, .int .i64 v4, .int .i64 v5] 23)).below hb5 (by first | exact lK0 | (have := lK0; simp; omega))
    replace Ka := (Ka.alloc (.cells #[.int .i64 v0, .int .i64 v1, .int .i64 v2, .int .i64 v3, .int .i64 v4, .int .i64 v5] 23)).below hb5 (by first | exact lKa | (have := lKa; simp; omega))
    replace Kb := (Kb.alloc (.cells #[.int .i64 v0, .int .i64 v1, .int .i64 v2, .int .i64 v3, .int .i64 v4, .int .i64 v5] 23)).below hb5 (by first | exact lKb | (have := lKb; simp; omega))
    have Kc := (Blk.new w4 23 #[.int .i64 v0, .int .i64 v1, .int .i64 v2, .int .i64 v3, .int .i64 v4, .int .i64 v5]).below hb5 (by simp)
    replace hbw : Below w.heap.size w w5 := btrans (by (repeat' (first | refine bset ?_ (by first | omega | (simp <;> omega)) _ | refine balloc ?_ _ | refine Below.drew ?_ | refine below_drewN ?_ _ | exact hbw | exact Below.refl _ _))) hb5
    clear hb5 lK0 cK00 cK01 cK02 cK03 cK04 cK05 lKa cKa0 cKa1 cKa2 cKa3 cKa4 cKa5 lKb cKb0 cKb1 cKb2 cKb3 cKb4 cKb5
    have lK0 := K0.lt
    have cK00 := K0.cell 0
    have cK01 := K0.cell 1
    have cK02 := K0.cell 2
    have cK03 := K0.cell 3
    have cK04 := K0.cell 4
    have cK05 := K0.cell 5
    have lKa := Ka.lt
    have cKa0 := Ka.cell 0
    have cKa1 := Ka.cell 1
    have cKa2 := Ka.cell 2
    have cKa3 := Ka.cell 3
    have cKa4 := Ka.cell 4
    have cKa5 := Ka.cell 5
    have lKb := Kb.lt
    have cKb0 := Kb.cell 0
    have cKb1 := Kb.cell 1
    have cKb2 := Kb.cell 2
    have cKb3 := Kb.cell 3
    have cKb4 := Kb.cell 4
    have cKb5 := Kb.cell 5
    have lKc := Kc.lt
    have cKc0 := Kc.cell 0
    have cKc1 := Kc.cell 1
    have cKc2 := Kc.cell 2
    have cKc3 := Kc.cell 3
    have cKc4 := Kc.cell 4
    have cKc5 := Kc.cell 5
    simp only [List.getElem?_toArray, List.getElem?_cons_succ, List.getElem?_cons_zero] at cK00 cK01 cK02 cK03 cK04 cK05 cKa0 cKa1 cKa2 cKa3 cKa4 cKa5 cKb0 cKb1 cKb2 cKb3 cKb4 cKb5 cKc0 cKc1 cKc2 cKc3 cKc4 cKc5
    go_wp2_with fail
    replace K0 := K0.alloc (.cells #[.int .i64 v0, .int .i64 v1, .int .i64 v2, .int .i64 v3, .int .i64 v4, .int .i64 v5] 23)
    replace Ka := Ka.alloc (.cells #[.int .i64 v0, .int .i64 v1, .int .i64 v2, .int .i64 v3, .int .i64 v4, .int .i64 v5] 23)
    replace Kb := Kb.alloc (.cells #[.int .i64 v0, .int .i64 v1, .int .i64 v2, .int .i64 v3, .int .i64 v4, .int .i64 v5] 23)
    replace Kc := Kc.alloc (.cells #[.int .i64 v0, .int .i64 v1, .int .i64 v2, .int .i64 v3, .int .i64 v4, .int .i64 v5] 23)
    have Kd := Blk.new w5 23 #[.int .i64 v0, .int .i64 v1, .int .i64 v2, .int .i64 v3, .int .i64 v4, .int .i64 v5]
    replace hbw : Below w.heap.size w (w5.alloc (.cells #[.int .i64 v0, .int .i64 v1, .int .i64 v2, .int .i64 v3, .int .i64 v4, .int .i64 v5] 23)) := by (repeat' (first | refine bset ?_ (by first | omega | (simp <;> omega)) _ | refine balloc ?_ _ | refine Below.drew ?_ | refine below_drewN ?_ _ | exact hbw | exact Below.refl _ _))
    obtain ⟨Pd, hPd⟩ : ∃ P, w5.heap.size = P := ⟨_, rfl⟩
    rw [hPd] at Kd ⊢
    generalize hwx : (w5.alloc (.cells #[.int .i64 v0, .int .i64 v1, .int .i64 v2, .int .i64 v3, .int .i64 v4, .int .i64 v5] 23)) = wz at *
    clear hwx hPd lK0 cK00 cK01 cK02 cK03 cK04 cK05 lKa cKa0 cKa1 cKa2 cKa3 cKa4 cKa5 lKb cKb0 cKb1 cKb2 cKb3 cKb4 cKb5 lKc cKc0 cKc1 cKc2 cKc3 cKc4 cKc5
    have lK0 := K0.lt
    have cK00 := K0.cell 0
    have cK01 := K0.cell 1
    have cK02 := K0.cell 2
    have cK03 := K0.cell 3
    have cK04 := K0.cell 4
    have cK05 := K0.cell 5
    have lKa := Ka.lt
    have cKa0 := Ka.cell 0
    have cKa1 := Ka.cell 1
    have cKa2 := Ka.cell 2
    have cKa3 := Ka.cell 3
    have cKa4 := Ka.cell 4
    have cKa5 := Ka.cell 5
    have lKb := Kb.lt
    have cKb0 := Kb.cell 0
    have cKb1 := Kb.cell 1
    have cKb2 := Kb.cell 2
    have cKb3 := Kb.cell 3
    have cKb4 := Kb.cell 4
    have cKb5 := Kb.cell 5
    have lKc := Kc.lt
    have cKc0 := Kc.cell 0
    have cKc1 := Kc.cell 1
    have cKc2 := Kc.cell 2
    have cKc3 := Kc.cell 3
    have cKc4 := Kc.cell 4
    have cKc5 := Kc.cell 5
    have lKd := Kd.lt
    have cKd0 := Kd.cell 0
    have cKd1 := Kd.cell 1
    have cKd2 := Kd.cell 2
    have cKd3 := Kd.cell 3
    have cKd4 := Kd.cell 4
    have cKd5 := Kd.cell 5
    simp only [List.getElem?_toArray, List.getElem?_cons_succ, List.getElem?_cons_zero] at cK00 cK01 cK02 cK03 cK04 cK05 cKa0 cKa1 cKa2 cKa3 cKa4 cKa5 cKb0 cKb1 cKb2 cKb3 cKb4 cKb5 cKc0 cKc1 cKc2 cKc3 cKc4 cKc5 cKd0 cKd1 cKd2 cKd3 cKd4 cKd5
    have HU1 := Lib.hid (fun u : Up wz => up_of (u := u) (HB1.out u.val))
    have HU2 := Lib.hid (fun u : Up wz => up_of (u := u) (HB2.out u.val))
    have uK00 : ∀ u : Up wz, u.val.cell? ⟨w.heap.size, 0, none⟩ = some (.int .i64 A) := fun u => (u.cell lK0).trans cK00
    have uK01 : ∀ u : Up wz, u.val.cell? ⟨w.heap.size, 1, none⟩ = some (.int .i64 B) := fun u => (u.cell lK0).trans cK01
    have uK02 : ∀ u : Up wz, u.val.cell? ⟨w.heap.size, 2, none⟩ = some (.int .i64 C) := fun u => (u.cell lK0).trans cK02
    have uK03 : ∀ u : Up wz, u.val.cell? ⟨w.heap.size, 3, none⟩ = some (.int .i64 D) := fun u => (u.cell lK0).trans cK03
    have uK04 : ∀ u : Up wz, u.val.cell? ⟨w.heap.size, 4, none⟩ = some (.int .i64 E) := fun u => (u.cell lK0).trans cK04
    have uK05 : ∀ u : Up wz, u.val.cell? ⟨w.heap.size, 5, none⟩ = some (.int .i64 F) := fun u => (u.cell lK0).trans cK05
    have uKa0 : ∀ u : Up wz, u.val.cell? ⟨w2.heap.size, 0, none⟩ = some (.int .i64 m0) := fun u => (u.cell lKa).trans cKa0
    have uKa1 : ∀ u : Up wz, u.val.cell? ⟨w2.heap.size, 1, none⟩ = some (.int .i64 m1) := fun u => (u.cell lKa).trans cKa1
    have uKa2 : ∀ u : Up wz, u.val.cell? ⟨w2.heap.size, 2, none⟩ = some (.int .i64 m2) := fun u => (u.cell lKa).trans cKa2
    have uKa3 : ∀ u : Up wz, u.val.cell? ⟨w2.heap.size, 3, none⟩ = some (.int .i64 m3) := fun u => (u.cell lKa).trans cKa3
    have uKa4 : ∀ u : Up wz, u.val.cell? ⟨w2.heap.size, 4, none⟩ = some (.int .i64 m4) := fun u => (u.cell lKa).trans cKa4
    have uKa5 : ∀ u : Up wz, u.val.cell? ⟨w2.heap.size, 5, none⟩ = some (.int .i64 m5) := fun u => (u.cell lKa).trans cKa5
    have uKb0 : ∀ u : Up wz, u.val.cell? ⟨w3.heap.size, 0, none⟩ = some (.int .i64 m0) := fun u => (u.cell lKb).trans cKb0
    have uKb1 : ∀ u : Up wz, u.val.cell? ⟨w3.heap.size, 1, none⟩ = some (.int .i64 m1) := fun u => (u.cell lKb).trans cKb1
    have uKb2 : ∀ u : Up wz, u.val.cell? ⟨w3.heap.size, 2, none⟩ = some (.int .i64 m2) := fun u => (u.cell lKb).trans cKb2
    have uKb3 : ∀ u : Up wz, u.val.cell? ⟨w3.heap.size, 3, none⟩ = some (.int .i64 m3) := fun u => (u.cell lKb).trans cKb3
    have uKb4 : ∀ u : Up wz, u.val.cell? ⟨w3.heap.size, 4, none⟩ = some (.int .i64 m4) := fun u => (u.cell lKb).trans cKb4
    have uKb5 : ∀ u : Up wz, u.val.cell? ⟨w3.heap.size, 5, none⟩ = some (.int .i64 m5) := fun u => (u.cell lKb).trans cKb5
    have uKc0 : ∀ u : Up wz, u.val.cell? ⟨w4.heap.size, 0, none⟩ = some (.int .i64 v0) := fun u => (u.cell lKc).trans cKc0
    have uKc1 : ∀ u : Up wz, u.val.cell? ⟨w4.heap.size, 1, none⟩ = some (.int .i64 v1) := fun u => (u.cell lKc).trans cKc1
    have uKc2 : ∀ u : Up wz, u.val.cell? ⟨w4.heap.size, 2, none⟩ = some (.int .i64 v2) := fun u => (u.cell lKc).trans cKc2
    have uKc3 : ∀ u : Up wz, u.val.cell? ⟨w4.heap.size, 3, none⟩ = some (.int .i64 v3) := fun u => (u.cell lKc).trans cKc3
    have uKc4 : ∀ u : Up wz, u.val.cell? ⟨w4.heap.size, 4, none⟩ = some (.int .i64 v4) := fun u => (u.cell lKc).trans cKc4
    have uKc5 : ∀ u : Up wz, u.val.cell? ⟨w4.heap.size, 5, none⟩ = some (.int .i64 v5) := fun u => (u.cell lKc).trans cKc5
    have uKd0 : ∀ u : Up wz, u.val.cell? ⟨Pd, 0, none⟩ = some (.int .i64 v0) := fun u => (u.cell lKd).trans cKd0
    have uKd1 : ∀ u : Up wz, u.val.cell? ⟨Pd, 1, none⟩ = some (.int .i64 v1) := fun u => (u.cell lKd).trans cKd1
    have uKd2 : ∀ u : Up wz, u.val.cell? ⟨Pd, 2, none⟩ = some (.int .i64 v2) := fun u => (u.cell lKd).trans cKd2
    have uKd3 : ∀ u : Up wz, u.val.cell? ⟨Pd, 3, none⟩ = some (.int .i64 v3) := fun u => (u.cell lKd).trans cKd3
    have uKd4 : ∀ u : Up wz, u.val.cell? ⟨Pd, 4, none⟩ = some (.int .i64 v4) := fun u => (u.cell lKd).trans cKd4
    have uKd5 : ∀ u : Up wz, u.val.cell? ⟨Pd, 5, none⟩ = some (.int .i64 v5) := fun u => (u.cell lKd).trans cKd5
    refine wp_region_up (by kernel_rfl) (by kernel_rfl) ?_
    repeat (go_big_quiet_step (fail))
    go_big_quiet_step (exact HU1.out _)
    repeat (go_big_quiet_step (fail))
    go_big_quiet_step (exact HU2.out _)
    repeat (go_big_quiet_step (fail))
    refine wpQuiet_nil ?_
    rintro _ ⟨uq, rfl⟩
    replace hbw := btrans hbw uq.ok
    replace K0 := K0.below uq.ok lK0
    generalize hwx : uq.val = wt at *
    clear hwx uq HU1 HU2 Ka Kb Kc Kd uK00 cK00 uK01 cK01 uK02 cK02 uK03 cK03 uK04 cK04 uK05 cK05 uKa0 cKa0 uKa1 cKa1 uKa2 cKa2 uKa3 cKa3 uKa4 cKa4 uKa5 cKa5 uKb0 cKb0 uKb1 cKb1 uKb2 cKb2 uKb3 cKb3 uKb4 cKb4 uKb5 cKb5 uKc0 cKc0 uKc1 cKc1 uKc2 cKc2 uKc3 cKc3 uKc4 cKc4 uKc5 cKc5 uKd0 cKd0 uKd1 cKd1 uKd2 cKd2 uKd3 cKd3 uKd4 cKd4 uKd5 cKd5 lK0 lKa lKb lKc lKd
    have lK0 := K0.lt
    have cK00 := K0.cell 0
    have cK01 := K0.cell 1
    have cK02 := K0.cell 2
    have cK03 := K0.cell 3
    have cK04 := K0.cell 4
    have cK05 := K0.cell 5
    simp only [List.getElem?_toArray, List.getElem?_cons_succ, List.getElem?_cons_zero] at cK00 cK01 cK02 cK03 cK04 cK05
    go_wp2_with fail
    refine (Hhp0.out _).mono ?_
    rintro e_ w6 ⟨rfl, hb6⟩
    replace K0 := K0.below hb6 (by first | exact lK0 | (have := lK0; simp; omega))
    replace hbw : Below w.heap.size w w6 := btrans (by (repeat' (first | refine bset ?_ (by first | omega | (simp <;> omega)) _ | refine balloc ?_ _ | refine Below.drew ?_ | refine below_drewN ?_ _ | exact hbw | exact Below.refl _ _))) hb6
    clear hb6 lK0 cK00 cK01 cK02 cK03 cK04 cK05
    have lK0 := K0.lt
    have cK00 := K0.cell 0
    have cK01 := K0.cell 1
    have cK02 := K0.cell 2
    have cK03 := K0.cell 3
    have cK04 := K0.cell 4
    have cK05 := K0.cell 5
    simp only [List.getElem?_toArray, List.getElem?_cons_succ, List.getElem?_cons_zero] at cK00 cK01 cK02 cK03 cK04 cK05
    go_wp2_with fail
    refine (Hhr0.out _).mono ?_
    rintro e_ w7 ⟨rfl, hb7⟩
    replace K0 := K0.below hb7 (by first | exact lK0 | (have := lK0; simp; omega))
    replace hbw : Below w.heap.size w w7 := btrans (by (repeat' (first | refine bset ?_ (by first | omega | (simp <;> omega)) _ | refine balloc ?_ _ | refine Below.drew ?_ | refine below_drewN ?_ _ | exact hbw | exact Below.refl _ _))) hb7
    clear hb7 lK0 cK00 cK01 cK02 cK03 cK04 cK05
    have lK0 := K0.lt
    have cK00 := K0.cell 0
    have cK01 := K0.cell 1
    have cK02 := K0.cell 2
    have cK03 := K0.cell 3
    have cK04 := K0.cell 4
    have cK05 := K0.cell 5
    simp only [List.getElem?_toArray, List.getElem?_cons_succ, List.getElem?_cons_zero] at cK00 cK01 cK02 cK03 cK04 cK05
    go_wp2_with fail
    refine (Hhp1.out _).mono ?_
    rintro e_ w8 ⟨rfl, hb8⟩
    replace K0 := K0.below hb8 (by first | exact lK0 | (have := lK0; simp; omega))
    replace hbw : Below w.heap.size w w8 := btrans (by (repeat' (first | refine bset ?_ (by first | omega | (simp <;> omega)) _ | refine balloc ?_ _ | refine Below.drew ?_ | refine below_drewN ?_ _ | exact hbw | exact Below.refl _ _))) hb8
    clear hb8 lK0 cK00 cK01 cK02 cK03 cK04 cK05
    have lK0 := K0.lt
    have cK00 := K0.cell 0
    have cK01 := K0.cell 1
    have cK02 := K0.cell 2
    have cK03 := K0.cell 3
    have cK04 := K0.cell 4
    have cK05 := K0.cell 5
    simp only [List.getElem?_toArray, List.getElem?_cons_succ, List.getElem?_cons_zero] at cK00 cK01 cK02 cK03 cK04 cK05
    go_wp2_with fail
    refine (Hhr1.out _).mono ?_
    rintro e_ w9 ⟨rfl, hb9⟩
    replace K0 := K0.below hb9 (by first | exact lK0 | (have := lK0; simp; omega))
    replace hbw : Below w.heap.size w w9 := btrans (by (repeat' (first | refine bset ?_ (by first | omega | (simp <;> omega)) _ | refine balloc ?_ _ | refine Below.drew ?_ | refine below_drewN ?_ _ | exact hbw | exact Below.refl _ _))) hb9
    clear hb9 lK0 cK00 cK01 cK02 cK03 cK04 cK05
    have lK0 := K0.lt
    have cK00 := K0.cell 0
    have cK01 := K0.cell 1
    have cK02 := K0.cell 2
    have cK03 := K0.cell 3
    have cK04 := K0.cell 4
    have cK05 := K0.cell 5
    simp only [List.getElem?_toArray, List.getElem?_cons_succ, List.getElem?_cons_zero] at cK00 cK01 cK02 cK03 cK04 cK05
    go_wp2_with fail
    refine (Hhp2.out _).mono ?_
    rintro e_ w10 ⟨rfl, hb10⟩
    replace K0 := K0.below hb10 (by first | exact lK0 | (have := lK0; simp; omega))
    replace hbw : Below w.heap.size w w10 := btrans (by (repeat' (first | refine bset ?_ (by first | omega | (simp <;> omega)) _ | refine balloc ?_ _ | refine Below.drew ?_ | refine below_drewN ?_ _ | exact hbw | exact Below.refl _ _))) hb10
    clear hb10 lK0 cK00 cK01 cK02 cK03 cK04 cK05
    have lK0 := K0.lt
    have cK00 := K0.cell 0
    have cK01 := K0.cell 1
    have cK02 := K0.cell 2
    have cK03 := K0.cell 3
    have cK04 := K0.cell 4
    have cK05 := K0.cell 5
    simp only [List.getElem?_toArray, List.getElem?_cons_succ, List.getElem?_cons_zero] at cK00 cK01 cK02 cK03 cK04 cK05
    go_wp2_with fail
    refine (Hhr2.out _).mono ?_
    rintro e_ w11 ⟨rfl, hb11⟩
    replace K0 := K0.below hb11 (by first | exact lK0 | (have := lK0; simp; omega))
    replace hbw : Below w.heap.size w w11 := btrans (by (repeat' (first | refine bset ?_ (by first | omega | (simp <;> omega)) _ | refine balloc ?_ _ | refine Below.drew ?_ | refine below_drewN ?_ _ | exact hbw | exact Below.refl _ _))) hb11
    clear hb11 lK0 cK00 cK01 cK02 cK03 cK04 cK05
    have lK0 := K0.lt
    have cK00 := K0.cell 0
    have cK01 := K0.cell 1
    have cK02 := K0.cell 2
    have cK03 := K0.cell 3
    have cK04 := K0.cell 4
    have cK05 := K0.cell 5
    simp only [List.getElem?_toArray, List.getElem?_cons_succ, List.getElem?_cons_zero] at cK00 cK01 cK02 cK03 cK04 cK05
    go_wp2_with fail
    refine (Hhp3.out _).mono ?_
    rintro e_ w12 ⟨rfl, hb12⟩
    replace K0 := K0.below hb12 (by first | exact lK0 | (have := lK0; simp; omega))
    replace hbw : Below w.heap.size w w12 := btrans (by (repeat' (first | refine bset ?_ (by first | omega | (simp <;> omega)) _ | refine balloc ?_ _ | refine Below.drew ?_ | refine below_drewN ?_ _ | exact hbw | exact Below.refl _ _))) hb12
    clear hb12 lK0 cK00 cK01 cK02 cK03 cK04 cK05
    have lK0 := K0.lt
    have cK00 := K0.cell 0
    have cK01 := K0.cell 1
    have cK02 := K0.cell 2
    have cK03 := K0.cell 3
    have cK04 := K0.cell 4
    have cK05 := K0.cell 5
    simp only [List.getElem?_toArray, List.getElem?_cons_succ, List.getElem?_cons_zero] at cK00 cK01 cK02 cK03 cK04 cK05
    go_wp2_with fail
    refine (Hhr3.out _).mono ?_
    rintro e_ w13 ⟨rfl, hb13⟩
    replace K0 := K0.below hb13 (by first | exact lK0 | (have := lK0; simp; omega))
    replace hbw : Below w.heap.size w w13 := btrans (by (repeat' (first | refine bset ?_ (by first | omega | (simp <;> omega)) _ | refine balloc ?_ _ | refine Below.drew ?_ | refine below_drewN ?_ _ | exact hbw | exact Below.refl _ _))) hb13
    clear hb13 lK0 cK00 cK01 cK02 cK03 cK04 cK05
    have lK0 := K0.lt
    have cK00 := K0.cell 0
    have cK01 := K0.cell 1
    have cK02 := K0.cell 2
    have cK03 := K0.cell 3
    have cK04 := K0.cell 4
    have cK05 := K0.cell 5
    simp only [List.getElem?_toArray, List.getElem?_cons_succ, List.getElem?_cons_zero] at cK00 cK01 cK02 cK03 cK04 cK05
    go_wp2_with fail
    refine (Hhp4.out _).mono ?_
    rintro e_ w14 ⟨rfl, hb14⟩
    replace K0 := K0.below hb14 (by first | exact lK0 | (have := lK0; simp; omega))
    replace hbw : Below w.heap.size w w14 := btrans (by (repeat' (first | refine bset ?_ (by first | omega | (simp <;> omega)) _ | refine balloc ?_ _ | refine Below.drew ?_ | refine below_drewN ?_ _ | exact hbw | exact Below.refl _ _))) hb14
    clear hb14 lK0 cK00 cK01 cK02 cK03 cK04 cK05
    have lK0 := K0.lt
    have cK00 := K0.cell 0
    have cK01 := K0.cell 1
    have cK02 := K0.cell 2
    have cK03 := K0.cell 3
    have cK04 := K0.cell 4
    have cK05 := K0.cell 5
    simp only [List.getElem?_toArray, List.getElem?_cons_succ, List.getElem?_cons_zero] at cK00 cK01 cK02 cK03 cK04 cK05
    go_wp2_with fail
    refine (Hhr4.out _).mono ?_
    rintro e_ w15 ⟨rfl, hb15⟩
    replace K0 := K0.below hb15 (by first | exact lK0 | (have := lK0; simp; omega))
    replace hbw : Below w.heap.size w w15 := btrans (by (repeat' (first | refine bset ?_ (by first | omega | (simp <;> omega)) _ | refine balloc ?_ _ | refine Below.drew ?_ | refine below_drewN ?_ _ | exact hbw | exact Below.refl _ _))) hb15
    clear hb15 lK0 cK00 cK01 cK02 cK03 cK04 cK05
    have lK0 := K0.lt
    have cK00 := K0.cell 0
    have cK01 := K0.cell 1
    have cK02 := K0.cell 2
    have cK03 := K0.cell 3
    have cK04 := K0.cell 4
    have cK05 := K0.cell 5
    simp only [List.getElem?_toArray, List.getElem?_cons_succ, List.getElem?_cons_zero] at cK00 cK01 cK02 cK03 cK04 cK05
    go_wp2_with fail
    go_ret
    exact ⟨rfl, hbw⟩
  | true =>
    go_enter Try.func12, Try.ntmps12
    go_wp2_with fail
    refine (known_any _).mono ?_
    rintro e_ w1 ⟨rfl, hb1⟩
    have K0 := ((Blk.new w 23 #[.int .i64 A, .int .i64 B, .int .i64 C, .int .i64 D, .int .i64 E, .int .i64 F]).alloc (.cells #[.int .i64 a, .int .i64 b, .int .i64 c, .int .i64 d, .int .i64 e, .int .i64 f] 23)).below hb1 (by simp; omega)
    have K1 := (Blk.new (w.alloc (.cells #[.int .i64 A, .int .i64 B, .int .i64 C, .int .i64 D, .int .i64 E, .int .i64 F] 23)) 23 #[.int .i64 a, .int .i64 b, .int .i64 c, .int .i64 d, .int .i64 e, .int .i64 f]).below hb1 (by simp)
    have hz_K1 : (w.alloc (.cells #[.int .i64 A, .int .i64 B, .int .i64 C, .int .i64 D, .int .i64 E, .int .i64 F] 23)).heap.size = w.heap.size + 1 := by simp
    rw [hz_K1] at K1
    clear hz_K1
    have hbw : Below w.heap.size w w1 := btrans (by (repeat' (first | exact Below.refl _ _ | exact Below.refl _ _ | refine balloc ?_ _ | refine Below.drew ?_ | refine below_drewN ?_ _ | refine bset ?_ (by first | omega | (simp <;> omega)) _))) hb1
    clear hb1
    have lK0 := K0.lt
    have cK00 := K0.cell 0
    have cK01 := K0.cell 1
    have cK02 := K0.cell 2
    have cK03 := K0.cell 3
    have cK04 := K0.cell 4
    have cK05 := K0.cell 5
    have lK1 := K1.lt
    have cK10 := K1.cell 0
    have cK11 := K1.cell 1
    have cK12 := K1.cell 2
    have cK13 := K1.cell 3
    have cK14 := K1.cell 4
    have cK15 := K1.cell 5
    simp only [List.getElem?_toArray, List.getElem?_cons_succ, List.getElem?_cons_zero] at cK00 cK01 cK02 cK03 cK04 cK05 cK10 cK11 cK12 cK13 cK14 cK15
    go_wp2_with fail
    refine (Hhm1.out _).mono ?_
    rintro e_ w2 ⟨rfl, hb2⟩
    replace K0 := K0.below hb2 (by first | exact lK0 | (have := lK0; simp; omega))
    replace K1 := K1.below hb2 (by first | exact lK1 | (have := lK1; simp; omega))
    replace hbw : Below w.heap.size w w2 := btrans (by (repeat' (first | refine bset ?_ (by first | omega | (simp <;> omega)) _ | refine balloc ?_ _ | refine Below.drew ?_ | refine below_drewN ?_ _ | exact hbw | exact Below.refl _ _))) hb2
    clear hb2 lK0 cK00 cK01 cK02 cK03 cK04 cK05 lK1 cK10 cK11 cK12 cK13 cK14 cK15
    have lK0 := K0.lt
    have cK00 := K0.cell 0
    have cK01 := K0.cell 1
    have cK02 := K0.cell 2
    have cK03 := K0.cell 3
    have cK04 := K0.cell 4
    have cK05 := K0.cell 5
    have lK1 := K1.lt
    have cK10 := K1.cell 0
    have cK11 := K1.cell 1
    have cK12 := K1.cell 2
    have cK13 := K1.cell 3
    have cK14 := K1.cell 4
    have cK15 := K1.cell 5
    simp only [List.getElem?_toArray, List.getElem?_cons_succ, List.getElem?_cons_zero] at cK00 cK01 cK02 cK03 cK04 cK05 cK10 cK11 cK12 cK13 cK14 cK15
    go_wp2_with fail
    refine (Hhm2.out _).mono ?_
    rintro e_ w3 ⟨rfl, hb3⟩
    replace K0 := (K0.alloc (.cells #[.int .i64 m0, .int .i64 m1, .int .i64 m2, .int .i64 m3, .int .i64 m4, .int .i64 m5] 23)).below hb3 (by first | exact lK0 | (have := lK0; simp; omega))
    replace K1 := (K1.alloc (.cells #[.int .i64 m0, .int .i64 m1, .int .i64 m2, .int .i64 m3, .int .i64 m4, .int .i64 m5] 23)).below hb3 (by first | exact lK1 | (have := lK1; simp; omega))
    have Ka := (Blk.new w2 23 #[.int .i64 m0, .int .i64 m1, .int .i64 m2, .int .i64 m3, .int .i64 m4, .int .i64 m5]).below hb3 (by simp)
    replace hbw : Below w.heap.size w w3 := btrans (by (repeat' (first | refine bset ?_ (by first | omega | (simp <;> omega)) _ | refine balloc ?_ _ | refine Below.drew ?_ | refine below_drewN ?_ _ | exact hbw | exact Below.refl _ _))) hb3
    clear hb3 lK0 cK00 cK01 cK02 cK03 cK04 cK05 lK1 cK10 cK11 cK12 cK13 cK14 cK15 K1
    have lK0 := K0.lt
    have cK00 := K0.cell 0
    have cK01 := K0.cell 1
    have cK02 := K0.cell 2
    have cK03 := K0.cell 3
    have cK04 := K0.cell 4
    have cK05 := K0.cell 5
    have lKa := Ka.lt
    have cKa0 := Ka.cell 0
    have cKa1 := Ka.cell 1
    have cKa2 := Ka.cell 2
    have cKa3 := Ka.cell 3
    have cKa4 := Ka.cell 4
    have cKa5 := Ka.cell 5
    simp only [List.getElem?_toArray, List.getElem?_cons_succ, List.getElem?_cons_zero] at cK00 cK01 cK02 cK03 cK04 cK05 cKa0 cKa1 cKa2 cKa3 cKa4 cKa5
    go_wp2_with fail
    refine (Hhi1.out _).mono ?_
    rintro e_ w4 ⟨rfl, hb4⟩
    replace K0 := (K0.alloc (.cells #[.int .i64 m0, .int .i64 m1, .int .i64 m2, .int .i64 m3, .int .i64 m4, .int .i64 m5] 23)).below hb4 (by first | exact lK0 | (have := lK0; simp; omega))
    replace Ka := (Ka.alloc (.cells #[.int .i64 m0, .int .i64 m1, .int .i64 m2, .int .i64 m3, .int .i64 m4, .int .i64 m5] 23)).below hb4 (by first | exact lKa | (have := lKa; simp; omega))
    have Kb := (Blk.new w3 23 #[.int .i64 m0, .int .i64 m1, .int .i64 m2, .int .i64 m3, .int .i64 m4, .int .i64 m5]).below hb4 (by simp)
    replace hbw : Below w.heap.size w w4 := btrans (by (repeat' (first | refine bset ?_ (by first | omega | (simp <;> omega)) _ | refine balloc ?_ _ | refine Below.drew ?_ | refine below_drewN ?_ _ | exact hbw | exact Below.refl _ _))) hb4
    clear hb4 lK0 cK00 cK01 cK02 cK03 cK04 cK05 lKa cKa0 cKa1 cKa2 cKa3 cKa4 cKa5
    have lK0 := K0.lt
    have cK00 := K0.cell 0
    have cK01 := K0.cell 1
    have cK02 := K0.cell 2
    have cK03 := K0.cell 3
    have cK04 := K0.cell 4
    have cK05 := K0.cell 5
    have lKa := Ka.lt
    have cKa0 := Ka.cell 0
    have cKa1 := Ka.cell 1
    have cKa2 := Ka.cell 2
    have cKa3 := Ka.cell 3
    have cKa4 := Ka.cell 4
    have cKa5 := Ka.cell 5
    have lKb := Kb.lt
    have cKb0 := Kb.cell 0
    have cKb1 := Kb.cell 1
    have cKb2 := Kb.cell 2
    have cKb3 := Kb.cell 3
    have cKb4 := Kb.cell 4
    have cKb5 := Kb.cell 5
    simp only [List.getElem?_toArray, List.getElem?_cons_succ, List.getElem?_cons_zero] at cK00 cK01 cK02 cK03 cK04 cK05 cKa0 cKa1 cKa2 cKa3 cKa4 cKa5 cKb0 cKb1 cKb2 cKb3 cKb4 cKb5
    go_wp2_with fail
    refine (Hhi2.out _).mono ?_
    rintro e_ w5 ⟨rfl, hb5⟩
    replace K0 := (K0.alloc (.cells #[.int .i64 v0, .int .i64 v1, .int .i64 v2, .int .i64 v3, .int .i64 v4, .int .i64 v5] 23)).below hb5 (by first | exact lK0 | (have := lK0; simp; omega))
    replace Ka := (Ka.alloc (.cells #[.int .i64 v0, .int .i64 v1, .int .i64 v2, .int .i64 v3, .int .i64 v4, .int .i64 v5] 23)).below hb5 (by first | exact lKa | (have := lKa; simp; omega))
    replace Kb := (Kb.alloc (.cells #[.int .i64 v0, .int .i64 v1, .int .i64 v2, .int .i64 v3, .int .i64 v4, .int .i64 v5] 23)).below hb5 (by first | exact lKb | (have := lKb; simp; omega))
    have Kc := (Blk.new w4 23 #[.int .i64 v0, .int .i64 v1, .int .i64 v2, .int .i64 v3, .int .i64 v4, .int .i64 v5]).below hb5 (by simp)
    replace hbw : Below w.heap.size w w5 := btrans (by (repeat' (first | refine bset ?_ (by first | omega | (simp <;> omega)) _ | refine balloc ?_ _ | refine Below.drew ?_ | refine below_drewN ?_ _ | exact hbw | exact Below.refl _ _))) hb5
    clear hb5 lK0 cK00 cK01 cK02 cK03 cK04 cK05 lKa cKa0 cKa1 cKa2 cKa3 cKa4 cKa5 lKb cKb0 cKb1 cKb2 cKb3 cKb4 cKb5
    have lK0 := K0.lt
    have cK00 := K0.cell 0
    have cK01 := K0.cell 1
    have cK02 := K0.cell 2
    have cK03 := K0.cell 3
    have cK04 := K0.cell 4
    have cK05 := K0.cell 5
    have lKa := Ka.lt
    have cKa0 := Ka.cell 0
    have cKa1 := Ka.cell 1
    have cKa2 := Ka.cell 2
    have cKa3 := Ka.cell 3
    have cKa4 := Ka.cell 4
    have cKa5 := Ka.cell 5
    have lKb := Kb.lt
    have cKb0 := Kb.cell 0
    have cKb1 := Kb.cell 1
    have cKb2 := Kb.cell 2
    have cKb3 := Kb.cell 3
    have cKb4 := Kb.cell 4
    have cKb5 := Kb.cell 5
    have lKc := Kc.lt
    have cKc0 := Kc.cell 0
    have cKc1 := Kc.cell 1
    have cKc2 := Kc.cell 2
    have cKc3 := Kc.cell 3
    have cKc4 := Kc.cell 4
    have cKc5 := Kc.cell 5
    simp only [List.getElem?_toArray, List.getElem?_cons_succ, List.getElem?_cons_zero] at cK00 cK01 cK02 cK03 cK04 cK05 cKa0 cKa1 cKa2 cKa3 cKa4 cKa5 cKb0 cKb1 cKb2 cKb3 cKb4 cKb5 cKc0 cKc1 cKc2 cKc3 cKc4 cKc5
    go_wp2_with fail
    replace K0 := K0.alloc (.cells #[.int .i64 v0, .int .i64 v1, .int .i64 v2, .int .i64 v3, .int .i64 v4, .int .i64 v5] 23)
    replace Ka := Ka.alloc (.cells #[.int .i64 v0, .int .i64 v1, .int .i64 v2, .int .i64 v3, .int .i64 v4, .int .i64 v5] 23)
    replace Kb := Kb.alloc (.cells #[.int .i64 v0, .int .i64 v1, .int .i64 v2, .int .i64 v3, .int .i64 v4, .int .i64 v5] 23)
    replace Kc := Kc.alloc (.cells #[.int .i64 v0, .int .i64 v1, .int .i64 v2, .int .i64 v3, .int .i64 v4, .int .i64 v5] 23)
    have Kd := Blk.new w5 23 #[.int .i64 v0, .int .i64 v1, .int .i64 v2, .int .i64 v3, .int .i64 v4, .int .i64 v5]
    replace hbw : Below w.heap.size w (w5.alloc (.cells #[.int .i64 v0, .int .i64 v1, .int .i64 v2, .int .i64 v3, .int .i64 v4, .int .i64 v5] 23)) := by (repeat' (first | refine bset ?_ (by first | omega | (simp <;> omega)) _ | refine balloc ?_ _ | refine Below.drew ?_ | refine below_drewN ?_ _ | exact hbw | exact Below.refl _ _))
    obtain ⟨Pd, hPd⟩ : ∃ P, w5.heap.size = P := ⟨_, rfl⟩
    rw [hPd] at Kd ⊢
    generalize hwx : (w5.alloc (.cells #[.int .i64 v0, .int .i64 v1, .int .i64 v2, .int .i64 v3, .int .i64 v4, .int .i64 v5] 23)) = wz at *
    clear hwx hPd lK0 cK00 cK01 cK02 cK03 cK04 cK05 lKa cKa0 cKa1 cKa2 cKa3 cKa4 cKa5 lKb cKb0 cKb1 cKb2 cKb3 cKb4 cKb5 lKc cKc0 cKc1 cKc2 cKc3 cKc4 cKc5
    have lK0 := K0.lt
    have cK00 := K0.cell 0
    have cK01 := K0.cell 1
    have cK02 := K0.cell 2
    have cK03 := K0.cell 3
    have cK04 := K0.cell 4
    have cK05 := K0.cell 5
    have lKa := Ka.lt
    have cKa0 := Ka.cell 0
    have cKa1 := Ka.cell 1
    have cKa2 := Ka.cell 2
    have cKa3 := Ka.cell 3
    have cKa4 := Ka.cell 4
    have cKa5 := Ka.cell 5
    have lKb := Kb.lt
    have cKb0 := Kb.cell 0
    have cKb1 := Kb.cell 1
    have cKb2 := Kb.cell 2
    have cKb3 := Kb.cell 3
    have cKb4 := Kb.cell 4
    have cKb5 := Kb.cell 5
    have lKc := Kc.lt
    have cKc0 := Kc.cell 0
    have cKc1 := Kc.cell 1
    have cKc2 := Kc.cell 2
    have cKc3 := Kc.cell 3
    have cKc4 := Kc.cell 4
    have cKc5 := Kc.cell 5
    have lKd := Kd.lt
    have cKd0 := Kd.cell 0
    have cKd1 := Kd.cell 1
    have cKd2 := Kd.cell 2
    have cKd3 := Kd.cell 3
    have cKd4 := Kd.cell 4
    have cKd5 := Kd.cell 5
    simp only [List.getElem?_toArray, List.getElem?_cons_succ, List.getElem?_cons_zero] at cK00 cK01 cK02 cK03 cK04 cK05 cKa0 cKa1 cKa2 cKa3 cKa4 cKa5 cKb0 cKb1 cKb2 cKb3 cKb4 cKb5 cKc0 cKc1 cKc2 cKc3 cKc4 cKc5 cKd0 cKd1 cKd2 cKd3 cKd4 cKd5
    have HU1 := Lib.hid (fun u : Up wz => up_of (u := u) (HB1.out u.val))
    have HU2 := Lib.hid (fun u : Up wz => up_of (u := u) (HB2.out u.val))
    have uK00 : ∀ u : Up wz, u.val.cell? ⟨w.heap.size, 0, none⟩ = some (.int .i64 A) := fun u => (u.cell lK0).trans cK00
    have uK01 : ∀ u : Up wz, u.val.cell? ⟨w.heap.size, 1, none⟩ = some (.int .i64 B) := fun u => (u.cell lK0).trans cK01
    have uK02 : ∀ u : Up wz, u.val.cell? ⟨w.heap.size, 2, none⟩ = some (.int .i64 C) := fun u => (u.cell lK0).trans cK02
    have uK03 : ∀ u : Up wz, u.val.cell? ⟨w.heap.size, 3, none⟩ = some (.int .i64 D) := fun u => (u.cell lK0).trans cK03
    have uK04 : ∀ u : Up wz, u.val.cell? ⟨w.heap.size, 4, none⟩ = some (.int .i64 E) := fun u => (u.cell lK0).trans cK04
    have uK05 : ∀ u : Up wz, u.val.cell? ⟨w.heap.size, 5, none⟩ = some (.int .i64 F) := fun u => (u.cell lK0).trans cK05
    have uKa0 : ∀ u : Up wz, u.val.cell? ⟨w2.heap.size, 0, none⟩ = some (.int .i64 m0) := fun u => (u.cell lKa).trans cKa0
    have uKa1 : ∀ u : Up wz, u.val.cell? ⟨w2.heap.size, 1, none⟩ = some (.int .i64 m1) := fun u => (u.cell lKa).trans cKa1
    have uKa2 : ∀ u : Up wz, u.val.cell? ⟨w2.heap.size, 2, none⟩ = some (.int .i64 m2) := fun u => (u.cell lKa).trans cKa2
    have uKa3 : ∀ u : Up wz, u.val.cell? ⟨w2.heap.size, 3, none⟩ = some (.int .i64 m3) := fun u => (u.cell lKa).trans cKa3
    have uKa4 : ∀ u : Up wz, u.val.cell? ⟨w2.heap.size, 4, none⟩ = some (.int .i64 m4) := fun u => (u.cell lKa).trans cKa4
    have uKa5 : ∀ u : Up wz, u.val.cell? ⟨w2.heap.size, 5, none⟩ = some (.int .i64 m5) := fun u => (u.cell lKa).trans cKa5
    have uKb0 : ∀ u : Up wz, u.val.cell? ⟨w3.heap.size, 0, none⟩ = some (.int .i64 m0) := fun u => (u.cell lKb).trans cKb0
    have uKb1 : ∀ u : Up wz, u.val.cell? ⟨w3.heap.size, 1, none⟩ = some (.int .i64 m1) := fun u => (u.cell lKb).trans cKb1
    have uKb2 : ∀ u : Up wz, u.val.cell? ⟨w3.heap.size, 2, none⟩ = some (.int .i64 m2) := fun u => (u.cell lKb).trans cKb2
    have uKb3 : ∀ u : Up wz, u.val.cell? ⟨w3.heap.size, 3, none⟩ = some (.int .i64 m3) := fun u => (u.cell lKb).trans cKb3
    have uKb4 : ∀ u : Up wz, u.val.cell? ⟨w3.heap.size, 4, none⟩ = some (.int .i64 m4) := fun u => (u.cell lKb).trans cKb4
    have uKb5 : ∀ u : Up wz, u.val.cell? ⟨w3.heap.size, 5, none⟩ = some (.int .i64 m5) := fun u => (u.cell lKb).trans cKb5
    have uKc0 : ∀ u : Up wz, u.val.cell? ⟨w4.heap.size, 0, none⟩ = some (.int .i64 v0) := fun u => (u.cell lKc).trans cKc0
    have uKc1 : ∀ u : Up wz, u.val.cell? ⟨w4.heap.size, 1, none⟩ = some (.int .i64 v1) := fun u => (u.cell lKc).trans cKc1
    have uKc2 : ∀ u : Up wz, u.val.cell? ⟨w4.heap.size, 2, none⟩ = some (.int .i64 v2) := fun u => (u.cell lKc).trans cKc2
    have uKc3 : ∀ u : Up wz, u.val.cell? ⟨w4.heap.size, 3, none⟩ = some (.int .i64 v3) := fun u => (u.cell lKc).trans cKc3
    have uKc4 : ∀ u : Up wz, u.val.cell? ⟨w4.heap.size, 4, none⟩ = some (.int .i64 v4) := fun u => (u.cell lKc).trans cKc4
    have uKc5 : ∀ u : Up wz, u.val.cell? ⟨w4.heap.size, 5, none⟩ = some (.int .i64 v5) := fun u => (u.cell lKc).trans cKc5
    have uKd0 : ∀ u : Up wz, u.val.cell? ⟨Pd, 0, none⟩ = some (.int .i64 v0) := fun u => (u.cell lKd).trans cKd0
    have uKd1 : ∀ u : Up wz, u.val.cell? ⟨Pd, 1, none⟩ = some (.int .i64 v1) := fun u => (u.cell lKd).trans cKd1
    have uKd2 : ∀ u : Up wz, u.val.cell? ⟨Pd, 2, none⟩ = some (.int .i64 v2) := fun u => (u.cell lKd).trans cKd2
    have uKd3 : ∀ u : Up wz, u.val.cell? ⟨Pd, 3, none⟩ = some (.int .i64 v3) := fun u => (u.cell lKd).trans cKd3
    have uKd4 : ∀ u : Up wz, u.val.cell? ⟨Pd, 4, none⟩ = some (.int .i64 v4) := fun u => (u.cell lKd).trans cKd4
    have uKd5 : ∀ u : Up wz, u.val.cell? ⟨Pd, 5, none⟩ = some (.int .i64 v5) := fun u => (u.cell lKd).trans cKd5
    refine wp_region_up (by kernel_rfl) (by kernel_rfl) ?_
    repeat (go_big_quiet_step (fail))
    go_big_quiet_step (exact HU1.out _)
    repeat (go_big_quiet_step (fail))
    go_big_quiet_step (exact HU2.out _)
    repeat (go_big_quiet_step (fail))
    refine wpQuiet_nil ?_
    rintro _ ⟨uq, rfl⟩
    replace hbw := btrans hbw uq.ok
    replace K0 := K0.below uq.ok lK0
    generalize hwx : uq.val = wt at *
    clear hwx uq HU1 HU2 Ka Kb Kc Kd uK00 cK00 uK01 cK01 uK02 cK02 uK03 cK03 uK04 cK04 uK05 cK05 uKa0 cKa0 uKa1 cKa1 uKa2 cKa2 uKa3 cKa3 uKa4 cKa4 uKa5 cKa5 uKb0 cKb0 uKb1 cKb1 uKb2 cKb2 uKb3 cKb3 uKb4 cKb4 uKb5 cKb5 uKc0 cKc0 uKc1 cKc1 uKc2 cKc2 uKc3 cKc3 uKc4 cKc4 uKc5 cKc5 uKd0 cKd0 uKd1 cKd1 uKd2 cKd2 uKd3 cKd3 uKd4 cKd4 uKd5 cKd5 lK0 lKa lKb lKc lKd
    have lK0 := K0.lt
    have cK00 := K0.cell 0
    have cK01 := K0.cell 1
    have cK02 := K0.cell 2
    have cK03 := K0.cell 3
    have cK04 := K0.cell 4
    have cK05 := K0.cell 5
    simp only [List.getElem?_toArray, List.getElem?_cons_succ, List.getElem?_cons_zero] at cK00 cK01 cK02 cK03 cK04 cK05
    go_wp2_with fail
    refine (Hhp0.out _).mono ?_
    rintro e_ w6 ⟨rfl, hb6⟩
    replace K0 := K0.below hb6 (by first | exact lK0 | (have := lK0; simp; omega))
    replace hbw : Below w.heap.size w w6 := btrans (by (repeat' (first | refine bset ?_ (by first | omega | (simp <;> omega)) _ | refine balloc ?_ _ | refine Below.drew ?_ | refine below_drewN ?_ _ | exact hbw | exact Below.refl _ _))) hb6
    clear hb6 lK0 cK00 cK01 cK02 cK03 cK04 cK05
    have lK0 := K0.lt
    have cK00 := K0.cell 0
    have cK01 := K0.cell 1
    have cK02 := K0.cell 2
    have cK03 := K0.cell 3
    have cK04 := K0.cell 4
    have cK05 := K0.cell 5
    simp only [List.getElem?_toArray, List.getElem?_cons_succ, List.getElem?_cons_zero] at cK00 cK01 cK02 cK03 cK04 cK05
    go_wp2_with fail
    refine (Hhr0.out _).mono ?_
    rintro e_ w7 ⟨rfl, hb7⟩
    replace K0 := K0.below hb7 (by first | exact lK0 | (have := lK0; simp; omega))
    replace hbw : Below w.heap.size w w7 := btrans (by (repeat' (first | refine bset ?_ (by first | omega | (simp <;> omega)) _ | refine balloc ?_ _ | refine Below.drew ?_ | refine below_drewN ?_ _ | exact hbw | exact Below.refl _ _))) hb7
    clear hb7 lK0 cK00 cK01 cK02 cK03 cK04 cK05
    have lK0 := K0.lt
    have cK00 := K0.cell 0
    have cK01 := K0.cell 1
    have cK02 := K0.cell 2
    have cK03 := K0.cell 3
    have cK04 := K0.cell 4
    have cK05 := K0.cell 5
    simp only [List.getElem?_toArray, List.getElem?_cons_succ, List.getElem?_cons_zero] at cK00 cK01 cK02 cK03 cK04 cK05
    go_wp2_with fail
    refine (Hhp1.out _).mono ?_
    rintro e_ w8 ⟨rfl, hb8⟩
    replace K0 := K0.below hb8 (by first | exact lK0 | (have := lK0; simp; omega))
    replace hbw : Below w.heap.size w w8 := btrans (by (repeat' (first | refine bset ?_ (by first | omega | (simp <;> omega)) _ | refine balloc ?_ _ | refine Below.drew ?_ | refine below_drewN ?_ _ | exact hbw | exact Below.refl _ _))) hb8
    clear hb8 lK0 cK00 cK01 cK02 cK03 cK04 cK05
    have lK0 := K0.lt
    have cK00 := K0.cell 0
    have cK01 := K0.cell 1
    have cK02 := K0.cell 2
    have cK03 := K0.cell 3
    have cK04 := K0.cell 4
    have cK05 := K0.cell 5
    simp only [List.getElem?_toArray, List.getElem?_cons_succ, List.getElem?_cons_zero] at cK00 cK01 cK02 cK03 cK04 cK05
    go_wp2_with fail
    refine (Hhr1.out _).mono ?_
    rintro e_ w9 ⟨rfl, hb9⟩
    replace K0 := K0.below hb9 (by first | exact lK0 | (have := lK0; simp; omega))
    replace hbw : Below w.heap.size w w9 := btrans (by (repeat' (first | refine bset ?_ (by first | omega | (simp <;> omega)) _ | refine balloc ?_ _ | refine Below.drew ?_ | refine below_drewN ?_ _ | exact hbw | exact Below.refl _ _))) hb9
    clear hb9 lK0 cK00 cK01 cK02 cK03 cK04 cK05
    have lK0 := K0.lt
    have cK00 := K0.cell 0
    have cK01 := K0.cell 1
    have cK02 := K0.cell 2
    have cK03 := K0.cell 3
    have cK04 := K0.cell 4
    have cK05 := K0.cell 5
    simp only [List.getElem?_toArray, List.getElem?_cons_succ, List.getElem?_cons_zero] at cK00 cK01 cK02 cK03 cK04 cK05
    go_wp2_with fail
    refine (Hhp2.out _).mono ?_
    rintro e_ w10 ⟨rfl, hb10⟩
    replace K0 := K0.below hb10 (by first | exact lK0 | (have := lK0; simp; omega))
    replace hbw : Below w.heap.size w w10 := btrans (by (repeat' (first | refine bset ?_ (by first | omega | (simp <;> omega)) _ | refine balloc ?_ _ | refine Below.drew ?_ | refine below_drewN ?_ _ | exact hbw | exact Below.refl _ _))) hb10
    clear hb10 lK0 cK00 cK01 cK02 cK03 cK04 cK05
    have lK0 := K0.lt
    have cK00 := K0.cell 0
    have cK01 := K0.cell 1
    have cK02 := K0.cell 2
    have cK03 := K0.cell 3
    have cK04 := K0.cell 4
    have cK05 := K0.cell 5
    simp only [List.getElem?_toArray, List.getElem?_cons_succ, List.getElem?_cons_zero] at cK00 cK01 cK02 cK03 cK04 cK05
    go_wp2_with fail
    refine (Hhr2.out _).mono ?_
    rintro e_ w11 ⟨rfl, hb11⟩
    replace K0 := K0.below hb11 (by first | exact lK0 | (have := lK0; simp; omega))
    replace hbw : Below w.heap.size w w11 := btrans (by (repeat' (first | refine bset ?_ (by first | omega | (simp <;> omega)) _ | refine balloc ?_ _ | refine Below.drew ?_ | refine below_drewN ?_ _ | exact hbw | exact Below.refl _ _))) hb11
    clear hb11 lK0 cK00 cK01 cK02 cK03 cK04 cK05
    have lK0 := K0.lt
    have cK00 := K0.cell 0
    have cK01 := K0.cell 1
    have cK02 := K0.cell 2
    have cK03 := K0.cell 3
    have cK04 := K0.cell 4
    have cK05 := K0.cell 5
    simp only [List.getElem?_toArray, List.getElem?_cons_succ, List.getElem?_cons_zero] at cK00 cK01 cK02 cK03 cK04 cK05
    go_wp2_with fail
    refine (Hhp3.out _).mono ?_
    rintro e_ w12 ⟨rfl, hb12⟩
    replace K0 := K0.below hb12 (by first | exact lK0 | (have := lK0; simp; omega))
    replace hbw : Below w.heap.size w w12 := btrans (by (repeat' (first | refine bset ?_ (by first | omega | (simp <;> omega)) _ | refine balloc ?_ _ | refine Below.drew ?_ | refine below_drewN ?_ _ | exact hbw | exact Below.refl _ _))) hb12
    clear hb12 lK0 cK00 cK01 cK02 cK03 cK04 cK05
    have lK0 := K0.lt
    have cK00 := K0.cell 0
    have cK01 := K0.cell 1
    have cK02 := K0.cell 2
    have cK03 := K0.cell 3
    have cK04 := K0.cell 4
    have cK05 := K0.cell 5
    simp only [List.getElem?_toArray, List.getElem?_cons_succ, List.getElem?_cons_zero] at cK00 cK01 cK02 cK03 cK04 cK05
    go_wp2_with fail
    refine (Hhr3.out _).mono ?_
    rintro e_ w13 ⟨rfl, hb13⟩
    replace K0 := K0.below hb13 (by first | exact lK0 | (have := lK0; simp; omega))
    replace hbw : Below w.heap.size w w13 := btrans (by (repeat' (first | refine bset ?_ (by first | omega | (simp <;> omega)) _ | refine balloc ?_ _ | refine Below.drew ?_ | refine below_drewN ?_ _ | exact hbw | exact Below.refl _ _))) hb13
    clear hb13 lK0 cK00 cK01 cK02 cK03 cK04 cK05
    have lK0 := K0.lt
    have cK00 := K0.cell 0
    have cK01 := K0.cell 1
    have cK02 := K0.cell 2
    have cK03 := K0.cell 3
    have cK04 := K0.cell 4
    have cK05 := K0.cell 5
    simp only [List.getElem?_toArray, List.getElem?_cons_succ, List.getElem?_cons_zero] at cK00 cK01 cK02 cK03 cK04 cK05
    go_wp2_with fail
    refine (Hhp4.out _).mono ?_
    rintro e_ w14 ⟨rfl, hb14⟩
    replace K0 := K0.below hb14 (by first | exact lK0 | (have := lK0; simp; omega))
    replace hbw : Below w.heap.size w w14 := btrans (by (repeat' (first | refine bset ?_ (by first | omega | (simp <;> omega)) _ | refine balloc ?_ _ | refine Below.drew ?_ | refine below_drewN ?_ _ | exact hbw | exact Below.refl _ _))) hb14
    clear hb14 lK0 cK00 cK01 cK02 cK03 cK04 cK05
    have lK0 := K0.lt
    have cK00 := K0.cell 0
    have cK01 := K0.cell 1
    have cK02 := K0.cell 2
    have cK03 := K0.cell 3
    have cK04 := K0.cell 4
    have cK05 := K0.cell 5
    simp only [List.getElem?_toArray, List.getElem?_cons_succ, List.getElem?_cons_zero] at cK00 cK01 cK02 cK03 cK04 cK05
    go_wp2_with fail
    refine (Hhr4.out _).mono ?_
    rintro e_ w15 ⟨rfl, hb15⟩
    replace K0 := K0.below hb15 (by first | exact lK0 | (have := lK0; simp; omega))
    replace hbw : Below w.heap.size w w15 := btrans (by (repeat' (first | refine bset ?_ (by first | omega | (simp <;> omega)) _ | refine balloc ?_ _ | refine Below.drew ?_ | refine below_drewN ?_ _ | exact hbw | exact Below.refl _ _))) hb15
    clear hb15 lK0 cK00 cK01 cK02 cK03 cK04 cK05
    have lK0 := K0.lt
    have cK00 := K0.cell 0
    have cK01 := K0.cell 1
    have cK02 := K0.cell 2
    have cK03 := K0.cell 3
    have cK04 := K0.cell 4
    have cK05 := K0.cell 5
    simp only [List.getElem?_toArray, List.getElem?_cons_succ, List.getElem?_cons_zero] at cK00 cK01 cK02 cK03 cK04 cK05
    go_wp2_with fail
    go_ret
    exact ⟨rfl, hbw⟩

theorem msays_law (A B C D E F a b c d e f x y : Int) (w : World) (_hA : -9223372036854775808 ≤ A ∧ A ≤ 9223372036854775807) (_hB : -9223372036854775808 ≤ B ∧ B ≤ 9223372036854775807) (_hC : -9223372036854775808 ≤ C ∧ C ≤ 9223372036854775807) (_hD : -9223372036854775808 ≤ D ∧ D ≤ 9223372036854775807) (_hE : -9223372036854775808 ≤ E ∧ E ≤ 9223372036854775807) (_hF : -9223372036854775808 ≤ F ∧ F ≤ 9223372036854775807) (_ha : -9223372036854775808 ≤ a ∧ a ≤ 9223372036854775807) (_hb : -9223372036854775808 ≤ b ∧ b ≤ 9223372036854775807) (_hc : -9223372036854775808 ≤ c ∧ c ≤ 9223372036854775807) (_hd : -9223372036854775808 ≤ d ∧ d ≤ 9223372036854775807) (_he : -9223372036854775808 ≤ e ∧ e ≤ 9223372036854775807) (_hf : -9223372036854775808 ≤ f ∧ f ≤ 9223372036854775807) (_hx : -9223372036854775808 ≤ x ∧ x ≤ 9223372036854775807) (_hy : -9223372036854775808 ≤ y ∧ y ≤ 9223372036854775807) : Calls Try.prog 12 #[.agg #[.int .i64 A, .int .i64 B, .int .i64 C, .int .i64 D, .int .i64 E, .int .i64 F], .agg #[.int .i64 a, .int .i64 b, .int .i64 c, .int .i64 d, .int .i64 e, .int .i64 f], .int .i64 x, .int .i64 y] w fun ed w' => ed = .returned (.bool true) ∧ Below w.heap.size w w' := by
  obtain ⟨m0, m1, m2, m3, m4, m5, me, hm1, hm2⟩ := mul_both A B C D E F a b c d e f
  obtain ⟨v0, v1, v2, v3, v4, v5, ve, hi1, hi2⟩ := invert_both A B C D E F
  obtain ⟨x4, y4, e4, hp4, hr4⟩ := back_both A B C D E F x y
  exact says_walk A B C D E F a b c d e f x y m0 m1 m2 m3 m4 m5 me v0 v1 v2 v3 v4 v5 ve _ _ _ _ _ _ _ _ _ _ _ _ x4 y4 e4 _ w rfl hm1 hm2 hi1 hi2 (fun W => Point_any A B C D E F x y W) (fun W => rPoint_any A B C D E F x y W) (fun W => Vector_any A B C D E F x y W) (fun W => rVector_any A B C D E F x y W) (fun W => Map_any A B C D E F x y W) (fun W => rMap_any A B C D E F x y W) (fun W => Aim_any A B C D E F x y W) (fun W => rAim_any A B C D E F x y W) hp4 hr4
end Go.Proofs.Ytaephahcohdbpaa.mt
