/-
  Layer 24 in the seat of the images: good, held (the text of mat/XMay).
-/
import Derived.Test.YtegpjjkbbdfggaaNearI
namespace Go.Proofs.Ytegpjjkbbdfggaa.mt
set_option linter.unusedVariables false
set_option linter.unusedSimpArgs false
open Go.RowKit bs
/-- may a matrix and a point be -/
def goodB (A B C D E F x y : Int) : Bool := mayB A B C D E F && fixB x && fixB y
set_option maxRecDepth 100000 in
theorem good_any (A B C D E F x y : Int) (w : World) : Calls Try.prog 88 #[.agg #[.int .i64 A, .int .i64 B, .int .i64 C, .int .i64 D, .int .i64 E, .int .i64 F], .int .i64 x, .int .i64 y] w fun e w' => e = .returned (.bool (goodB A B C D E F x y)) ∧ Below w.heap.size w w' := by
  cases ha : mayB A B C D E F with
  | false =>
    have HA := Lib.hid (fun W => show Calls Try.prog 66 #[.agg #[.int .i64 A, .int .i64 B, .int .i64 C, .int .i64 D, .int .i64 E, .int .i64 F]] W fun e w' => e = .returned (.bool false) ∧ Below W.heap.size W w' by have := may_any A B C D E F W; rw [ha] at this; exact this)
    rw [show goodB A B C D E F x y = false by unfold goodB; rw [ha]; rfl]
    clear ha
    go_enter Try.func88, Try.ntmps88
    go_wp2_with fail
    refine (HA.out _).mono ?_
    rintro e w' ⟨rfl, hb1⟩
    go_wp2_with fail
    go_ret
    exact ⟨rfl, btrans (by (repeat' (first | exact Below.refl _ _ | exact Below.refl _ _ | refine balloc ?_ _ | refine Below.drew ?_ | refine below_drewN ?_ _ | refine bset ?_ (by first | omega | (simp <;> omega)) _))) hb1⟩
  | true =>
    have HA := Lib.hid (fun W => show Calls Try.prog 66 #[.agg #[.int .i64 A, .int .i64 B, .int .i64 C, .int .i64 D, .int .i64 E, .int .i64 F]] W fun e w' => e = .returned (.bool true) ∧ Below W.heap.size W w' by have := may_any A B C D E F W; rw [ha] at this; exact this)
    cases hx : fixB x with
    | false =>
      have HX := Lib.hid (fun W => show Calls Try.prog 83 #[.int .i64 x] W fun e w' => e = .returned (.bool false) ∧ W = w' by have := fix_any x W; rw [hx] at this; exact this)
      rw [show goodB A B C D E F x y = false by unfold goodB; rw [ha, hx]; rfl]
      clear ha hx
      go_enter Try.func88, Try.ntmps88
      go_wp2_with fail
      refine (HA.out _).mono ?_
      rintro e w' ⟨rfl, hb1⟩
      go_wp2_with fail
      refine (HX.out _).mono ?_
      rintro e w' ⟨rfl, rfl⟩
      go_wp2_with fail
      go_ret
      exact ⟨rfl, btrans (by (repeat' (first | exact Below.refl _ _ | exact Below.refl _ _ | refine balloc ?_ _ | refine Below.drew ?_ | refine below_drewN ?_ _ | refine bset ?_ (by first | omega | (simp <;> omega)) _))) hb1⟩
    | true =>
      have HX := Lib.hid (fun W => show Calls Try.prog 83 #[.int .i64 x] W fun e w' => e = .returned (.bool true) ∧ W = w' by have := fix_any x W; rw [hx] at this; exact this)
      cases hy : fixB y with
      | false =>
        have HY := Lib.hid (fun W => show Calls Try.prog 83 #[.int .i64 y] W fun e w' => e = .returned (.bool false) ∧ W = w' by have := fix_any y W; rw [hy] at this; exact this)
        rw [show goodB A B C D E F x y = false by unfold goodB; rw [ha, hx, hy]; rfl]
        clear ha hx hy
        go_enter Try.func88, Try.ntmps88
        go_wp2_with fail
        refine (HA.out _).mono ?_
        rintro e w' ⟨rfl, hb1⟩
        go_wp2_with fail
        refine (HX.out _).mono ?_
        rintro e w' ⟨rfl, rfl⟩
        go_wp2_with fail
        refine (HY.out _).mono ?_
        rintro e w' ⟨rfl, rfl⟩
        go_wp2_with fail
        go_ret
        exact ⟨rfl, btrans (by (repeat' (first | exact Below.refl _ _ | exact Below.refl _ _ | refine balloc ?_ _ | refine Below.drew ?_ | refine below_drewN ?_ _ | refine bset ?_ (by first | omega | (simp <;> omega)) _))) hb1⟩
      | true =>
        have HY := Lib.hid (fun W => show Calls Try.prog 83 #[.int .i64 y] W fun e w' => e = .returned (.bool true) ∧ W = w' by have := fix_any y W; rw [hy] at this; exact this)
        rw [show goodB A B C D E F x y = true by unfold goodB; rw [ha, hx, hy]; rfl]
        clear ha hx hy
        go_enter Try.func88, Try.ntmps88
        go_wp2_with fail
        refine (HA.out _).mono ?_
        rintro e w' ⟨rfl, hb1⟩
        go_wp2_with fail
        refine (HX.out _).mono ?_
        rintro e w' ⟨rfl, rfl⟩
        go_wp2_with fail
        refine (HY.out _).mono ?_
        rintro e w' ⟨rfl, rfl⟩
        go_wp2_with fail
        go_ret
        exact ⟨rfl, btrans (by (repeat' (first | exact Below.refl _ _ | exact Below.refl _ _ | refine balloc ?_ _ | refine Below.drew ?_ | refine below_drewN ?_ _ | refine bset ?_ (by first | omega | (simp <;> omega)) _))) hb1⟩



set_option maxRecDepth 100000 in
set_option maxHeartbeats 400000 in
theorem held_any_false (A B C D E F : Int) (w : World) (h : mayB A B C D E F = false) : Calls Try.prog 87 #[.agg #[.int .i64 A, .int .i64 B, .int .i64 C, .int .i64 D, .int .i64 E, .int .i64 F]] w fun e w' => e = .returned (.tuple #[.agg #[.int .i64 0, .int .i64 0, .int .i64 0, .int .i64 0, .int .i64 0, .int .i64 0], .int .i64 2]) ∧ Below w.heap.size w w' := by
  have HA := Lib.hid (fun W => show Calls Try.prog 66 #[.agg #[.int .i64 A, .int .i64 B, .int .i64 C, .int .i64 D, .int .i64 E, .int .i64 F]] W fun e w' => e = .returned (.bool false) ∧ Below W.heap.size W w' by have := may_any A B C D E F W; rw [h] at this; exact this)
  clear h
  have K1 := (Blk.new w 25 #[.int .i64 A, .int .i64 B, .int .i64 C, .int .i64 D, .int .i64 E, .int .i64 F]).alloc (.cells #[.int .i64 0, .int .i64 0, .int .i64 0, .int .i64 0, .int .i64 0, .int .i64 0] 25)
  have K2 := Blk.new (w.alloc (.cells #[.int .i64 A, .int .i64 B, .int .i64 C, .int .i64 D, .int .i64 E, .int .i64 F] 25)) 25 #[.int .i64 0, .int .i64 0, .int .i64 0, .int .i64 0, .int .i64 0, .int .i64 0]
  have s1 : (w.alloc (.cells #[.int .i64 A, .int .i64 B, .int .i64 C, .int .i64 D, .int .i64 E, .int .i64 F] 25)).heap.size = w.heap.size + 1 := by simp
  rw [s1] at K2
  go_enter Try.func87, Try.ntmps87
  go_wp2_with fail
  refine (HA.out _).mono ?_
  rintro e w1 ⟨rfl, hb1⟩
  replace K1 := K1.below hb1 (by simp; omega)
  replace K2 := K2.below hb1 (by simp)
  have hbw : Below w.heap.size w w1 := btrans (by (repeat' (first | exact Below.refl _ _ | exact Below.refl _ _ | refine balloc ?_ _ | refine Below.drew ?_ | refine below_drewN ?_ _ | refine bset ?_ (by first | omega | (simp <;> omega)) _))) hb1
  have p0 := K1.cell 0
  have q0 := K2.cell 0
  have f0 := K2.frozen 0
  have p1 := K1.cell 1
  have q1 := K2.cell 1
  have f1 := K2.frozen 1
  have p2 := K1.cell 2
  have q2 := K2.cell 2
  have f2 := K2.frozen 2
  have p3 := K1.cell 3
  have q3 := K2.cell 3
  have f3 := K2.frozen 3
  have p4 := K1.cell 4
  have q4 := K2.cell 4
  have f4 := K2.frozen 4
  have p5 := K1.cell 5
  have q5 := K2.cell 5
  have f5 := K2.frozen 5
  simp only [List.getElem?_toArray, List.getElem?_cons_succ, List.getElem?_cons_zero] at p0 q0 p1 q1 p2 q2 p3 q3 p4 q4 p5 q5
  have HK := Lib.hid (K2)
  have HBW := Lib.hid hbw
  clear K1 K2 hb1 hbw s1
  go_wp2_with fail
  have K := (((((HK.out.set_ 0 (.int .i64 0)).set_ 1 (.int .i64 0)).set_ 2 (.int .i64 0)).set_ 3 (.int .i64 0)).set_ 4 (.int .i64 0)).set_ 5 (.int .i64 0)
  refine ret_struct2 (g := w.heap.size + 1) (t := 25) (cs := #[.int .i64 0, .int .i64 0, .int .i64 0, .int .i64 0, .int .i64 0, .int .i64 0]) rfl rfl ?_ Try.underlying25 rfl rfl rfl ?_
  · exact K
  · exact ⟨rfl, by (repeat' (first | refine bset ?_ (by first | omega | (simp <;> omega)) _ | refine balloc ?_ _ | refine Below.drew ?_ | refine below_drewN ?_ _ | exact HBW.out | exact Below.refl _ _))⟩

set_option maxRecDepth 100000 in
set_option maxHeartbeats 400000 in
theorem held_any_true (A B C D E F : Int) (w : World) (h : mayB A B C D E F = true) : Calls Try.prog 87 #[.agg #[.int .i64 A, .int .i64 B, .int .i64 C, .int .i64 D, .int .i64 E, .int .i64 F]] w fun e w' => e = .returned (.tuple #[.agg #[.int .i64 A, .int .i64 B, .int .i64 C, .int .i64 D, .int .i64 E, .int .i64 F], .int .i64 0]) ∧ Below w.heap.size w w' := by
  have HA := Lib.hid (fun W => show Calls Try.prog 66 #[.agg #[.int .i64 A, .int .i64 B, .int .i64 C, .int .i64 D, .int .i64 E, .int .i64 F]] W fun e w' => e = .returned (.bool true) ∧ Below W.heap.size W w' by have := may_any A B C D E F W; rw [h] at this; exact this)
  clear h
  have K1 := (Blk.new w 25 #[.int .i64 A, .int .i64 B, .int .i64 C, .int .i64 D, .int .i64 E, .int .i64 F]).alloc (.cells #[.int .i64 0, .int .i64 0, .int .i64 0, .int .i64 0, .int .i64 0, .int .i64 0] 25)
  have K2 := Blk.new (w.alloc (.cells #[.int .i64 A, .int .i64 B, .int .i64 C, .int .i64 D, .int .i64 E, .int .i64 F] 25)) 25 #[.int .i64 0, .int .i64 0, .int .i64 0, .int .i64 0, .int .i64 0, .int .i64 0]
  have s1 : (w.alloc (.cells #[.int .i64 A, .int .i64 B, .int .i64 C, .int .i64 D, .int .i64 E, .int .i64 F] 25)).heap.size = w.heap.size + 1 := by simp
  rw [s1] at K2
  go_enter Try.func87, Try.ntmps87
  go_wp2_with fail
  refine (HA.out _).mono ?_
  rintro e w1 ⟨rfl, hb1⟩
  replace K1 := K1.below hb1 (by simp; omega)
  replace K2 := K2.below hb1 (by simp)
  have hbw : Below w.heap.size w w1 := btrans (by (repeat' (first | exact Below.refl _ _ | exact Below.refl _ _ | refine balloc ?_ _ | refine Below.drew ?_ | refine below_drewN ?_ _ | refine bset ?_ (by first | omega | (simp <;> omega)) _))) hb1
  have p0 := K1.cell 0
  have q0 := K2.cell 0
  have f0 := K2.frozen 0
  have p1 := K1.cell 1
  have q1 := K2.cell 1
  have f1 := K2.frozen 1
  have p2 := K1.cell 2
  have q2 := K2.cell 2
  have f2 := K2.frozen 2
  have p3 := K1.cell 3
  have q3 := K2.cell 3
  have f3 := K2.frozen 3
  have p4 := K1.cell 4
  have q4 := K2.cell 4
  have f4 := K2.frozen 4
  have p5 := K1.cell 5
  have q5 := K2.cell 5
  have f5 := K2.frozen 5
  simp only [List.getElem?_toArray, List.getElem?_cons_succ, List.getElem?_cons_zero] at p0 q0 p1 q1 p2 q2 p3 q3 p4 q4 p5 q5
  have HK := Lib.hid (K2)
  have HBW := Lib.hid hbw
  clear K1 K2 hb1 hbw s1
  go_wp2_with fail
  have K := (((((HK.out.set_ 0 (.int .i64 A)).set_ 1 (.int .i64 B)).set_ 2 (.int .i64 C)).set_ 3 (.int .i64 D)).set_ 4 (.int .i64 E)).set_ 5 (.int .i64 F)
  refine ret_struct2 (g := w.heap.size + 1) (t := 25) (cs := #[.int .i64 A, .int .i64 B, .int .i64 C, .int .i64 D, .int .i64 E, .int .i64 F]) rfl rfl ?_ Try.underlying25 rfl rfl rfl ?_
  · exact K
  · exact ⟨rfl, by (repeat' (first | refine bset ?_ (by first | omega | (simp <;> omega)) _ | refine balloc ?_ _ | refine Below.drew ?_ | refine below_drewN ?_ _ | exact HBW.out | exact Below.refl _ _))⟩

set_option maxRecDepth 100000 in
theorem held_any (A B C D E F : Int) (w : World) : Calls Try.prog 87 #[.agg #[.int .i64 A, .int .i64 B, .int .i64 C, .int .i64 D, .int .i64 E, .int .i64 F]] w fun e w' => e = .returned (.tuple #[.agg #[.int .i64 (okI (mayB A B C D E F) A), .int .i64 (okI (mayB A B C D E F) B), .int .i64 (okI (mayB A B C D E F) C), .int .i64 (okI (mayB A B C D E F) D), .int .i64 (okI (mayB A B C D E F) E), .int .i64 (okI (mayB A B C D E F) F)], .int .i64 (okE (mayB A B C D E F))]) ∧ Below w.heap.size w w' := by
  cases h : mayB A B C D E F with
  | false => exact held_any_false A B C D E F w h
  | true => exact held_any_true A B C D E F w h

end Go.Proofs.Ytegpjjkbbdfggaa.mt
