/-
  Layer 24: Invert and Mul give what the reference gives.
-/
import Derived.Test.YtaephahcohdbpaaInvNA
import Derived.Test.YtaephahcohdbpaaInvNB
import Derived.Test.YtaephahcohdbpaaInvNC
import Derived.Test.YtaephahcohdbpaaInvND
import Derived.Test.YtaephahcohdbpaaInvR
import Derived.Test.YtaephahcohdbpaaMulA
import Derived.Test.YtaephahcohdbpaaMulR
import Derived.Test.YtaephahcohdbpaaPts
import Derived.Test.YtaephahcohdbpaaBackR
namespace Go.Proofs.Ytaephahcohdbpaa.mt
set_option linter.unusedVariables false
set_option linter.unusedSimpArgs false
open Go.RowKit bs

set_option maxRecDepth 100000 in
set_option maxHeartbeats 1600000 in
theorem Invert_nomay (A B C D E F : Int) (w : World) (h : mayB A B C D E F = false) : Calls Try.prog 40 #[.agg #[.int .i64 A, .int .i64 B, .int .i64 C, .int .i64 D, .int .i64 E, .int .i64 F]] w fun ed w' => ed = .returned (.tuple #[.agg #[.int .i64 0, .int .i64 0, .int .i64 0, .int .i64 0, .int .i64 0, .int .i64 0], .int .i64 1]) ∧ Below w.heap.size w w' := by
  have HA := Lib.hid (fun W => show Calls Try.prog 30 #[.agg #[.int .i64 A, .int .i64 B, .int .i64 C, .int .i64 D, .int .i64 E, .int .i64 F]] W fun ed w' => ed = .returned (.bool false) ∧ Below W.heap.size W w' by have := may_any A B C D E F W; rw [h] at this; exact this)
  clear h
  have K2 := Blk.new (w.alloc (.cells #[.int .i64 A, .int .i64 B, .int .i64 C, .int .i64 D, .int .i64 E, .int .i64 F] 23)) 23 #[.int .i64 0, .int .i64 0, .int .i64 0, .int .i64 0, .int .i64 0, .int .i64 0]
  have s1 : (w.alloc (.cells #[.int .i64 A, .int .i64 B, .int .i64 C, .int .i64 D, .int .i64 E, .int .i64 F] 23)).heap.size = w.heap.size + 1 := by simp
  rw [s1] at K2
  clear s1
  go_enter Try.func40, Try.ntmps40
  go_wp2_with fail
  refine (HA.out _).mono ?_
  rintro e_ w1 ⟨rfl, hb1⟩
  replace K2 := K2.below hb1 (by simp)
  have hbw : Below w.heap.size w w1 := btrans (by (repeat' (first | exact Below.refl _ _ | exact Below.refl _ _ | refine balloc ?_ _ | refine Below.drew ?_ | refine below_drewN ?_ _ | refine bset ?_ (by first | omega | (simp <;> omega)) _))) hb1
  clear hb1
  have r0 := K2.cell 0
  have zr0 := K2.frozen 0
  have r1 := K2.cell 1
  have zr1 := K2.frozen 1
  have r2 := K2.cell 2
  have zr2 := K2.frozen 2
  have r3 := K2.cell 3
  have zr3 := K2.frozen 3
  have r4 := K2.cell 4
  have zr4 := K2.frozen 4
  have r5 := K2.cell 5
  have zr5 := K2.frozen 5
  simp only [List.getElem?_toArray, List.getElem?_cons_succ, List.getElem?_cons_zero] at r0 r1 r2 r3 r4 r5
  have HK := Lib.hid K2
  have HBW := Lib.hid hbw
  clear K2 hbw
  go_wp2_with fail
  have K := (((((HK.out.set_ 0 (.int .i64 0)).set_ 1 (.int .i64 0)).set_ 2 (.int .i64 0)).set_ 3 (.int .i64 0)).set_ 4 (.int .i64 0)).set_ 5 (.int .i64 0)
  refine ret_struct2 (g := w.heap.size + 1) (t := 23) (cs := #[.int .i64 0, .int .i64 0, .int .i64 0, .int .i64 0, .int .i64 0, .int .i64 0]) rfl rfl ?_ Try.underlying23 rfl rfl rfl ?_
  · exact K
  · exact ⟨rfl, by (repeat' (first | refine bset ?_ (by first | omega | (simp <;> omega)) _ | refine balloc ?_ _ | refine Below.drew ?_ | refine below_drewN ?_ _ | exact HBW.out | exact Below.refl _ _))⟩

theorem may_bad0 (q0 q1 q2 q3 q4 q5 : Int) (h : fixB q0 = false) : mayB q0 q1 q2 q3 q4 q5 = false := by unfold mayB; simp [h]
theorem may_bad1 (q0 q1 q2 q3 q4 q5 : Int) (h : fixB q1 = false) : mayB q0 q1 q2 q3 q4 q5 = false := by unfold mayB; simp [h]
theorem may_bad2 (q0 q1 q2 q3 q4 q5 : Int) (h : fixB q2 = false) : mayB q0 q1 q2 q3 q4 q5 = false := by unfold mayB; simp [h]
theorem may_bad3 (q0 q1 q2 q3 q4 q5 : Int) (h : fixB q3 = false) : mayB q0 q1 q2 q3 q4 q5 = false := by unfold mayB; simp [h]
theorem may_bad4 (q0 q1 q2 q3 q4 q5 : Int) (h : fixB q4 = false) : mayB q0 q1 q2 q3 q4 q5 = false := by unfold mayB; simp [h]
theorem may_bad5 (q0 q1 q2 q3 q4 q5 : Int) (h : fixB q5 = false) : mayB q0 q1 q2 q3 q4 q5 = false := by unfold mayB; simp [h]
theorem invert_both (A B C D E F : Int) : ∃ c0 c1 c2 c3 c4 c5 e : Int, (∀ W, Calls Try.prog 40 #[.agg #[.int .i64 A, .int .i64 B, .int .i64 C, .int .i64 D, .int .i64 E, .int .i64 F]] W fun ed w' => ed = .returned (.tuple #[.agg #[.int .i64 c0, .int .i64 c1, .int .i64 c2, .int .i64 c3, .int .i64 c4, .int .i64 c5], .int .i64 e]) ∧ Below W.heap.size W w') ∧ (∀ W, Calls Try.prog 42 #[.agg #[.int .i64 A, .int .i64 B, .int .i64 C, .int .i64 D, .int .i64 E, .int .i64 F]] W fun ed w' => ed = .returned (.tuple #[.agg #[.int .i64 c0, .int .i64 c1, .int .i64 c2, .int .i64 c3, .int .i64 c4, .int .i64 c5], .int .i64 e]) ∧ Below W.heap.size W w') := by
  cases h : mayB A B C D E F with
  | false => exact ⟨0, 0, 0, 0, 0, 0, 1, fun W => Invert_nomay A B C D E F W h, fun W => rInvert_no A B C D E F W h⟩
  | true =>
    by_cases hd : (A * D - B * C) = 0
    · exact ⟨0, 0, 0, 0, 0, 0, 14, fun W => Invert_zero A B C D E F W h hd, fun W => rInvert_zero A B C D E F W h hd⟩
    · skip
      cases h0 : mulDiv D 4294967296 (A * D - B * C) with
      | none =>
        have e0 : ratioV D 4294967296 (A * D - B * C) = 1073741824 := by unfold ratioV; rw [h0]
        have R0 := fun W => rInvert_yes A B C D E F 1073741824 (ratioV (-B) 4294967296 (A * D - B * C)) (ratioV (-C) 4294967296 (A * D - B * C)) (ratioV A 4294967296 (A * D - B * C)) (ratioV (C * F - D * E) 65536 (A * D - B * C)) (ratioV (B * E - A * F) 65536 (A * D - B * C)) W h hd  e0 rfl rfl rfl rfl rfl
        rw [may_bad0 1073741824 (ratioV (-B) 4294967296 (A * D - B * C)) (ratioV (-C) 4294967296 (A * D - B * C)) (ratioV A 4294967296 (A * D - B * C)) (ratioV (C * F - D * E) 65536 (A * D - B * C)) (ratioV (B * E - A * F) 65536 (A * D - B * C)) (by decide)] at R0
        exact ⟨0, 0, 0, 0, 0, 0, 2, fun W => Invert_no0n A B C D E F 0 0 0 0 0 0 W h hd  h0, R0⟩
      | some q0 =>
        cases g0 : fixB q0 with
        | false =>
          have e0 : ratioV D 4294967296 (A * D - B * C) = 1073741824 := by unfold ratioV; rw [h0]; simp [g0]
          have R0 := fun W => rInvert_yes A B C D E F 1073741824 (ratioV (-B) 4294967296 (A * D - B * C)) (ratioV (-C) 4294967296 (A * D - B * C)) (ratioV A 4294967296 (A * D - B * C)) (ratioV (C * F - D * E) 65536 (A * D - B * C)) (ratioV (B * E - A * F) 65536 (A * D - B * C)) W h hd  e0 rfl rfl rfl rfl rfl
          rw [may_bad0 1073741824 (ratioV (-B) 4294967296 (A * D - B * C)) (ratioV (-C) 4294967296 (A * D - B * C)) (ratioV A 4294967296 (A * D - B * C)) (ratioV (C * F - D * E) 65536 (A * D - B * C)) (ratioV (B * E - A * F) 65536 (A * D - B * C)) (by decide)] at R0
          exact ⟨0, 0, 0, 0, 0, 0, 2, fun W => Invert_no0f A B C D E F q0 0 0 0 0 0 W h hd  h0 g0, R0⟩
        | true =>
          have e0 : ratioV D 4294967296 (A * D - B * C) = q0 := by unfold ratioV; rw [h0]; simp [g0]
          cases h1 : mulDiv (-B) 4294967296 (A * D - B * C) with
          | none =>
            have e1 : ratioV (-B) 4294967296 (A * D - B * C) = 1073741824 := by unfold ratioV; rw [h1]
            have R0 := fun W => rInvert_yes A B C D E F q0 1073741824 (ratioV (-C) 4294967296 (A * D - B * C)) (ratioV A 4294967296 (A * D - B * C)) (ratioV (C * F - D * E) 65536 (A * D - B * C)) (ratioV (B * E - A * F) 65536 (A * D - B * C)) W h hd e0 e1 rfl rfl rfl rfl
            rw [may_bad1 q0 1073741824 (ratioV (-C) 4294967296 (A * D - B * C)) (ratioV A 4294967296 (A * D - B * C)) (ratioV (C * F - D * E) 65536 (A * D - B * C)) (ratioV (B * E - A * F) 65536 (A * D - B * C)) (by decide)] at R0
            exact ⟨0, 0, 0, 0, 0, 0, 2, fun W => Invert_no1n A B C D E F q0 0 0 0 0 0 W h hd h0 g0 h1, R0⟩
          | some q1 =>
            cases g1 : fixB q1 with
            | false =>
              have e1 : ratioV (-B) 4294967296 (A * D - B * C) = 1073741824 := by unfold ratioV; rw [h1]; simp [g1]
              have R0 := fun W => rInvert_yes A B C D E F q0 1073741824 (ratioV (-C) 4294967296 (A * D - B * C)) (ratioV A 4294967296 (A * D - B * C)) (ratioV (C * F - D * E) 65536 (A * D - B * C)) (ratioV (B * E - A * F) 65536 (A * D - B * C)) W h hd e0 e1 rfl rfl rfl rfl
              rw [may_bad1 q0 1073741824 (ratioV (-C) 4294967296 (A * D - B * C)) (ratioV A 4294967296 (A * D - B * C)) (ratioV (C * F - D * E) 65536 (A * D - B * C)) (ratioV (B * E - A * F) 65536 (A * D - B * C)) (by decide)] at R0
              exact ⟨0, 0, 0, 0, 0, 0, 2, fun W => Invert_no1f A B C D E F q0 q1 0 0 0 0 W h hd h0 g0 h1 g1, R0⟩
            | true =>
              have e1 : ratioV (-B) 4294967296 (A * D - B * C) = q1 := by unfold ratioV; rw [h1]; simp [g1]
              cases h2 : mulDiv (-C) 4294967296 (A * D - B * C) with
              | none =>
                have e2 : ratioV (-C) 4294967296 (A * D - B * C) = 1073741824 := by unfold ratioV; rw [h2]
                have R0 := fun W => rInvert_yes A B C D E F q0 q1 1073741824 (ratioV A 4294967296 (A * D - B * C)) (ratioV (C * F - D * E) 65536 (A * D - B * C)) (ratioV (B * E - A * F) 65536 (A * D - B * C)) W h hd e0 e1 e2 rfl rfl rfl
                rw [may_bad2 q0 q1 1073741824 (ratioV A 4294967296 (A * D - B * C)) (ratioV (C * F - D * E) 65536 (A * D - B * C)) (ratioV (B * E - A * F) 65536 (A * D - B * C)) (by decide)] at R0
                exact ⟨0, 0, 0, 0, 0, 0, 2, fun W => Invert_no2n A B C D E F q0 q1 0 0 0 0 W h hd h0 g0 h1 g1 h2, R0⟩
              | some q2 =>
                cases g2 : fixB q2 with
                | false =>
                  have e2 : ratioV (-C) 4294967296 (A * D - B * C) = 1073741824 := by unfold ratioV; rw [h2]; simp [g2]
                  have R0 := fun W => rInvert_yes A B C D E F q0 q1 1073741824 (ratioV A 4294967296 (A * D - B * C)) (ratioV (C * F - D * E) 65536 (A * D - B * C)) (ratioV (B * E - A * F) 65536 (A * D - B * C)) W h hd e0 e1 e2 rfl rfl rfl
                  rw [may_bad2 q0 q1 1073741824 (ratioV A 4294967296 (A * D - B * C)) (ratioV (C * F - D * E) 65536 (A * D - B * C)) (ratioV (B * E - A * F) 65536 (A * D - B * C)) (by decide)] at R0
                  exact ⟨0, 0, 0, 0, 0, 0, 2, fun W => Invert_no2f A B C D E F q0 q1 q2 0 0 0 W h hd h0 g0 h1 g1 h2 g2, R0⟩
                | true =>
                  have e2 : ratioV (-C) 4294967296 (A * D - B * C) = q2 := by unfold ratioV; rw [h2]; simp [g2]
                  cases h3 : mulDiv A 4294967296 (A * D - B * C) with
                  | none =>
                    have e3 : ratioV A 4294967296 (A * D - B * C) = 1073741824 := by unfold ratioV; rw [h3]
                    have R0 := fun W => rInvert_yes A B C D E F q0 q1 q2 1073741824 (ratioV (C * F - D * E) 65536 (A * D - B * C)) (ratioV (B * E - A * F) 65536 (A * D - B * C)) W h hd e0 e1 e2 e3 rfl rfl
                    rw [may_bad3 q0 q1 q2 1073741824 (ratioV (C * F - D * E) 65536 (A * D - B * C)) (ratioV (B * E - A * F) 65536 (A * D - B * C)) (by decide)] at R0
                    exact ⟨0, 0, 0, 0, 0, 0, 2, fun W => Invert_no3n A B C D E F q0 q1 q2 0 0 0 W h hd h0 g0 h1 g1 h2 g2 h3, R0⟩
                  | some q3 =>
                    cases g3 : fixB q3 with
                    | false =>
                      have e3 : ratioV A 4294967296 (A * D - B * C) = 1073741824 := by unfold ratioV; rw [h3]; simp [g3]
                      have R0 := fun W => rInvert_yes A B C D E F q0 q1 q2 1073741824 (ratioV (C * F - D * E) 65536 (A * D - B * C)) (ratioV (B * E - A * F) 65536 (A * D - B * C)) W h hd e0 e1 e2 e3 rfl rfl
                      rw [may_bad3 q0 q1 q2 1073741824 (ratioV (C * F - D * E) 65536 (A * D - B * C)) (ratioV (B * E - A * F) 65536 (A * D - B * C)) (by decide)] at R0
                      exact ⟨0, 0, 0, 0, 0, 0, 2, fun W => Invert_no3f A B C D E F q0 q1 q2 q3 0 0 W h hd h0 g0 h1 g1 h2 g2 h3 g3, R0⟩
                    | true =>
                      have e3 : ratioV A 4294967296 (A * D - B * C) = q3 := by unfold ratioV; rw [h3]; simp [g3]
                      cases h4 : mulDiv (C * F - D * E) 65536 (A * D - B * C) with
                      | none =>
                        have e4 : ratioV (C * F - D * E) 65536 (A * D - B * C) = 1073741824 := by unfold ratioV; rw [h4]
                        have R0 := fun W => rInvert_yes A B C D E F q0 q1 q2 q3 1073741824 (ratioV (B * E - A * F) 65536 (A * D - B * C)) W h hd e0 e1 e2 e3 e4 rfl
                        rw [may_bad4 q0 q1 q2 q3 1073741824 (ratioV (B * E - A * F) 65536 (A * D - B * C)) (by decide)] at R0
                        exact ⟨0, 0, 0, 0, 0, 0, 2, fun W => Invert_no4n A B C D E F q0 q1 q2 q3 0 0 W h hd h0 g0 h1 g1 h2 g2 h3 g3 h4, R0⟩
                      | some q4 =>
                        cases g4 : fixB q4 with
                        | false =>
                          have e4 : ratioV (C * F - D * E) 65536 (A * D - B * C) = 1073741824 := by unfold ratioV; rw [h4]; simp [g4]
                          have R0 := fun W => rInvert_yes A B C D E F q0 q1 q2 q3 1073741824 (ratioV (B * E - A * F) 65536 (A * D - B * C)) W h hd e0 e1 e2 e3 e4 rfl
                          rw [may_bad4 q0 q1 q2 q3 1073741824 (ratioV (B * E - A * F) 65536 (A * D - B * C)) (by decide)] at R0
                          exact ⟨0, 0, 0, 0, 0, 0, 2, fun W => Invert_no4f A B C D E F q0 q1 q2 q3 q4 0 W h hd h0 g0 h1 g1 h2 g2 h3 g3 h4 g4, R0⟩
                        | true =>
                          have e4 : ratioV (C * F - D * E) 65536 (A * D - B * C) = q4 := by unfold ratioV; rw [h4]; simp [g4]
                          cases h5 : mulDiv (B * E - A * F) 65536 (A * D - B * C) with
                          | none =>
                            have e5 : ratioV (B * E - A * F) 65536 (A * D - B * C) = 1073741824 := by unfold ratioV; rw [h5]
                            have R0 := fun W => rInvert_yes A B C D E F q0 q1 q2 q3 q4 1073741824 W h hd e0 e1 e2 e3 e4 e5 
                            rw [may_bad5 q0 q1 q2 q3 q4 1073741824 (by decide)] at R0
                            exact ⟨0, 0, 0, 0, 0, 0, 2, fun W => Invert_no5n A B C D E F q0 q1 q2 q3 q4 0 W h hd h0 g0 h1 g1 h2 g2 h3 g3 h4 g4 h5, R0⟩
                          | some q5 =>
                            cases g5 : fixB q5 with
                            | false =>
                              have e5 : ratioV (B * E - A * F) 65536 (A * D - B * C) = 1073741824 := by unfold ratioV; rw [h5]; simp [g5]
                              have R0 := fun W => rInvert_yes A B C D E F q0 q1 q2 q3 q4 1073741824 W h hd e0 e1 e2 e3 e4 e5 
                              rw [may_bad5 q0 q1 q2 q3 q4 1073741824 (by decide)] at R0
                              exact ⟨0, 0, 0, 0, 0, 0, 2, fun W => Invert_no5f A B C D E F q0 q1 q2 q3 q4 q5 W h hd h0 g0 h1 g1 h2 g2 h3 g3 h4 g4 h5 g5, R0⟩
                            | true =>
                              have e5 : ratioV (B * E - A * F) 65536 (A * D - B * C) = q5 := by unfold ratioV; rw [h5]; simp [g5]
                              have R0 := fun W => rInvert_yes A B C D E F q0 q1 q2 q3 q4 q5 W h hd e0 e1 e2 e3 e4 e5
                              have hm : mayB q0 q1 q2 q3 q4 q5 = true := by unfold mayB; rw [g0, g1, g2, g3, g4, g5]; rfl
                              rw [hm] at R0
                              exact ⟨_, _, _, _, _, _, _, fun W => Invert_yes A B C D E F q0 q1 q2 q3 q4 q5 W h hd h0 g0 h1 g1 h2 g2 h3 g3 h4 g4 h5 g5, R0⟩

theorem mul_both (A B C D E F a b c d e f : Int) : ∃ c0 c1 c2 c3 c4 c5 t : Int, (∀ W, Calls Try.prog 29 #[.agg #[.int .i64 A, .int .i64 B, .int .i64 C, .int .i64 D, .int .i64 E, .int .i64 F], .agg #[.int .i64 a, .int .i64 b, .int .i64 c, .int .i64 d, .int .i64 e, .int .i64 f]] W fun ed w' => ed = .returned (.tuple #[.agg #[.int .i64 c0, .int .i64 c1, .int .i64 c2, .int .i64 c3, .int .i64 c4, .int .i64 c5], .int .i64 t]) ∧ Below W.heap.size W w') ∧ (∀ W, Calls Try.prog 41 #[.agg #[.int .i64 A, .int .i64 B, .int .i64 C, .int .i64 D, .int .i64 E, .int .i64 F], .agg #[.int .i64 a, .int .i64 b, .int .i64 c, .int .i64 d, .int .i64 e, .int .i64 f]] W fun ed w' => ed = .returned (.tuple #[.agg #[.int .i64 c0, .int .i64 c1, .int .i64 c2, .int .i64 c3, .int .i64 c4, .int .i64 c5], .int .i64 t]) ∧ Below W.heap.size W w') := by
  cases h1 : mayB A B C D E F with
  | false => exact ⟨0, 0, 0, 0, 0, 0, 1, fun W => mul_no1 A B C D E F a b c d e f W h1, fun W => rmul_no1 A B C D E F a b c d e f W h1⟩
  | true =>
    cases h2 : mayB a b c d e f with
    | false => exact ⟨0, 0, 0, 0, 0, 0, 1, fun W => mul_no2 A B C D E F a b c d e f W h1 h2, fun W => rmul_no2 A B C D E F a b c d e f W h1 h2⟩
    | true => exact ⟨_, _, _, _, _, _, _, fun W => mul_may A B C D E F a b c d e f W h1 h2, fun W => rmul_yes A B C D E F a b c d e f W h1 h2⟩
end Go.Proofs.Ytaephahcohdbpaa.mt
