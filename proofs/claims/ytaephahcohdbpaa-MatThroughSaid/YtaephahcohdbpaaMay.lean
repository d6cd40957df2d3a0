/-
  Layer 24: May, held and good, and the reference's in and fair.
-/
import Derived.Test.YtaephahcohdbpaaFix
namespace Go.Proofs.Ytaephahcohdbpaa.mt
set_option linter.unusedVariables false
set_option linter.unusedSimpArgs false
open Go.RowKit bs

theorem ix0 (A B C D E F : Int) (w : World) : (Instr.index 51 (.agg #[.int .i64 A, .int .i64 B, .int .i64 C, .int .i64 D, .int .i64 E, .int .i64 F]) (.int .i64 0)).run Try.prog w = .ok (.int .i64 A) w := by kernel_rfl
theorem ix1 (A B C D E F : Int) (w : World) : (Instr.index 51 (.agg #[.int .i64 A, .int .i64 B, .int .i64 C, .int .i64 D, .int .i64 E, .int .i64 F]) (.int .i64 1)).run Try.prog w = .ok (.int .i64 B) w := by kernel_rfl
theorem ix2 (A B C D E F : Int) (w : World) : (Instr.index 51 (.agg #[.int .i64 A, .int .i64 B, .int .i64 C, .int .i64 D, .int .i64 E, .int .i64 F]) (.int .i64 2)).run Try.prog w = .ok (.int .i64 C) w := by kernel_rfl
theorem ix3 (A B C D E F : Int) (w : World) : (Instr.index 51 (.agg #[.int .i64 A, .int .i64 B, .int .i64 C, .int .i64 D, .int .i64 E, .int .i64 F]) (.int .i64 3)).run Try.prog w = .ok (.int .i64 D) w := by kernel_rfl
theorem ix4 (A B C D E F : Int) (w : World) : (Instr.index 51 (.agg #[.int .i64 A, .int .i64 B, .int .i64 C, .int .i64 D, .int .i64 E, .int .i64 F]) (.int .i64 4)).run Try.prog w = .ok (.int .i64 E) w := by kernel_rfl
theorem ix5 (A B C D E F : Int) (w : World) : (Instr.index 51 (.agg #[.int .i64 A, .int .i64 B, .int .i64 C, .int .i64 D, .int .i64 E, .int .i64 F]) (.int .i64 5)).run Try.prog w = .ok (.int .i64 F) w := by kernel_rfl
def preB (A B C D E F : Int) : Nat → Bool
  | 0 => true
  | 1 => fixB A
  | 2 => fixB A && fixB B
  | 3 => fixB A && fixB B && fixB C
  | 4 => fixB A && fixB B && fixB C && fixB D
  | 5 => fixB A && fixB B && fixB C && fixB D && fixB E
  | _ => mayB A B C D E F

set_option maxHeartbeats 3200000 in
theorem may_any (A B C D E F : Int) (w : World) : Calls Try.prog 30 #[.agg #[.int .i64 A, .int .i64 B, .int .i64 C, .int .i64 D, .int .i64 E, .int .i64 F]] w fun e w' => e = .returned (.bool (mayB A B C D E F)) ∧ Below w.heap.size w w' := by
  have J0 := ix0 A B C D E F
  have HF0 := Lib.hid (fix_any A)
  have J1 := ix1 A B C D E F
  have HF1 := Lib.hid (fix_any B)
  have J2 := ix2 A B C D E F
  have HF2 := Lib.hid (fix_any C)
  have J3 := ix3 A B C D E F
  have HF3 := Lib.hid (fix_any D)
  have J4 := ix4 A B C D E F
  have HF4 := Lib.hid (fix_any E)
  have J5 := ix5 A B C D E F
  have HF5 := Lib.hid (fix_any F)
  obtain ⟨mb, hmb⟩ : ∃ mb, mayB A B C D E F = mb := ⟨_, rfl⟩
  rw [hmb]
  have HM := Lib.hid hmb
  clear hmb
  go_enter Try.func30, Try.ntmps30
  go_wp2_with fail
  go_loop [4, 18] (fun x c => ∃ k : Nat, k ≤ 6 ∧ c = .int .i64 k ∧ Hid (preB A B C D E F k = true)) (fun _ c => 6 - (intOf c).toNat)
  case atStart => exact ⟨0, by omega, rfl, rfl⟩
  case round =>
    obtain ⟨k, hk, rfl, hP⟩ := hrel
    rcases (show k = 0 ∨ k = 1 ∨ k = 2 ∨ k = 3 ∨ k = 4 ∨ k = 5 ∨ k = 6 by omega) with h | h | h | h | h | h | h <;> subst h
    · cases hf : fixB A with
      | false =>
        have HC := Lib.hid (fun W => show Calls Try.prog 51 #[.int .i64 A] W fun e w' => e = .returned (.bool false) ∧ W = w' by have := HF0.out W; rw [hf] at this; exact this)
        have hm : mb = false := by rw [← HM.out]; unfold mayB; simp [hf]
        have HMB := Lib.hid hm
        clear hf hm
        go_wp2_with fail
        refine (HC.out _).mono ?_
        rintro e w' ⟨rfl, rfl⟩
        go_wp2_with fail
        go_ret
        exact ⟨ret_bool HMB.out.symm, by (repeat' (first | exact Below.refl _ _ | exact Below.refl _ _ | refine balloc ?_ _ | refine Below.drew ?_ | refine below_drewN ?_ _ | refine bset ?_ (by first | omega | (simp <;> omega)) _))⟩
      | true =>
        have HC := Lib.hid (fun W => show Calls Try.prog 51 #[.int .i64 A] W fun e w' => e = .returned (.bool true) ∧ W = w' by have := HF0.out W; rw [hf] at this; exact this)
        have hnx : preB A B C D E F 1 = true := by
          have hp := hP.out
          simp only [preB] at hp ⊢
          exact hf
        have HN := Lib.hid hnx
        clear hf hnx
        go_wp2_with fail
        refine (HC.out _).mono ?_
        rintro e w' ⟨rfl, rfl⟩
        go_wp2_with fail
        go_round
        case rel => exact ⟨1, by omega, rfl, HN.out⟩
        case measure => simp [intOf]
    · cases hf : fixB B with
      | false =>
        have HC := Lib.hid (fun W => show Calls Try.prog 51 #[.int .i64 B] W fun e w' => e = .returned (.bool false) ∧ W = w' by have := HF1.out W; rw [hf] at this; exact this)
        have hm : mb = false := by rw [← HM.out]; unfold mayB; simp [hf]
        have HMB := Lib.hid hm
        clear hf hm
        go_wp2_with fail
        refine (HC.out _).mono ?_
        rintro e w' ⟨rfl, rfl⟩
        go_wp2_with fail
        go_ret
        exact ⟨ret_bool HMB.out.symm, by (repeat' (first | exact Below.refl _ _ | exact Below.refl _ _ | refine balloc ?_ _ | refine Below.drew ?_ | refine below_drewN ?_ _ | refine bset ?_ (by first | omega | (simp <;> omega)) _))⟩
      | true =>
        have HC := Lib.hid (fun W => show Calls Try.prog 51 #[.int .i64 B] W fun e w' => e = .returned (.bool true) ∧ W = w' by have := HF1.out W; rw [hf] at this; exact this)
        have hnx : preB A B C D E F 2 = true := by
          have hp := hP.out
          simp only [preB] at hp ⊢
          rw [hp, hf]; rfl
        have HN := Lib.hid hnx
        clear hf hnx
        go_wp2_with fail
        refine (HC.out _).mono ?_
        rintro e w' ⟨rfl, rfl⟩
        go_wp2_with fail
        go_round
        case rel => exact ⟨2, by omega, rfl, HN.out⟩
        case measure => simp [intOf]
    · cases hf : fixB C with
      | false =>
        have HC := Lib.hid (fun W => show Calls Try.prog 51 #[.int .i64 C] W fun e w' => e = .returned (.bool false) ∧ W = w' by have := HF2.out W; rw [hf] at this; exact this)
        have hm : mb = false := by rw [← HM.out]; unfold mayB; simp [hf]
        have HMB := Lib.hid hm
        clear hf hm
        go_wp2_with fail
        refine (HC.out _).mono ?_
        rintro e w' ⟨rfl, rfl⟩
        go_wp2_with fail
        go_ret
        exact ⟨ret_bool HMB.out.symm, by (repeat' (first | exact Below.refl _ _ | exact Below.refl _ _ | refine balloc ?_ _ | refine Below.drew ?_ | refine below_drewN ?_ _ | refine bset ?_ (by first | omega | (simp <;> omega)) _))⟩
      | true =>
        have HC := Lib.hid (fun W => show Calls Try.prog 51 #[.int .i64 C] W fun e w' => e = .returned (.bool true) ∧ W = w' by have := HF2.out W; rw [hf] at this; exact this)
        have hnx : preB A B C D E F 3 = true := by
          have hp := hP.out
          simp only [preB] at hp ⊢
          rw [hp, hf]; rfl
        have HN := Lib.hid hnx
        clear hf hnx
        go_wp2_with fail
        refine (HC.out _).mono ?_
        rintro e w' ⟨rfl, rfl⟩
        go_wp2_with fail
        go_round
        case rel => exact ⟨3, by omega, rfl, HN.out⟩
        case measure => simp [intOf]
    · cases hf : fixB D with
      | false =>
        have HC := Lib.hid (fun W => show Calls Try.prog 51 #[.int .i64 D] W fun e w' => e = .returned (.bool false) ∧ W = w' by have := HF3.out W; rw [hf] at this; exact this)
        have hm : mb = false := by rw [← HM.out]; unfold mayB; simp [hf]
        have HMB := Lib.hid hm
        clear hf hm
        go_wp2_with fail
        refine (HC.out _).mono ?_
        rintro e w' ⟨rfl, rfl⟩
        go_wp2_with fail
        go_ret
        exact ⟨ret_bool HMB.out.symm, by (repeat' (first | exact Below.refl _ _ | exact Below.refl _ _ | refine balloc ?_ _ | refine Below.drew ?_ | refine below_drewN ?_ _ | refine bset ?_ (by first | omega | (simp <;> omega)) _))⟩
      | true =>
        have HC := Lib.hid (fun W => show Calls Try.prog 51 #[.int .i64 D] W fun e w' => e = .returned (.bool true) ∧ W = w' by have := HF3.out W; rw [hf] at this; exact this)
        have hnx : preB A B C D E F 4 = true := by
          have hp := hP.out
          simp only [preB] at hp ⊢
          rw [hp, hf]; rfl
        have HN := Lib.hid hnx
        clear hf hnx
        go_wp2_with fail
        refine (HC.out _).mono ?_
        rintro e w' ⟨rfl, rfl⟩
        go_wp2_with fail
        go_round
        case rel => exact ⟨4, by omega, rfl, HN.out⟩
        case measure => simp [intOf]
    · cases hf : fixB E with
      | false =>
        have HC := Lib.hid (fun W => show Calls Try.prog 51 #[.int .i64 E] W fun e w' => e = .returned (.bool false) ∧ W = w' by have := HF4.out W; rw [hf] at this; exact this)
        have hm : mb = false := by rw [← HM.out]; unfold mayB; simp [hf]
        have HMB := Lib.hid hm
        clear hf hm
        go_wp2_with fail
        refine (HC.out _).mono ?_
        rintro e w' ⟨rfl, rfl⟩
        go_wp2_with fail
        go_ret
        exact ⟨ret_bool HMB.out.symm, by (repeat' (first | exact Below.refl _ _ | exact Below.refl _ _ | refine balloc ?_ _ | refine Below.drew ?_ | refine below_drewN ?_ _ | refine bset ?_ (by first | omega | (simp <;> omega)) _))⟩
      | true =>
        have HC := Lib.hid (fun W => show Calls Try.prog 51 #[.int .i64 E] W fun e w' => e = .returned (.bool true) ∧ W = w' by have := HF4.out W; rw [hf] at this; exact this)
        have hnx : preB A B C D E F 5 = true := by
          have hp := hP.out
          simp only [preB] at hp ⊢
          rw [hp, hf]; rfl
        have HN := Lib.hid hnx
        clear hf hnx
        go_wp2_with fail
        refine (HC.out _).mono ?_
        rintro e w' ⟨rfl, rfl⟩
        go_wp2_with fail
        go_round
        case rel => exact ⟨5, by omega, rfl, HN.out⟩
        case measure => simp [intOf]
    · cases hf : fixB F with
      | false =>
        have HC := Lib.hid (fun W => show Calls Try.prog 51 #[.int .i64 F] W fun e w' => e = .returned (.bool false) ∧ W = w' by have := HF5.out W; rw [hf] at this; exact this)
        have hm : mb = false := by rw [← HM.out]; unfold mayB; simp [hf]
        have HMB := Lib.hid hm
        clear hf hm
        go_wp2_with fail
        refine (HC.out _).mono ?_
        rintro e w' ⟨rfl, rfl⟩
        go_wp2_with fail
        go_ret
        exact ⟨ret_bool HMB.out.symm, by (repeat' (first | exact Below.refl _ _ | exact Below.refl _ _ | refine balloc ?_ _ | refine Below.drew ?_ | refine below_drewN ?_ _ | refine bset ?_ (by first | omega | (simp <;> omega)) _))⟩
      | true =>
        have HC := Lib.hid (fun W => show Calls Try.prog 51 #[.int .i64 F] W fun e w' => e = .returned (.bool true) ∧ W = w' by have := HF5.out W; rw [hf] at this; exact this)
        have hnx : preB A B C D E F 6 = true := by
          have hp := hP.out
          simp only [preB] at hp ⊢
          show (fixB A && fixB B && fixB C && fixB D && fixB E && fixB F) = true
          rw [hp, hf]; rfl
        have HN := Lib.hid hnx
        clear hf hnx
        go_wp2_with fail
        refine (HC.out _).mono ?_
        rintro e w' ⟨rfl, rfl⟩
        go_wp2_with fail
        go_round
        case rel => exact ⟨6, by omega, rfl, HN.out⟩
        case measure => simp [intOf]
    · have hm : mb = true := by rw [← HM.out]; exact hP.out
      have HMB := Lib.hid hm
      clear hm
      go_wp2_with fail
      go_ret
      exact ⟨ret_bool HMB.out.symm, by (repeat' (first | exact Below.refl _ _ | exact Below.refl _ _ | refine balloc ?_ _ | refine Below.drew ?_ | refine below_drewN ?_ _ | refine bset ?_ (by first | omega | (simp <;> omega)) _))⟩

/-- may a matrix and a point be -/
def goodB (A B C D E F x y : Int) : Bool := mayB A B C D E F && fixB x && fixB y
theorem good_any (A B C D E F x y : Int) (w : World) : Calls Try.prog 60 #[.agg #[.int .i64 A, .int .i64 B, .int .i64 C, .int .i64 D, .int .i64 E, .int .i64 F], .int .i64 x, .int .i64 y] w fun e w' => e = .returned (.bool (goodB A B C D E F x y)) ∧ Below w.heap.size w w' := by
  cases ha : mayB A B C D E F with
  | false =>
    have HA := Lib.hid (fun W => show Calls Try.prog 30 #[.agg #[.int .i64 A, .int .i64 B, .int .i64 C, .int .i64 D, .int .i64 E, .int .i64 F]] W fun e w' => e = .returned (.bool false) ∧ Below W.heap.size W w' by have := may_any A B C D E F W; rw [ha] at this; exact this)
    rw [show goodB A B C D E F x y = false by unfold goodB; rw [ha]; rfl]
    clear ha
    go_enter Try.func60, Try.ntmps60
    go_wp2_with fail
    refine (HA.out _).mono ?_
    rintro e w' ⟨rfl, hb1⟩
    go_wp2_with fail
    go_ret
    exact ⟨rfl, btrans (by (repeat' (first | exact Below.refl _ _ | exact Below.refl _ _ | refine balloc ?_ _ | refine Below.drew ?_ | refine below_drewN ?_ _ | refine bset ?_ (by first | omega | (simp <;> omega)) _))) hb1⟩
  | true =>
    have HA := Lib.hid (fun W => show Calls Try.prog 30 #[.agg #[.int .i64 A, .int .i64 B, .int .i64 C, .int .i64 D, .int .i64 E, .int .i64 F]] W fun e w' => e = .returned (.bool true) ∧ Below W.heap.size W w' by have := may_any A B C D E F W; rw [ha] at this; exact this)
    cases hx : fixB x with
    | false =>
      have HX := Lib.hid (fun W => show Calls Try.prog 51 #[.int .i64 x] W fun e w' => e = .returned (.bool false) ∧ W = w' by have := fix_any x W; rw [hx] at this; exact this)
      rw [show goodB A B C D E F x y = false by unfold goodB; rw [ha, hx]; rfl]
      clear ha hx
      go_enter Try.func60, Try.ntmps60
      go_wp2_with fail
      refine (HA.out _).mono ?_
      rintro e w' ⟨rfl, hb1⟩
      go_wp2_with fail
      refine (HX.out _).mono ?_
      rintro e w' ⟨rfl, rfl⟩
      go_wp2_with fail
      go_ret
      exact ⟨rfl, btrans (by (repeat' (first | exact Below.refl _ _ | exact Below.refl _ _ | refine balloc ?_ _ | refine Below.drew ?_ | refine below_drewN ?_ _ | refine bset ?_ (by first | omega | (simp <;> omega)) _))) hb1⟩
    | true =>
      have HX := Lib.hid (fun W => show Calls Try.prog 51 #[.int .i64 x] W fun e w' => e = .returned (.bool true) ∧ W = w' by have := fix_any x W; rw [hx] at this; exact this)
      cases hy : fixB y with
      | false =>
        have HY := Lib.hid (fun W => show Calls Try.prog 51 #[.int .i64 y] W fun e w' => e = .returned (.bool false) ∧ W = w' by have := fix_any y W; rw [hy] at this; exact this)
        rw [show goodB A B C D E F x y = false by unfold goodB; rw [ha, hx, hy]; rfl]
        clear ha hx hy
        go_enter Try.func60, Try.ntmps60
        go_wp2_with fail
        refine (HA.out _).mono ?_
        rintro e w' ⟨rfl, hb1⟩
        go_wp2_with fail
        refine (HX.out _).mono ?_
        rintro e w' ⟨rfl, rfl⟩
        go_wp2_with fail
        refine (HY.out _).mono ?_
        rintro e w' ⟨rfl, rfl⟩
        go_wp2_with fail
        go_ret
        exact ⟨rfl, btrans (by (repeat' (first | exact Below.refl _ _ | exact Below.refl _ _ | refine balloc ?_ _ | refine Below.drew ?_ | refine below_drewN ?_ _ | refine bset ?_ (by first | omega | (simp <;> omega)) _))) hb1⟩
      | true =>
        have HY := Lib.hid (fun W => show Calls Try.prog 51 #[.int .i64 y] W fun e w' => e = .returned (.bool true) ∧ W = w' by have := fix_any y W; rw [hy] at this; exact this)
        rw [show goodB A B C D E F x y = true by unfold goodB; rw [ha, hx, hy]; rfl]
        clear ha hx hy
        go_enter Try.func60, Try.ntmps60
        go_wp2_with fail
        refine (HA.out _).mono ?_
        rintro e w' ⟨rfl, hb1⟩
        go_wp2_with fail
        refine (HX.out _).mono ?_
        rintro e w' ⟨rfl, rfl⟩
        go_wp2_with fail
        refine (HY.out _).mono ?_
        rintro e w' ⟨rfl, rfl⟩
        go_wp2_with fail
        go_ret
        exact ⟨rfl, btrans (by (repeat' (first | exact Below.refl _ _ | exact Below.refl _ _ | refine balloc ?_ _ | refine Below.drew ?_ | refine below_drewN ?_ _ | refine bset ?_ (by first | omega | (simp <;> omega)) _))) hb1⟩



theorem fair_any (A B C D E F x y : Int) (w : World) : Calls Try.prog 66 #[.agg #[.int .i64 A, .int .i64 B, .int .i64 C, .int .i64 D, .int .i64 E, .int .i64 F], .int .i64 x, .int .i64 y] w fun e w' => e = .returned (.bool (goodB A B C D E F x y)) ∧ Below w.heap.size w w' := by
  cases ha : mayB A B C D E F with
  | false =>
    have HA := Lib.hid (fun W => show Calls Try.prog 38 #[.agg #[.int .i64 A, .int .i64 B, .int .i64 C, .int .i64 D, .int .i64 E, .int .i64 F]] W fun e w' => e = .returned (.bool false) ∧ Below W.heap.size W w' by have := rmay_any A B C D E F W; rw [ha] at this; exact this)
    rw [show goodB A B C D E F x y = false by unfold goodB; rw [ha]; rfl]
    clear ha
    go_enter Try.func66, Try.ntmps66
    go_wp2_with fail
    refine (HA.out _).mono ?_
    rintro e w' ⟨rfl, hb1⟩
    go_wp2_with fail
    go_ret
    exact ⟨rfl, btrans (by (repeat' (first | exact Below.refl _ _ | exact Below.refl _ _ | refine balloc ?_ _ | refine Below.drew ?_ | refine below_drewN ?_ _ | refine bset ?_ (by first | omega | (simp <;> omega)) _))) hb1⟩
  | true =>
    have HA := Lib.hid (fun W => show Calls Try.prog 38 #[.agg #[.int .i64 A, .int .i64 B, .int .i64 C, .int .i64 D, .int .i64 E, .int .i64 F]] W fun e w' => e = .returned (.bool true) ∧ Below W.heap.size W w' by have := rmay_any A B C D E F W; rw [ha] at this; exact this)
    cases hx : fixB x with
    | false =>
      have HX := Lib.hid (fun W => show Calls Try.prog 18 #[.int .i64 x] W fun e w' => e = .returned (.bool false) ∧ W = w' by have := rfix_any x W; rw [hx] at this; exact this)
      rw [show goodB A B C D E F x y = false by unfold goodB; rw [ha, hx]; rfl]
      clear ha hx
      go_enter Try.func66, Try.ntmps66
      go_wp2_with fail
      refine (HA.out _).mono ?_
      rintro e w' ⟨rfl, hb1⟩
      go_wp2_with fail
      refine (HX.out _).mono ?_
      rintro e w' ⟨rfl, rfl⟩
      go_wp2_with fail
      go_ret
      exact ⟨rfl, btrans (by (repeat' (first | exact Below.refl _ _ | exact Below.refl _ _ | refine balloc ?_ _ | refine Below.drew ?_ | refine below_drewN ?_ _ | refine bset ?_ (by first | omega | (simp <;> omega)) _))) hb1⟩
    | true =>
      have HX := Lib.hid (fun W => show Calls Try.prog 18 #[.int .i64 x] W fun e w' => e = .returned (.bool true) ∧ W = w' by have := rfix_any x W; rw [hx] at this; exact this)
      cases hy : fixB y with
      | false =>
        have HY := Lib.hid (fun W => show Calls Try.prog 18 #[.int .i64 y] W fun e w' => e = .returned (.bool false) ∧ W = w' by have := rfix_any y W; rw [hy] at this; exact this)
        rw [show goodB A B C D E F x y = false by unfold goodB; rw [ha, hx, hy]; rfl]
        clear ha hx hy
        go_enter Try.func66, Try.ntmps66
        go_wp2_with fail
        refine (HA.out _).mono ?_
        rintro e w' ⟨rfl, hb1⟩
        go_wp2_with fail
        refine (HX.out _).mono ?_
        rintro e w' ⟨rfl, rfl⟩
        go_wp2_with fail
        refine (HY.out _).mono ?_
        rintro e w' ⟨rfl, rfl⟩
        go_wp2_with fail
        go_ret
        exact ⟨rfl, btrans (by (repeat' (first | exact Below.refl _ _ | exact Below.refl _ _ | refine balloc ?_ _ | refine Below.drew ?_ | refine below_drewN ?_ _ | refine bset ?_ (by first | omega | (simp <;> omega)) _))) hb1⟩
      | true =>
        have HY := Lib.hid (fun W => show Calls Try.prog 18 #[.int .i64 y] W fun e w' => e = .returned (.bool true) ∧ W = w' by have := rfix_any y W; rw [hy] at this; exact this)
        rw [show goodB A B C D E F x y = true by unfold goodB; rw [ha, hx, hy]; rfl]
        clear ha hx hy
        go_enter Try.func66, Try.ntmps66
        go_wp2_with fail
        refine (HA.out _).mono ?_
        rintro e w' ⟨rfl, hb1⟩
        go_wp2_with fail
        refine (HX.out _).mono ?_
        rintro e w' ⟨rfl, rfl⟩
        go_wp2_with fail
        refine (HY.out _).mono ?_
        rintro e w' ⟨rfl, rfl⟩
        go_wp2_with fail
        go_ret
        exact ⟨rfl, btrans (by (repeat' (first | exact Below.refl _ _ | exact Below.refl _ _ | refine balloc ?_ _ | refine Below.drew ?_ | refine below_drewN ?_ _ | refine bset ?_ (by first | omega | (simp <;> omega)) _))) hb1⟩

set_option maxHeartbeats 400000 in
theorem held_any_false (A B C D E F : Int) (w : World) (h : mayB A B C D E F = false) : Calls Try.prog 59 #[.agg #[.int .i64 A, .int .i64 B, .int .i64 C, .int .i64 D, .int .i64 E, .int .i64 F]] w fun e w' => e = .returned (.tuple #[.agg #[.int .i64 0, .int .i64 0, .int .i64 0, .int .i64 0, .int .i64 0, .int .i64 0], .int .i64 2]) ∧ Below w.heap.size w w' := by
  have HA := Lib.hid (fun W => show Calls Try.prog 30 #[.agg #[.int .i64 A, .int .i64 B, .int .i64 C, .int .i64 D, .int .i64 E, .int .i64 F]] W fun e w' => e = .returned (.bool false) ∧ Below W.heap.size W w' by have := may_any A B C D E F W; rw [h] at this; exact this)
  clear h
  have K1 := (Blk.new w 23 #[.int .i64 A, .int .i64 B, .int .i64 C, .int .i64 D, .int .i64 E, .int .i64 F]).alloc (.cells #[.int .i64 0, .int .i64 0, .int .i64 0, .int .i64 0, .int .i64 0, .int .i64 0] 23)
  have K2 := Blk.new (w.alloc (.cells #[.int .i64 A, .int .i64 B, .int .i64 C, .int .i64 D, .int .i64 E, .int .i64 F] 23)) 23 #[.int .i64 0, .int .i64 0, .int .i64 0, .int .i64 0, .int .i64 0, .int .i64 0]
  have s1 : (w.alloc (.cells #[.int .i64 A, .int .i64 B, .int .i64 C, .int .i64 D, .int .i64 E, .int .i64 F] 23)).heap.size = w.heap.size + 1 := by simp
  rw [s1] at K2
  go_enter Try.func59, Try.ntmps59
  go_wp2_with fail
  refine (HA.out _).mono ?_
  rintro e w1 ⟨rfl, hb1⟩
  replace K1 := K1.below hb1 (by simp; omega)
  replace K2 := K2.below hb1 (by simp)
  have hbw : Below w.heap.size w w1 := btrans (by (repeat' (first | exact Below.refl _ _ | exact Below.refl _ _ | refine balloc ?_ _ | refine Below.drew ?_ | refine below_drewN ?_ _ | refine bset ?_ (by first | omega | (simp <;> omega)) _))) hb1
  have p0 := K1.cell 0
  have q0 := K2.cell 0
  have f0 := K2.frozen 0
  have p1 := K1.cell 1
  have q1 := K2.cell 1
  have f1 := K2.frozen 1
  have p2 := K1.cell 2
  have q2 := K2.cell 2
  have f2 := K2.frozen 2
  have p3 := K1.cell 3
  have q3 := K2.cell 3
  have f3 := K2.frozen 3
  have p4 := K1.cell 4
  have q4 := K2.cell 4
  have f4 := K2.frozen 4
  have p5 := K1.cell 5
  have q5 := K2.cell 5
  have f5 := K2.frozen 5
  simp only [List.getElem?_toArray, List.getElem?_cons_succ, List.getElem?_cons_zero] at p0 q0 p1 q1 p2 q2 p3 q3 p4 q4 p5 q5
  have HK := Lib.hid (K2)
  have HBW := Lib.hid hbw
  clear K1 K2 hb1 hbw s1
  go_wp2_with fail
  have K := (((((HK.out.set_ 0 (.int .i64 0)).set_ 1 (.int .i64 0)).set_ 2 (.int .i64 0)).set_ 3 (.int .i64 0)).set_ 4 (.int .i64 0)).set_ 5 (.int .i64 0)
  refine ret_struct2 (g := w.heap.size + 1) (t := 23) (cs := #[.int .i64 0, .int .i64 0, .int .i64 0, .int .i64 0, .int .i64 0, .int .i64 0]) rfl rfl ?_ Try.underlying23 rfl rfl rfl ?_
  · exact K
  · exact ⟨rfl, by (repeat' (first | refine bset ?_ (by first | omega | (simp <;> omega)) _ | refine balloc ?_ _ | refine Below.drew ?_ | refine below_drewN ?_ _ | exact HBW.out | exact Below.refl _ _))⟩

set_option maxHeartbeats 400000 in
theorem held_any_true (A B C D E F : Int) (w : World) (h : mayB A B C D E F = true) : Calls Try.prog 59 #[.agg #[.int .i64 A, .int .i64 B, .int .i64 C, .int .i64 D, .int .i64 E, .int .i64 F]] w fun e w' => e = .returned (.tuple #[.agg #[.int .i64 A, .int .i64 B, .int .i64 C, .int .i64 D, .int .i64 E, .int .i64 F], .int .i64 0]) ∧ Below w.heap.size w w' := by
  have HA := Lib.hid (fun W => show Calls Try.prog 30 #[.agg #[.int .i64 A, .int .i64 B, .int .i64 C, .int .i64 D, .int .i64 E, .int .i64 F]] W fun e w' => e = .returned (.bool true) ∧ Below W.heap.size W w' by have := may_any A B C D E F W; rw [h] at this; exact this)
  clear h
  have K1 := (Blk.new w 23 #[.int .i64 A, .int .i64 B, .int .i64 C, .int .i64 D, .int .i64 E, .int .i64 F]).alloc (.cells #[.int .i64 0, .int .i64 0, .int .i64 0, .int .i64 0, .int .i64 0, .int .i64 0] 23)
  have K2 := Blk.new (w.alloc (.cells #[.int .i64 A, .int .i64 B, .int .i64 C, .int .i64 D, .int .i64 E, .int .i64 F] 23)) 23 #[.int .i64 0, .int .i64 0, .int .i64 0, .int .i64 0, .int .i64 0, .int .i64 0]
  have s1 : (w.alloc (.cells #[.int .i64 A, .int .i64 B, .int .i64 C, .int .i64 D, .int .i64 E, .int .i64 F] 23)).heap.size = w.heap.size + 1 := by simp
  rw [s1] at K2
  go_enter Try.func59, Try.ntmps59
  go_wp2_with fail
  refine (HA.out _).mono ?_
  rintro e w1 ⟨rfl, hb1⟩
  replace K1 := K1.below hb1 (by simp; omega)
  replace K2 := K2.below hb1 (by simp)
  have hbw : Below w.heap.size w w1 := btrans (by (repeat' (first | exact Below.refl _ _ | exact Below.refl _ _ | refine balloc ?_ _ | refine Below.drew ?_ | refine below_drewN ?_ _ | refine bset ?_ (by first | omega | (simp <;> omega)) _))) hb1
  have p0 := K1.cell 0
  have q0 := K2.cell 0
  have f0 := K2.frozen 0
  have p1 := K1.cell 1
  have q1 := K2.cell 1
  have f1 := K2.frozen 1
  have p2 := K1.cell 2
  have q2 := K2.cell 2
  have f2 := K2.frozen 2
  have p3 := K1.cell 3
  have q3 := K2.cell 3
  have f3 := K2.frozen 3
  have p4 := K1.cell 4
  have q4 := K2.cell 4
  have f4 := K2.frozen 4
  have p5 := K1.cell 5
  have q5 := K2.cell 5
  have f5 := K2.frozen 5
  simp only [List.getElem?_toArray, List.getElem?_cons_succ, List.getElem?_cons_zero] at p0 q0 p1 q1 p2 q2 p3 q3 p4 q4 p5 q5
  have HK := Lib.hid (K2)
  have HBW := Lib.hid hbw
  clear K1 K2 hb1 hbw s1
  go_wp2_with fail
  have K := (((((HK.out.set_ 0 (.int .i64 A)).set_ 1 (.int .i64 B)).set_ 2 (.int .i64 C)).set_ 3 (.int .i64 D)).set_ 4 (.int .i64 E)).set_ 5 (.int .i64 F)
  refine ret_struct2 (g := w.heap.size + 1) (t := 23) (cs := #[.int .i64 A, .int .i64 B, .int .i64 C, .int .i64 D, .int .i64 E, .int .i64 F]) rfl rfl ?_ Try.underlying23 rfl rfl rfl ?_
  · exact K
  · exact ⟨rfl, by (repeat' (first | refine bset ?_ (by first | omega | (simp <;> omega)) _ | refine balloc ?_ _ | refine Below.drew ?_ | refine below_drewN ?_ _ | exact HBW.out | exact Below.refl _ _))⟩

theorem held_any (A B C D E F : Int) (w : World) : Calls Try.prog 59 #[.agg #[.int .i64 A, .int .i64 B, .int .i64 C, .int .i64 D, .int .i64 E, .int .i64 F]] w fun e w' => e = .returned (.tuple #[.agg #[.int .i64 (okI (mayB A B C D E F) A), .int .i64 (okI (mayB A B C D E F) B), .int .i64 (okI (mayB A B C D E F) C), .int .i64 (okI (mayB A B C D E F) D), .int .i64 (okI (mayB A B C D E F) E), .int .i64 (okI (mayB A B C D E F) F)], .int .i64 (okE (mayB A B C D E F))]) ∧ Below w.heap.size w w' := by
  cases h : mayB A B C D E F with
  | false => exact held_any_false A B C D E F w h
  | true => exact held_any_true A B C D E F w h

set_option maxHeartbeats 400000 in
theorem in_any_false (A B C D E F : Int) (w : World) (h : mayB A B C D E F = false) : Calls Try.prog 63 #[.agg #[.int .i64 A, .int .i64 B, .int .i64 C, .int .i64 D, .int .i64 E, .int .i64 F]] w fun e w' => e = .returned (.tuple #[.agg #[.int .i64 0, .int .i64 0, .int .i64 0, .int .i64 0, .int .i64 0, .int .i64 0], .int .i64 2]) ∧ Below w.heap.size w w' := by
  have HA := Lib.hid (fun W => show Calls Try.prog 38 #[.agg #[.int .i64 A, .int .i64 B, .int .i64 C, .int .i64 D, .int .i64 E, .int .i64 F]] W fun e w' => e = .returned (.bool false) ∧ Below W.heap.size W w' by have := rmay_any A B C D E F W; rw [h] at this; exact this)
  clear h
  have K1 := (Blk.new w 23 #[.int .i64 A, .int .i64 B, .int .i64 C, .int .i64 D, .int .i64 E, .int .i64 F]).alloc (.cells #[.int .i64 0, .int .i64 0, .int .i64 0, .int .i64 0, .int .i64 0, .int .i64 0] 23)
  have K2 := Blk.new (w.alloc (.cells #[.int .i64 A, .int .i64 B, .int .i64 C, .int .i64 D, .int .i64 E, .int .i64 F] 23)) 23 #[.int .i64 0, .int .i64 0, .int .i64 0, .int .i64 0, .int .i64 0, .int .i64 0]
  have s1 : (w.alloc (.cells #[.int .i64 A, .int .i64 B, .int .i64 C, .int .i64 D, .int .i64 E, .int .i64 F] 23)).heap.size = w.heap.size + 1 := by simp
  rw [s1] at K2
  go_enter Try.func63, Try.ntmps63
  go_wp2_with fail
  refine (HA.out _).mono ?_
  rintro e w1 ⟨rfl, hb1⟩
  replace K1 := K1.below hb1 (by simp; omega)
  replace K2 := K2.below hb1 (by simp)
  have hbw : Below w.heap.size w w1 := btrans (by (repeat' (first | exact Below.refl _ _ | exact Below.refl _ _ | refine balloc ?_ _ | refine Below.drew ?_ | refine below_drewN ?_ _ | refine bset ?_ (by first | omega | (simp <;> omega)) _))) hb1
  have p0 := K1.cell 0
  have q0 := K2.cell 0
  have f0 := K2.frozen 0
  have p1 := K1.cell 1
  have q1 := K2.cell 1
  have f1 := K2.frozen 1
  have p2 := K1.cell 2
  have q2 := K2.cell 2
  have f2 := K2.frozen 2
  have p3 := K1.cell 3
  have q3 := K2.cell 3
  have f3 := K2.frozen 3
  have p4 := K1.cell 4
  have q4 := K2.cell 4
  have f4 := K2.frozen 4
  have p5 := K1.cell 5
  have q5 := K2.cell 5
  have f5 := K2.frozen 5
  simp only [List.getElem?_toArray, List.getElem?_cons_succ, List.getElem?_cons_zero] at p0 q0 p1 q1 p2 q2 p3 q3 p4 q4 p5 q5
  have HK := Lib.hid (K2)
  have HBW := Lib.hid hbw
  clear K1 K2 hb1 hbw s1
  go_wp2_with fail
  have K := (((((HK.out.set_ 0 (.int .i64 0)).set_ 1 (.int .i64 0)).set_ 2 (.int .i64 0)).set_ 3 (.int .i64 0)).set_ 4 (.int .i64 0)).set_ 5 (.int .i64 0)
  refine ret_struct2 (g := w.heap.size + 1) (t := 23) (cs := #[.int .i64 0, .int .i64 0, .int .i64 0, .int .i64 0, .int .i64 0, .int .i64 0]) rfl rfl ?_ Try.underlying23 rfl rfl rfl ?_
  · exact K
  · exact ⟨rfl, by (repeat' (first | refine bset ?_ (by first | omega | (simp <;> omega)) _ | refine balloc ?_ _ | refine Below.drew ?_ | refine below_drewN ?_ _ | exact HBW.out | exact Below.refl _ _))⟩

set_option maxHeartbeats 400000 in
theorem in_any_true (A B C D E F : Int) (w : World) (h : mayB A B C D E F = true) : Calls Try.prog 63 #[.agg #[.int .i64 A, .int .i64 B, .int .i64 C, .int .i64 D, .int .i64 E, .int .i64 F]] w fun e w' => e = .returned (.tuple #[.agg #[.int .i64 A, .int .i64 B, .int .i64 C, .int .i64 D, .int .i64 E, .int .i64 F], .int .i64 0]) ∧ Below w.heap.size w w' := by
  have HA := Lib.hid (fun W => show Calls Try.prog 38 #[.agg #[.int .i64 A, .int .i64 B, .int .i64 C, .int .i64 D, .int .i64 E, .int .i64 F]] W fun e w' => e = .returned (.bool true) ∧ Below W.heap.size W w' by have := rmay_any A B C D E F W; rw [h] at this; exact this)
  clear h
  have K1 := (Blk.new w 23 #[.int .i64 A, .int .i64 B, .int .i64 C, .int .i64 D, .int .i64 E, .int .i64 F]).alloc (.cells #[.int .i64 0, .int .i64 0, .int .i64 0, .int .i64 0, .int .i64 0, .int .i64 0] 23)
  have K2 := Blk.new (w.alloc (.cells #[.int .i64 A, .int .i64 B, .int .i64 C, .int .i64 D, .int .i64 E, .int .i64 F] 23)) 23 #[.int .i64 0, .int .i64 0, .int .i64 0, .int .i64 0, .int .i64 0, .int .i64 0]
  have s1 : (w.alloc (.cells #[.int .i64 A, .int .i64 B, .int .i64 C, .int .i64 D, .int .i64 E, .int .i64 F] 23)).heap.size = w.heap.size + 1 := by simp
  rw [s1] at K2
  go_enter Try.func63, Try.ntmps63
  go_wp2_with fail
  refine (HA.out _).mono ?_
  rintro e w1 ⟨rfl, hb1⟩
  replace K1 := K1.below hb1 (by simp; omega)
  replace K2 := K2.below hb1 (by simp)
  have hbw : Below w.heap.size w w1 := btrans (by (repeat' (first | exact Below.refl _ _ | exact Below.refl _ _ | refine balloc ?_ _ | refine Below.drew ?_ | refine below_drewN ?_ _ | refine bset ?_ (by first | omega | (simp <;> omega)) _))) hb1
  have p0 := K1.cell 0
  have q0 := K2.cell 0
  have f0 := K2.frozen 0
  have p1 := K1.cell 1
  have q1 := K2.cell 1
  have f1 := K2.frozen 1
  have p2 := K1.cell 2
  have q2 := K2.cell 2
  have f2 := K2.frozen 2
  have p3 := K1.cell 3
  have q3 := K2.cell 3
  have f3 := K2.frozen 3
  have p4 := K1.cell 4
  have q4 := K2.cell 4
  have f4 := K2.frozen 4
  have p5 := K1.cell 5
  have q5 := K2.cell 5
  have f5 := K2.frozen 5
  simp only [List.getElem?_toArray, List.getElem?_cons_succ, List.getElem?_cons_zero] at p0 q0 p1 q1 p2 q2 p3 q3 p4 q4 p5 q5
  have HK := Lib.hid (K2)
  have HBW := Lib.hid hbw
  clear K1 K2 hb1 hbw s1
  go_wp2_with fail
  have K := (((((HK.out.set_ 0 (.int .i64 A)).set_ 1 (.int .i64 B)).set_ 2 (.int .i64 C)).set_ 3 (.int .i64 D)).set_ 4 (.int .i64 E)).set_ 5 (.int .i64 F)
  refine ret_struct2 (g := w.heap.size + 1) (t := 23) (cs := #[.int .i64 A, .int .i64 B, .int .i64 C, .int .i64 D, .int .i64 E, .int .i64 F]) rfl rfl ?_ Try.underlying23 rfl rfl rfl ?_
  · exact K
  · exact ⟨rfl, by (repeat' (first | refine bset ?_ (by first | omega | (simp <;> omega)) _ | refine balloc ?_ _ | refine Below.drew ?_ | refine below_drewN ?_ _ | exact HBW.out | exact Below.refl _ _))⟩

theorem in_any (A B C D E F : Int) (w : World) : Calls Try.prog 63 #[.agg #[.int .i64 A, .int .i64 B, .int .i64 C, .int .i64 D, .int .i64 E, .int .i64 F]] w fun e w' => e = .returned (.tuple #[.agg #[.int .i64 (okI (mayB A B C D E F) A), .int .i64 (okI (mayB A B C D E F) B), .int .i64 (okI (mayB A B C D E F) C), .int .i64 (okI (mayB A B C D E F) D), .int .i64 (okI (mayB A B C D E F) E), .int .i64 (okI (mayB A B C D E F) F)], .int .i64 (okE (mayB A B C D E F))]) ∧ Below w.heap.size w w' := by
  cases h : mayB A B C D E F with
  | false => exact in_any_false A B C D E F w h
  | true => exact in_any_true A B C D E F w h

end Go.Proofs.Ytaephahcohdbpaa.mt
