/-
  Of layer 24: what a fix is, which matrices may be (for the seat of the images; the text of mat/XFix and mat/XMay).
-/
import Derived.Test.YtegpjjkbbdfggaaMem
import Derived.Test.YtegpjjkbbdfggaaUp
namespace Go.Proofs.Ytegpjjkbbdfggaa.mt
set_option linter.unusedVariables false
set_option linter.unusedSimpArgs false
open Go.RowKit bs

/-- may a number be a fix -/
def fixB (v : Int) : Bool := decide (-1073741823 ≤ v) && decide (v ≤ 1073741823)
theorem fixB_true {v : Int} (h : -1073741823 ≤ v ∧ v ≤ 1073741823) : fixB v = true := by unfold fixB; simp; omega
theorem fixB_false {v : Int} (h : v < -1073741823 ∨ 1073741823 < v) : fixB v = false := by unfold fixB; simp; omega
theorem fixB_bd {v : Int} (h : fixB v = true) : -1073741823 ≤ v ∧ v ≤ 1073741823 := by unfold fixB at h; simpa using h
/-- a product of two fixes -/
theorem fix_mul {a b : Int} (ha : -1073741823 ≤ a ∧ a ≤ 1073741823) (hb : -1073741823 ≤ b ∧ b ≤ 1073741823) : -1152921502459363329 ≤ a * b ∧ a * b ≤ 1152921502459363329 := by
  have h1 := Int.mul_nonneg (show 0 ≤ 1073741823 - a by omega) (show 0 ≤ 1073741823 - b by omega)
  have h2 := Int.mul_nonneg (show 0 ≤ 1073741823 + a by omega) (show 0 ≤ 1073741823 + b by omega)
  have h3 := Int.mul_nonneg (show 0 ≤ 1073741823 - a by omega) (show 0 ≤ 1073741823 + b by omega)
  have h4 := Int.mul_nonneg (show 0 ≤ 1073741823 + a by omega) (show 0 ≤ 1073741823 - b by omega)
  simp only [Int.sub_mul, Int.mul_sub, Int.add_mul, Int.mul_add] at h1 h2 h3 h4
  omega

theorem fix_any (v : Int) (w : World) : Calls Try.prog 83 #[.int .i64 v] w fun e w' => e = .returned (.bool (fixB v)) ∧ w = w' := by
  by_cases h1 : v < -1073741823
  · rw [fixB_false (.inl h1)]
    have c1 : decide (-1073741823 ≤ v) = false := by simp; omega
    go_enter Try.func83, Try.ntmps83
    go_wp2_with fail
    go_ret
    exact ⟨rfl, rfl⟩
  · have c1 : decide (-1073741823 ≤ v) = true := by simp; omega
    by_cases h2 : 1073741823 < v
    · rw [fixB_false (.inr h2)]
      have c2 : decide (v ≤ 1073741823) = false := by simp; omega
      go_enter Try.func83, Try.ntmps83
      go_wp2_with fail
      go_ret
      exact ⟨rfl, rfl⟩
    · rw [fixB_true (by omega)]
      have c2 : decide (v ≤ 1073741823) = true := by simp; omega
      go_enter Try.func83, Try.ntmps83
      go_wp2_with fail
      go_ret
      exact ⟨rfl, rfl⟩

theorem rfix_any (v : Int) (w : World) : Calls Try.prog 103 #[.int .i64 v] w fun e w' => e = .returned (.bool (fixB v)) ∧ w = w' := by
  by_cases h1 : v < -1073741823
  · rw [fixB_false (.inl h1)]
    have c1 : decide (-1073741823 ≤ v) = false := by simp; omega
    go_enter Try.func103, Try.ntmps103
    go_wp2_with fail
    go_ret
    exact ⟨rfl, rfl⟩
  · have c1 : decide (-1073741823 ≤ v) = true := by simp; omega
    by_cases h2 : 1073741823 < v
    · rw [fixB_false (.inr h2)]
      have c2 : decide (v ≤ 1073741823) = false := by simp; omega
      go_enter Try.func103, Try.ntmps103
      go_wp2_with fail
      go_ret
      exact ⟨rfl, rfl⟩
    · rw [fixB_true (by omega)]
      have c2 : decide (v ≤ 1073741823) = true := by simp; omega
      go_enter Try.func103, Try.ntmps103
      go_wp2_with fail
      go_ret
      exact ⟨rfl, rfl⟩

/-- may a matrix be -/
def mayB (A B C D E F : Int) : Bool := fixB A && fixB B && fixB C && fixB D && fixB E && fixB F
theorem mayB_bd {A B C D E F : Int} (h : mayB A B C D E F = true) : (-1073741823 ≤ A ∧ A ≤ 1073741823) ∧ (-1073741823 ≤ B ∧ B ≤ 1073741823) ∧ (-1073741823 ≤ C ∧ C ≤ 1073741823) ∧ (-1073741823 ≤ D ∧ D ≤ 1073741823) ∧ (-1073741823 ≤ E ∧ E ≤ 1073741823) ∧ (-1073741823 ≤ F ∧ F ≤ 1073741823) := by
  unfold mayB at h
  simp only [Bool.and_eq_true] at h
  obtain ⟨⟨⟨⟨⟨a, b⟩, c⟩, d⟩, e⟩, f⟩ := h
  exact ⟨fixB_bd a, fixB_bd b, fixB_bd c, fixB_bd d, fixB_bd e, fixB_bd f⟩

theorem rdet_any (A B C D E F : Int) (w : World) (h : mayB A B C D E F = true) : Calls Try.prog 62 #[.agg #[.int .i64 A, .int .i64 B, .int .i64 C, .int .i64 D, .int .i64 E, .int .i64 F]] w fun e w' => e = .returned (.int .i64 (A * D - B * C)) ∧ Below w.heap.size w w' := by
  obtain ⟨a, b, c, d, _, _⟩ := mayB_bd h
  have b1 := fix_mul a d
  have b2 := fix_mul b c
  generalize h1 : A * D = x at *
  generalize h2 : B * C = y at *
  obtain ⟨b10, b11⟩ := b1
  obtain ⟨b20, b21⟩ := b2
  clear a b c d h
  go_enter Try.func62, Try.ntmps62
  go_wp2_with fail
  go_ret
  exact ⟨rfl, by (repeat' (first | exact Below.refl _ _ | exact Below.refl _ _ | refine balloc ?_ _ | refine Below.drew ?_ | refine below_drewN ?_ _ | refine bset ?_ (by first | omega | (simp <;> omega)) _))⟩

set_option maxHeartbeats 3200000 in
theorem rmay_any (A B C D E F : Int) (w : World) : Calls Try.prog 60 #[.agg #[.int .i64 A, .int .i64 B, .int .i64 C, .int .i64 D, .int .i64 E, .int .i64 F]] w fun e w' => e = .returned (.bool (mayB A B C D E F)) ∧ Below w.heap.size w w' := by
  cases h0 : fixB A with
  | false =>
    have HF0 := Lib.hid (fun W => show Calls Try.prog 103 #[.int .i64 A] W fun e w' => e = .returned (.bool false) ∧ W = w' by have := rfix_any A W; rw [h0] at this; exact this)
    have hb : mayB A B C D E F = false := by unfold mayB; simp [h0]
    rw [hb]
    clear hb h0
    go_enter Try.func60, Try.ntmps60
    go_wp2_with fail
    refine (HF0.out _).mono ?_
    rintro e w' ⟨rfl, rfl⟩
    go_wp2_with fail
    go_ret
    exact ⟨rfl, by (repeat' (first | exact Below.refl _ _ | exact Below.refl _ _ | refine balloc ?_ _ | refine Below.drew ?_ | refine below_drewN ?_ _ | refine bset ?_ (by first | omega | (simp <;> omega)) _))⟩
  | true =>
    have HF0 := Lib.hid (fun W => show Calls Try.prog 103 #[.int .i64 A] W fun e w' => e = .returned (.bool true) ∧ W = w' by have := rfix_any A W; rw [h0] at this; exact this)
    cases h1 : fixB B with
    | false =>
      have HF1 := Lib.hid (fun W => show Calls Try.prog 103 #[.int .i64 B] W fun e w' => e = .returned (.bool false) ∧ W = w' by have := rfix_any B W; rw [h1] at this; exact this)
      have hb : mayB A B C D E F = false := by unfold mayB; simp [h1]
      rw [hb]
      clear hb h0 h1
      go_enter Try.func60, Try.ntmps60
      go_wp2_with fail
      refine (HF0.out _).mono ?_
      rintro e w' ⟨rfl, rfl⟩
      go_wp2_with fail
      refine (HF1.out _).mono ?_
      rintro e w' ⟨rfl, rfl⟩
      go_wp2_with fail
      go_ret
      exact ⟨rfl, by (repeat' (first | exact Below.refl _ _ | exact Below.refl _ _ | refine balloc ?_ _ | refine Below.drew ?_ | refine below_drewN ?_ _ | refine bset ?_ (by first | omega | (simp <;> omega)) _))⟩
    | true =>
      have HF1 := Lib.hid (fun W => show Calls Try.prog 103 #[.int .i64 B] W fun e w' => e = .returned (.bool true) ∧ W = w' by have := rfix_any B W; rw [h1] at this; exact this)
      cases h2 : fixB C with
      | false =>
        have HF2 := Lib.hid (fun W => show Calls Try.prog 103 #[.int .i64 C] W fun e w' => e = .returned (.bool false) ∧ W = w' by have := rfix_any C W; rw [h2] at this; exact this)
        have hb : mayB A B C D E F = false := by unfold mayB; simp [h2]
        rw [hb]
        clear hb h0 h1 h2
        go_enter Try.func60, Try.ntmps60
        go_wp2_with fail
        refine (HF0.out _).mono ?_
        rintro e w' ⟨rfl, rfl⟩
        go_wp2_with fail
        refine (HF1.out _).mono ?_
        rintro e w' ⟨rfl, rfl⟩
        go_wp2_with fail
        refine (HF2.out _).mono ?_
        rintro e w' ⟨rfl, rfl⟩
        go_wp2_with fail
        go_ret
        exact ⟨rfl, by (repeat' (first | exact Below.refl _ _ | exact Below.refl _ _ | refine balloc ?_ _ | refine Below.drew ?_ | refine below_drewN ?_ _ | refine bset ?_ (by first | omega | (simp <;> omega)) _))⟩
      | true =>
        have HF2 := Lib.hid (fun W => show Calls Try.prog 103 #[.int .i64 C] W fun e w' => e = .returned (.bool true) ∧ W = w' by have := rfix_any C W; rw [h2] at this; exact this)
        cases h3 : fixB D with
        | false =>
          have HF3 := Lib.hid (fun W => show Calls Try.prog 103 #[.int .i64 D] W fun e w' => e = .returned (.bool false) ∧ W = w' by have := rfix_any D W; rw [h3] at this; exact this)
          have hb : mayB A B C D E F = false := by unfold mayB; simp [h3]
          rw [hb]
          clear hb h0 h1 h2 h3
          go_enter Try.func60, Try.ntmps60
          go_wp2_with fail
          refine (HF0.out _).mono ?_
          rintro e w' ⟨rfl, rfl⟩
          go_wp2_with fail
          refine (HF1.out _).mono ?_
          rintro e w' ⟨rfl, rfl⟩
          go_wp2_with fail
          refine (HF2.out _).mono ?_
          rintro e w' ⟨rfl, rfl⟩
          go_wp2_with fail
          refine (HF3.out _).mono ?_
          rintro e w' ⟨rfl, rfl⟩
          go_wp2_with fail
          go_ret
          exact ⟨rfl, by (repeat' (first | exact Below.refl _ _ | exact Below.refl _ _ | refine balloc ?_ _ | refine Below.drew ?_ | refine below_drewN ?_ _ | refine bset ?_ (by first | omega | (simp <;> omega)) _))⟩
        | true =>
          have HF3 := Lib.hid (fun W => show Calls Try.prog 103 #[.int .i64 D] W fun e w' => e = .returned (.bool true) ∧ W = w' by have := rfix_any D W; rw [h3] at this; exact this)
          cases h4 : fixB E with
          | false =>
            have HF4 := Lib.hid (fun W => show Calls Try.prog 103 #[.int .i64 E] W fun e w' => e = .returned (.bool false) ∧ W = w' by have := rfix_any E W; rw [h4] at this; exact this)
            have hb : mayB A B C D E F = false := by unfold mayB; simp [h4]
            rw [hb]
            clear hb h0 h1 h2 h3 h4
            go_enter Try.func60, Try.ntmps60
            go_wp2_with fail
            refine (HF0.out _).mono ?_
            rintro e w' ⟨rfl, rfl⟩
            go_wp2_with fail
            refine (HF1.out _).mono ?_
            rintro e w' ⟨rfl, rfl⟩
            go_wp2_with fail
            refine (HF2.out _).mono ?_
            rintro e w' ⟨rfl, rfl⟩
            go_wp2_with fail
            refine (HF3.out _).mono ?_
            rintro e w' ⟨rfl, rfl⟩
            go_wp2_with fail
            refine (HF4.out _).mono ?_
            rintro e w' ⟨rfl, rfl⟩
            go_wp2_with fail
            go_ret
            exact ⟨rfl, by (repeat' (first | exact Below.refl _ _ | exact Below.refl _ _ | refine balloc ?_ _ | refine Below.drew ?_ | refine below_drewN ?_ _ | refine bset ?_ (by first | omega | (simp <;> omega)) _))⟩
          | true =>
            have HF4 := Lib.hid (fun W => show Calls Try.prog 103 #[.int .i64 E] W fun e w' => e = .returned (.bool true) ∧ W = w' by have := rfix_any E W; rw [h4] at this; exact this)
            cases h5 : fixB F with
            | false =>
              have HF5 := Lib.hid (fun W => show Calls Try.prog 103 #[.int .i64 F] W fun e w' => e = .returned (.bool false) ∧ W = w' by have := rfix_any F W; rw [h5] at this; exact this)
              have hb : mayB A B C D E F = false := by unfold mayB; simp [h5]
              rw [hb]
              clear hb h0 h1 h2 h3 h4 h5
              go_enter Try.func60, Try.ntmps60
              go_wp2_with fail
              refine (HF0.out _).mono ?_
              rintro e w' ⟨rfl, rfl⟩
              go_wp2_with fail
              refine (HF1.out _).mono ?_
              rintro e w' ⟨rfl, rfl⟩
              go_wp2_with fail
              refine (HF2.out _).mono ?_
              rintro e w' ⟨rfl, rfl⟩
              go_wp2_with fail
              refine (HF3.out _).mono ?_
              rintro e w' ⟨rfl, rfl⟩
              go_wp2_with fail
              refine (HF4.out _).mono ?_
              rintro e w' ⟨rfl, rfl⟩
              go_wp2_with fail
              refine (HF5.out _).mono ?_
              rintro e w' ⟨rfl, rfl⟩
              go_wp2_with fail
              go_ret
              exact ⟨rfl, by (repeat' (first | exact Below.refl _ _ | exact Below.refl _ _ | refine balloc ?_ _ | refine Below.drew ?_ | refine below_drewN ?_ _ | refine bset ?_ (by first | omega | (simp <;> omega)) _))⟩
            | true =>
              have HF5 := Lib.hid (fun W => show Calls Try.prog 103 #[.int .i64 F] W fun e w' => e = .returned (.bool true) ∧ W = w' by have := rfix_any F W; rw [h5] at this; exact this)
              have hb : mayB A B C D E F = true := by unfold mayB; simp [h0, h1, h2, h3, h4, h5]
              rw [hb]
              clear hb h0 h1 h2 h3 h4 h5
              go_enter Try.func60, Try.ntmps60
              go_wp2_with fail
              refine (HF0.out _).mono ?_
              rintro e w' ⟨rfl, rfl⟩
              go_wp2_with fail
              refine (HF1.out _).mono ?_
              rintro e w' ⟨rfl, rfl⟩
              go_wp2_with fail
              refine (HF2.out _).mono ?_
              rintro e w' ⟨rfl, rfl⟩
              go_wp2_with fail
              refine (HF3.out _).mono ?_
              rintro e w' ⟨rfl, rfl⟩
              go_wp2_with fail
              refine (HF4.out _).mono ?_
              rintro e w' ⟨rfl, rfl⟩
              go_wp2_with fail
              refine (HF5.out _).mono ?_
              rintro e w' ⟨rfl, rfl⟩
              go_wp2_with fail
              go_ret
              exact ⟨rfl, by (repeat' (first | exact Below.refl _ _ | exact Below.refl _ _ | refine balloc ?_ _ | refine Below.drew ?_ | refine below_drewN ?_ _ | refine bset ?_ (by first | omega | (simp <;> omega)) _))⟩


theorem ix0 (A B C D E F : Int) (w : World) : (Instr.index 34 (.agg #[.int .i64 A, .int .i64 B, .int .i64 C, .int .i64 D, .int .i64 E, .int .i64 F]) (.int .i64 0)).run Try.prog w = .ok (.int .i64 A) w := by kernel_rfl
theorem ix1 (A B C D E F : Int) (w : World) : (Instr.index 34 (.agg #[.int .i64 A, .int .i64 B, .int .i64 C, .int .i64 D, .int .i64 E, .int .i64 F]) (.int .i64 1)).run Try.prog w = .ok (.int .i64 B) w := by kernel_rfl
theorem ix2 (A B C D E F : Int) (w : World) : (Instr.index 34 (.agg #[.int .i64 A, .int .i64 B, .int .i64 C, .int .i64 D, .int .i64 E, .int .i64 F]) (.int .i64 2)).run Try.prog w = .ok (.int .i64 C) w := by kernel_rfl
theorem ix3 (A B C D E F : Int) (w : World) : (Instr.index 34 (.agg #[.int .i64 A, .int .i64 B, .int .i64 C, .int .i64 D, .int .i64 E, .int .i64 F]) (.int .i64 3)).run Try.prog w = .ok (.int .i64 D) w := by kernel_rfl
theorem ix4 (A B C D E F : Int) (w : World) : (Instr.index 34 (.agg #[.int .i64 A, .int .i64 B, .int .i64 C, .int .i64 D, .int .i64 E, .int .i64 F]) (.int .i64 4)).run Try.prog w = .ok (.int .i64 E) w := by kernel_rfl
theorem ix5 (A B C D E F : Int) (w : World) : (Instr.index 34 (.agg #[.int .i64 A, .int .i64 B, .int .i64 C, .int .i64 D, .int .i64 E, .int .i64 F]) (.int .i64 5)).run Try.prog w = .ok (.int .i64 F) w := by kernel_rfl
def preB (A B C D E F : Int) : Nat → Bool
  | 0 => true
  | 1 => fixB A
  | 2 => fixB A && fixB B
  | 3 => fixB A && fixB B && fixB C
  | 4 => fixB A && fixB B && fixB C && fixB D
  | 5 => fixB A && fixB B && fixB C && fixB D && fixB E
  | _ => mayB A B C D E F

set_option maxHeartbeats 3200000 in
theorem may_any (A B C D E F : Int) (w : World) : Calls Try.prog 66 #[.agg #[.int .i64 A, .int .i64 B, .int .i64 C, .int .i64 D, .int .i64 E, .int .i64 F]] w fun e w' => e = .returned (.bool (mayB A B C D E F)) ∧ Below w.heap.size w w' := by
  have J0 := ix0 A B C D E F
  have HF0 := Lib.hid (fix_any A)
  have J1 := ix1 A B C D E F
  have HF1 := Lib.hid (fix_any B)
  have J2 := ix2 A B C D E F
  have HF2 := Lib.hid (fix_any C)
  have J3 := ix3 A B C D E F
  have HF3 := Lib.hid (fix_any D)
  have J4 := ix4 A B C D E F
  have HF4 := Lib.hid (fix_any E)
  have J5 := ix5 A B C D E F
  have HF5 := Lib.hid (fix_any F)
  obtain ⟨mb, hmb⟩ : ∃ mb, mayB A B C D E F = mb := ⟨_, rfl⟩
  rw [hmb]
  have HM := Lib.hid hmb
  clear hmb
  go_enter Try.func66, Try.ntmps66
  go_wp2_with fail
  go_loop [4, 18] (fun x c => ∃ k : Nat, k ≤ 6 ∧ c = .int .i64 k ∧ Hid (preB A B C D E F k = true)) (fun _ c => 6 - (intOf c).toNat)
  case atStart => exact ⟨0, by omega, rfl, rfl⟩
  case round =>
    obtain ⟨k, hk, rfl, hP⟩ := hrel
    rcases (show k = 0 ∨ k = 1 ∨ k = 2 ∨ k = 3 ∨ k = 4 ∨ k = 5 ∨ k = 6 by omega) with h | h | h | h | h | h | h <;> subst h
    · cases hf : fixB A with
      | false =>
        have HC := Lib.hid (fun W => show Calls Try.prog 83 #[.int .i64 A] W fun e w' => e = .returned (.bool false) ∧ W = w' by have := HF0.out W; rw [hf] at this; exact this)
        have hm : mb = false := by rw [← HM.out]; unfold mayB; simp [hf]
        have HMB := Lib.hid hm
        clear hf hm
        go_wp2_with fail
        refine (HC.out _).mono ?_
        rintro e w' ⟨rfl, rfl⟩
        go_wp2_with fail
        go_ret
        exact ⟨ret_bool HMB.out.symm, by (repeat' (first | exact Below.refl _ _ | exact Below.refl _ _ | refine balloc ?_ _ | refine Below.drew ?_ | refine below_drewN ?_ _ | refine bset ?_ (by first | omega | (simp <;> omega)) _))⟩
      | true =>
        have HC := Lib.hid (fun W => show Calls Try.prog 83 #[.int .i64 A] W fun e w' => e = .returned (.bool true) ∧ W = w' by have := HF0.out W; rw [hf] at this; exact this)
        have hnx : preB A B C D E F 1 = true := by
          have hp := hP.out
          simp only [preB] at hp ⊢
          exact hf
        have HN := Lib.hid hnx
        clear hf hnx
        go_wp2_with fail
        refine (HC.out _).mono ?_
        rintro e w' ⟨rfl, rfl⟩
        go_wp2_with fail
        go_round
        case rel => exact ⟨1, by omega, rfl, HN.out⟩
        case measure => simp [intOf]
    · cases hf : fixB B with
      | false =>
        have HC := Lib.hid (fun W => show Calls Try.prog 83 #[.int .i64 B] W fun e w' => e = .returned (.bool false) ∧ W = w' by have := HF1.out W; rw [hf] at this; exact this)
        have hm : mb = false := by rw [← HM.out]; unfold mayB; simp [hf]
        have HMB := Lib.hid hm
        clear hf hm
        go_wp2_with fail
        refine (HC.out _).mono ?_
        rintro e w' ⟨rfl, rfl⟩
        go_wp2_with fail
        go_ret
        exact ⟨ret_bool HMB.out.symm, by (repeat' (first | exact Below.refl _ _ | exact Below.refl _ _ | refine balloc ?_ _ | refine Below.drew ?_ | refine below_drewN ?_ _ | refine bset ?_ (by first | omega | (simp <;> omega)) _))⟩
      | true =>
        have HC := Lib.hid (fun W => show Calls Try.prog 83 #[.int .i64 B] W fun e w' => e = .returned (.bool true) ∧ W = w' by have := HF1.out W; rw [hf] at this; exact this)
        have hnx : preB A B C D E F 2 = true := by
          have hp := hP.out
          simp only [preB] at hp ⊢
          rw [hp, hf]; rfl
        have HN := Lib.hid hnx
        clear hf hnx
        go_wp2_with fail
        refine (HC.out _).mono ?_
        rintro e w' ⟨rfl, rfl⟩
        go_wp2_with fail
        go_round
        case rel => exact ⟨2, by omega, rfl, HN.out⟩
        case measure => simp [intOf]
    · cases hf : fixB C with
      | false =>
        have HC := Lib.hid (fun W => show Calls Try.prog 83 #[.int .i64 C] W fun e w' => e = .returned (.bool false) ∧ W = w' by have := HF2.out W; rw [hf] at this; exact this)
        have hm : mb = false := by rw [← HM.out]; unfold mayB; simp [hf]
        have HMB := Lib.hid hm
        clear hf hm
        go_wp2_with fail
        refine (HC.out _).mono ?_
        rintro e w' ⟨rfl, rfl⟩
        go_wp2_with fail
        go_ret
        exact ⟨ret_bool HMB.out.symm, by (repeat' (first | exact Below.refl _ _ | exact Below.refl _ _ | refine balloc ?_ _ | refine Below.drew ?_ | refine below_drewN ?_ _ | refine bset ?_ (by first | omega | (simp <;> omega)) _))⟩
      | true =>
        have HC := Lib.hid (fun W => show Calls Try.prog 83 #[.int .i64 C] W fun e w' => e = .returned (.bool true) ∧ W = w' by have := HF2.out W; rw [hf] at this; exact this)
        have hnx : preB A B C D E F 3 = true := by
          have hp := hP.out
          simp only [preB] at hp ⊢
          rw [hp, hf]; rfl
        have HN := Lib.hid hnx
        clear hf hnx
        go_wp2_with fail
        refine (HC.out _).mono ?_
        rintro e w' ⟨rfl, rfl⟩
        go_wp2_with fail
        go_round
        case rel => exact ⟨3, by omega, rfl, HN.out⟩
        case measure => simp [intOf]
    · cases hf : fixB D with
      | false =>
        have HC := Lib.hid (fun W => show Calls Try.prog 83 #[.int .i64 D] W fun e w' => e = .returned (.bool false) ∧ W = w' by have := HF3.out W; rw [hf] at this; exact this)
        have hm : mb = false := by rw [← HM.out]; unfold mayB; simp [hf]
        have HMB := Lib.hid hm
        clear hf hm
        go_wp2_with fail
        refine (HC.out _).mono ?_
        rintro e w' ⟨rfl, rfl⟩
        go_wp2_with fail
        go_ret
        exact ⟨ret_bool HMB.out.symm, by (repeat' (first | exact Below.refl _ _ | exact Below.refl _ _ | refine balloc ?_ _ | refine Below.drew ?_ | refine below_drewN ?_ _ | refine bset ?_ (by first | omega | (simp <;> omega)) _))⟩
      | true =>
        have HC := Lib.hid (fun W => show Calls Try.prog 83 #[.int .i64 D] W fun e w' => e = .returned (.bool true) ∧ W = w' by have := HF3.out W; rw [hf] at this; exact this)
        have hnx : preB A B C D E F 4 = true := by
          have hp := hP.out
          simp only [preB] at hp ⊢
          rw [hp, hf]; rfl
        have HN := Lib.hid hnx
        clear hf hnx
        go_wp2_with fail
        refine (HC.out _).mono ?_
        rintro e w' ⟨rfl, rfl⟩
        go_wp2_with fail
        go_round
        case rel => exact ⟨4, by omega, rfl, HN.out⟩
        case measure => simp [intOf]
    · cases hf : fixB E with
      | false =>
        have HC := Lib.hid (fun W => show Calls Try.prog 83 #[.int .i64 E] W fun e w' => e = .returned (.bool false) ∧ W = w' by have := HF4.out W; rw [hf] at this; exact this)
        have hm : mb = false := by rw [← HM.out]; unfold mayB; simp [hf]
        have HMB := Lib.hid hm
        clear hf hm
        go_wp2_with fail
        refine (HC.out _).mono ?_
        rintro e w' ⟨rfl, rfl⟩
        go_wp2_with fail
        go_ret
        exact ⟨ret_bool HMB.out.symm, by (repeat' (first | exact Below.refl _ _ | exact Below.refl _ _ | refine balloc ?_ _ | refine Below.drew ?_ | refine below_drewN ?_ _ | refine bset ?_ (by first | omega | (simp <;> omega)) _))⟩
      | true =>
        have HC := Lib.hid (fun W => show Calls Try.prog 83 #[.int .i64 E] W fun e w' => e = .returned (.bool true) ∧ W = w' by have := HF4.out W; rw [hf] at this; exact this)
        have hnx : preB A B C D E F 5 = true := by
          have hp := hP.out
          simp only [preB] at hp ⊢
          rw [hp, hf]; rfl
        have HN := Lib.hid hnx
        clear hf hnx
        go_wp2_with fail
        refine (HC.out _).mono ?_
        rintro e w' ⟨rfl, rfl⟩
        go_wp2_with fail
        go_round
        case rel => exact ⟨5, by omega, rfl, HN.out⟩
        case measure => simp [intOf]
    · cases hf : fixB F with
      | false =>
        have HC := Lib.hid (fun W => show Calls Try.prog 83 #[.int .i64 F] W fun e w' => e = .returned (.bool false) ∧ W = w' by have := HF5.out W; rw [hf] at this; exact this)
        have hm : mb = false := by rw [← HM.out]; unfold mayB; simp [hf]
        have HMB := Lib.hid hm
        clear hf hm
        go_wp2_with fail
        refine (HC.out _).mono ?_
        rintro e w' ⟨rfl, rfl⟩
        go_wp2_with fail
        go_ret
        exact ⟨ret_bool HMB.out.symm, by (repeat' (first | exact Below.refl _ _ | exact Below.refl _ _ | refine balloc ?_ _ | refine Below.drew ?_ | refine below_drewN ?_ _ | refine bset ?_ (by first | omega | (simp <;> omega)) _))⟩
      | true =>
        have HC := Lib.hid (fun W => show Calls Try.prog 83 #[.int .i64 F] W fun e w' => e = .returned (.bool true) ∧ W = w' by have := HF5.out W; rw [hf] at this; exact this)
        have hnx : preB A B C D E F 6 = true := by
          have hp := hP.out
          simp only [preB] at hp ⊢
          show (fixB A && fixB B && fixB C && fixB D && fixB E && fixB F) = true
          rw [hp, hf]; rfl
        have HN := Lib.hid hnx
        clear hf hnx
        go_wp2_with fail
        refine (HC.out _).mono ?_
        rintro e w' ⟨rfl, rfl⟩
        go_wp2_with fail
        go_round
        case rel => exact ⟨6, by omega, rfl, HN.out⟩
        case measure => simp [intOf]
    · have hm : mb = true := by rw [← HM.out]; exact hP.out
      have HMB := Lib.hid hm
      clear hm
      go_wp2_with fail
      go_ret
      exact ⟨ret_bool HMB.out.symm, by (repeat' (first | exact Below.refl _ _ | exact Below.refl _ _ | refine balloc ?_ _ | refine Below.drew ?_ | refine below_drewN ?_ _ | refine bset ?_ (by first | omega | (simp <;> omega)) _))⟩

end Go.Proofs.Ytegpjjkbbdfggaa.mt
