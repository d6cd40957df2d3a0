/-
  Layer 5: the plain functions of bytes, and the contracts of char.Kind, char.Value and the references.
-/
import Derived.Test.YthkhpbgapcnapaaRows
import Derived.WalkKit
import Derived.WalkSpells
import Derived.Lib.Hide
namespace Go.Proofs.Ythkhpbgapcnapaa.ch
open Go.RowKit

def kind (c : Int) : Int :=
  if c = 0 ∨ c = 9 ∨ c = 10 ∨ c = 12 ∨ c = 13 ∨ c = 32 then 1
  else if c = 40 ∨ c = 41 ∨ c = 60 ∨ c = 62 ∨ c = 91 ∨ c = 93 ∨ c = 123 ∨ c = 125 ∨ c = 47 ∨ c = 37 then 2 else 3

def value (c : Int) : Int :=
  if 48 ≤ c ∧ c ≤ 57 then c - 48 else if 97 ≤ c ∧ c ≤ 122 then c - 87 else if 65 ≤ c ∧ c ≤ 90 then c - 55 else -1

theorem ret_int {k : IntKind} {a b : Int} (h : a = b) : Ending.returned (.int k a) = .returned (.int k b) := by rw [h]
theorem ret_bool {a b : Bool} (h : a = b) : Ending.returned (.bool a) = .returned (.bool b) := by rw [h]

set_option maxHeartbeats 1000000 in
theorem kind_any (c : Int) (w : World) :
    Calls Try.prog 7 #[.int .u8 c] w fun e w' => e = .returned (.int .i64 (kind c)) ∧ w = w' := by
  go_enter Try.func7, Try.ntmps7
  go_wp2
  all_goals go_ret
  all_goals refine ⟨ret_int ?_, rfl⟩
  all_goals simp only [beq_iff_eq, beq_eq_false_iff_ne] at *
  all_goals unfold kind
  all_goals first | rw [if_pos (by omega)] | rw [if_neg (by omega), if_pos (by omega)] | rw [if_neg (by omega), if_neg (by omega)]

set_option maxHeartbeats 1000000 in
theorem refkind_any (c : Int) (w : World) :
    Calls Try.prog 8 #[.int .u8 c] w fun e w' => e = .returned (.int .i64 (kind c)) ∧ w = w' := by
  go_enter Try.func8, Try.ntmps8
  go_wp2
  all_goals go_ret
  all_goals refine ⟨ret_int ?_, rfl⟩
  all_goals simp only [beq_iff_eq, beq_eq_false_iff_ne] at *
  all_goals unfold kind
  all_goals first | rw [if_pos (by omega)] | rw [if_neg (by omega), if_pos (by omega)] | rw [if_neg (by omega), if_neg (by omega)]

set_option maxHeartbeats 1000000 in
theorem value_any (c : Int) (w : World) (h0 : 0 ≤ c) (h1 : c ≤ 255) :
    Calls Try.prog 9 #[.int .u8 c] w fun e w' => e = .returned (.int .i64 (value c)) ∧ w = w' := by
  go_enter Try.func9, Try.ntmps9
  go_wp2
  all_goals go_ret
  all_goals refine ⟨ret_int ?_, rfl⟩
  all_goals unfold value
  all_goals (repeat' split) <;> omega

set_option maxHeartbeats 1000000 in
theorem refvalue_any (c : Int) (w : World) (h0 : 0 ≤ c) (h1 : c ≤ 255) :
    Calls Try.prog 10 #[.int .u8 c] w fun e w' => e = .returned (.int .i64 (value c)) ∧ w = w' := by
  go_enter Try.func10, Try.ntmps10
  go_wp2
  all_goals go_ret
  all_goals refine ⟨ret_int ?_, rfl⟩
  all_goals unfold value
  all_goals (repeat' split) <;> omega

/-- how many regular bytes stand at the head of a list -/
def regl : List UInt8 → Nat
  | [] => 0
  | c :: l => if kind c.toNat = 3 then regl l + 1 else 0

def regular (l : List UInt8) (at_ : Int) : Int :=
  if at_ < 0 ∨ (l.length : Int) ≤ at_ then 0 else (regl (l.drop at_.toNat) : Int)

theorem regl_le : ∀ l : List UInt8, regl l ≤ l.length
  | [] => Nat.le_refl _
  | c :: l => by
    have := regl_le l
    simp only [regl, List.length_cons]; split <;> omega

theorem regl_drop (l : List UInt8) (k : Nat) (h : k < l.length) : regl (l.drop k) = if kind (l[k].toNat : Int) = 3 then regl (l.drop (k + 1)) + 1 else 0 := by
  rw [List.drop_eq_getElem_cons h]; rfl

set_option maxHeartbeats 1000000 in
theorem regular_any (s : ByteArray) (at_ : Int) (w : World) (hs : s.size ≤ maxLen) :
    Calls Try.prog 11 #[.string s, .int .i64 at_] w fun e w' => e = .returned (.int .i64 (regular s.data.toList at_)) ∧ w = w' := by
  unfold maxLen at hs
  have hl : s.data.toList.length = s.size := by simp
  by_cases hb : at_ < 0 ∨ (s.size : Int) ≤ at_
  · have hr : regular s.data.toList at_ = 0 := by unfold regular; rw [hl, if_pos hb]
    rw [hr]
    clear hr hl
    rcases hb with hb | hb
    · go_enter Try.func11, Try.ntmps11
      go_wp2
      all_goals go_ret
      all_goals exact ⟨rfl, rfl⟩
    · go_enter Try.func11, Try.ntmps11
      go_wp2
      all_goals go_ret
      all_goals exact ⟨rfl, rfl⟩
  · obtain ⟨k, rfl⟩ := Int.eq_ofNat_of_zero_le (show 0 ≤ at_ by omega)
    have hk : k < s.size := by omega
    have hr : regular s.data.toList k = (regl (s.data.toList.drop k) : Int) := by unfold regular; rw [hl, if_neg hb]; simp
    rw [hr]
    have HL := Lib.hid hl
    have d1 : decide ((k : Int) < 0) = false := by simp
    have d2 : decide (s.size ≤ k) = false := by simp; omega
    clear hr hl hb
    go_enter Try.func11, Try.ntmps11
    go_wp2
    go_loop [5] (fun n => ∃ j : Nat, j ≤ s.size ∧ k ≤ j ∧ n = .int .i64 j ∧ Hid (regl (s.data.toList.drop k) + k = regl (s.data.toList.drop j) + j)) (fun n => s.size - (intOf n).toNat)
    case atStart => exact ⟨k, by omega, by omega, rfl, rfl⟩
    case round =>
      obtain ⟨j, hj, hkj, rfl, hreg⟩ := hrel
      by_cases hlt : j < s.size
      · by_cases hq : kind (s[j].toNat : Int) = 3
        · have hbq : (kind (s[j].toNat : Int) == 3) = true := beq_iff_eq.2 hq
          have HQ := Lib.hid hq
          clear hq
          go_wp2_with (go_at_call 7; refine (kind_any _ _).mono ?_; rintro e w' ⟨rfl, rfl⟩)
          go_round
          case rel =>
            refine ⟨j + 1, by omega, by omega, by go_num, ?_⟩
            show regl (s.data.toList.drop k) + k = regl (s.data.toList.drop (j + 1)) + (j + 1)
            have h1 := hreg.out
            rw [regl_drop _ j (by have := HL.out; omega), if_pos (by exact HQ.out)] at h1
            omega
          case measure => simp [intOf]; omega
        · have hbq : (kind (s[j].toNat : Int) == 3) = false := beq_eq_false_iff_ne.2 hq
          have HQ := Lib.hid hq
          clear hq
          go_wp2_with (go_at_call 7; refine (kind_any _ _).mono ?_; rintro e w' ⟨rfl, rfl⟩)
          go_ret
          refine ⟨ret_int ?_, rfl⟩
          have h1 := hreg.out
          rw [regl_drop _ j (by have := HL.out; omega), if_neg (by exact HQ.out)] at h1
          omega
      · go_wp2
        go_ret
        refine ⟨ret_int ?_, rfl⟩
        have h1 := hreg.out
        rw [List.drop_eq_nil_of_le (show s.data.toList.length ≤ j by have := HL.out; omega)] at h1
        simp only [regl] at h1
        omega

set_option maxHeartbeats 1000000 in
theorem refregular_any (s : ByteArray) (at_ : Int) (w : World) (hs : s.size ≤ maxLen) :
    Calls Try.prog 12 #[.string s, .int .i64 at_] w fun e w' => e = .returned (.int .i64 (regular s.data.toList at_)) ∧ w = w' := by
  unfold maxLen at hs
  have hl : s.data.toList.length = s.size := by simp
  by_cases hb : at_ < 0 ∨ (s.size : Int) ≤ at_
  · have hr : regular s.data.toList at_ = 0 := by unfold regular; rw [hl, if_pos hb]
    rw [hr]
    clear hr hl
    rcases hb with hb | hb
    · go_enter Try.func12, Try.ntmps12
      go_wp2
      all_goals go_ret
      all_goals exact ⟨rfl, rfl⟩
    · go_enter Try.func12, Try.ntmps12
      go_wp2
      all_goals go_ret
      all_goals exact ⟨rfl, rfl⟩
  · obtain ⟨k, rfl⟩ := Int.eq_ofNat_of_zero_le (show 0 ≤ at_ by omega)
    have hk : k < s.size := by omega
    have hr : regular s.data.toList k = (regl (s.data.toList.drop k) : Int) := by unfold regular; rw [hl, if_neg hb]; simp
    rw [hr]
    have HL := Lib.hid hl
    have d1 : decide ((k : Int) < 0) = false := by simp
    have d2 : decide (s.size ≤ k) = false := by simp; omega
    clear hr hl hb
    go_enter Try.func12, Try.ntmps12
    go_wp2
    go_loop [5] (fun n => ∃ j : Nat, k + j ≤ s.size ∧ n = .int .i64 j ∧ Hid (regl (s.data.toList.drop k) = regl (s.data.toList.drop (k + j)) + j)) (fun n => s.size - (intOf n).toNat)
    case atStart => exact ⟨0, by omega, rfl, rfl⟩
    case round =>
      obtain ⟨j, hj, rfl, hreg⟩ := hrel
      by_cases hlt : k + j < s.size
      · by_cases hq : kind (s[k + j].toNat : Int) = 3
        · have hbq : (kind (s[k + j].toNat : Int) == 3) = true := beq_iff_eq.2 hq
          have HQ := Lib.hid hq
          clear hq
          go_wp2_with (go_at_call 8; refine (refkind_any _ _).mono ?_; rintro e w' ⟨rfl, rfl⟩)
          go_round
          case rel =>
            refine ⟨j + 1, by omega, by go_num, ?_⟩
            show regl (s.data.toList.drop k) = regl (s.data.toList.drop (k + j + 1)) + (j + 1)
            have h1 := hreg.out
            rw [regl_drop _ (k + j) (by have := HL.out; omega), if_pos (by exact HQ.out)] at h1
            omega
          case measure => simp [intOf]; omega
        · have hbq : (kind (s[k + j].toNat : Int) == 3) = false := beq_eq_false_iff_ne.2 hq
          have HQ := Lib.hid hq
          clear hq
          go_wp2_with (go_at_call 8; refine (refkind_any _ _).mono ?_; rintro e w' ⟨rfl, rfl⟩)
          go_ret
          refine ⟨ret_int ?_, rfl⟩
          have h1 := hreg.out
          rw [regl_drop _ (k + j) (by have := HL.out; omega), if_neg (by exact HQ.out)] at h1
          omega
      · go_wp2
        go_ret
        refine ⟨ret_int ?_, rfl⟩
        have h1 := hreg.out
        rw [List.drop_eq_nil_of_le (show s.data.toList.length ≤ k + j by have := HL.out; omega)] at h1
        simp only [regl] at h1
        omega

theorem known_any (w : World) : Calls Try.prog 6 #[] w fun e w' => e = .returned (.bool true) ∧ w = w' := by
  have k1 : kind 37 = 2 := by decide
  have k2 : kind 0 = 1 := by decide
  have k3 : kind 97 = 3 := by decide
  have k4 : value 102 = 15 := by decide
  have k5 : regular [97, 98, 32, 99, 100] 1 = 1 := by decide
  go_enter Try.func6, Try.ntmps6
  go_wp2_with (first
    | (go_at_call 7; refine (kind_any _ _).mono ?_; rintro e w' ⟨rfl, rfl⟩)
    | (go_at_call 9; refine (value_any _ _ (by omega) (by omega)).mono ?_; rintro e w' ⟨rfl, rfl⟩)
    | (go_at_call 11; refine (regular_any _ _ _ (by decide)).mono ?_; rintro e w' ⟨rfl, rfl⟩))
  go_ret
  exact ⟨rfl, rfl⟩

end Go.Proofs.Ythkhpbgapcnapaa.ch
