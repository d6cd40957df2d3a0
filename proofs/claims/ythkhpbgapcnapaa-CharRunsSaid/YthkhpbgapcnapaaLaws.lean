/-
  Layer 5: the walks of the three laws: each returns true and leaves the world alone.
-/
import Derived.Test.YthkhpbgapcnapaaPlain
namespace Go.Proofs.Ythkhpbgapcnapaa.ch
open Go.RowKit

theorem digit_val (k : Int) (h0 : 0 ≤ k) (h1 : k < 10) : value (48 + k) = k := by unfold value; rw [if_pos (by omega)]; omega
theorem low_val (k : Int) (h0 : 10 ≤ k) (h1 : k < 36) : value (97 + k - 10) = k := by unfold value; rw [if_neg (by omega), if_pos (by omega)]; omega
theorem up_val (k : Int) (h0 : 10 ≤ k) (h1 : k < 36) : value (65 + k - 10) = k := by unfold value; rw [if_neg (by omega), if_neg (by omega), if_pos (by omega)]; omega

theorem digits_law (v : Int) (hv : (Lit.int .u8 v).wf = true) (w : World) :
    Calls Try.prog 5 #[.int .u8 v] w fun e w' => e = .returned (.bool true) ∧ Grown w w' := by
  have hx : 0 ≤ v ∧ v ≤ 255 := by simpa [Lit.wf, IntKind.min, IntKind.max, IntKind.signed, IntKind.bits] using hv
  clear hv
  obtain ⟨h0, h1⟩ := hx
  have m0 : 0 ≤ v % 36 := by omega
  have m1 : v % 36 < 36 := by omega
  by_cases hlt : v % 36 < 10
  · have e1 := digit_val _ m0 hlt
    go_enter Try.func5, Try.ntmps5
    go_wp2_with (first
      | (go_at_call 6; refine (known_any _).mono ?_; rintro e w' ⟨rfl, rfl⟩)
      | (go_at_call 9; refine (value_any _ _ (by omega) (by omega)).mono ?_; rintro e w' ⟨rfl, rfl⟩))
    all_goals go_ret
    all_goals exact ⟨ret_bool (by simp), Grown.refl _⟩
  · have e1 := low_val _ (by omega) m1
    have e2 := up_val _ (by omega) m1
    go_enter Try.func5, Try.ntmps5
    go_wp2_with (first
      | (go_at_call 6; refine (known_any _).mono ?_; rintro e w' ⟨rfl, rfl⟩)
      | (go_at_call 9; refine (value_any _ _ (by omega) (by omega)).mono ?_; rintro e w' ⟨rfl, rfl⟩))
    all_goals go_ret
    all_goals exact ⟨ret_bool (by simp), Grown.refl _⟩

set_option maxRecDepth 100000 in
set_option maxHeartbeats 1000000 in
theorem tells_law (s : ByteArray) (at_ : Int) (hs : s.size ≤ maxLen) (_hv : (Lit.int .i64 at_).wf = true) (w : World) :
    Calls Try.prog 3 #[.string s, .int .i64 at_] w fun e w' => e = .returned (.bool true) ∧ Grown w w' := by
  have hs' := hs
  unfold maxLen at hs'
  by_cases hl : s.size > 500
  · go_enter Try.func3, Try.ntmps3
    go_wp2_with (go_at_call 6; refine (known_any _).mono ?_; rintro e w' ⟨rfl, rfl⟩)
    all_goals go_ret
    all_goals exact ⟨rfl, Grown.refl _⟩
  · have d0 : decide ((500 : Int) < (s.size : Int)) = false := by simp; omega
    go_enter Try.func3, Try.ntmps3
    go_wp2_with (go_at_call 6; refine (known_any _).mono ?_; rintro e w' ⟨rfl, rfl⟩)
    go_loop [5] (fun c => ∃ k : Nat, k ≤ 256 ∧ c = .int .i64 k) (fun c => 256 - (intOf c).toNat)
    case atStart => exact ⟨0, by omega, rfl⟩
    case round =>
      obtain ⟨k, hk, rfl⟩ := hrel
      by_cases hlt : k < 256
      · go_wp2_with (first
          | (go_at_call 7; refine (kind_any _ _).mono ?_; rintro e w' ⟨rfl, rfl⟩)
          | (go_at_call 8; refine (refkind_any _ _).mono ?_; rintro e w' ⟨rfl, rfl⟩)
          | (go_at_call 9; refine (value_any _ _ (by omega) (by omega)).mono ?_; rintro e w' ⟨rfl, rfl⟩)
          | (go_at_call 10; refine (refvalue_any _ _ (by omega) (by omega)).mono ?_; rintro e w' ⟨rfl, rfl⟩))
        go_round
        case rel => exact ⟨k + 1, by omega, by go_num⟩
        case measure => simp [intOf]; omega
      · go_wp2
        clear hk hlt
        go_loop [6] (fun c => ∃ j : Int, -1 ≤ j ∧ j ≤ s.size + 2 ∧ c = .int .i64 j) (fun c => (s.size + 2 - intOf c).toNat)
        case atStart => exact ⟨-1, by omega, by omega, rfl⟩
        case round =>
          obtain ⟨j, hj0, hj1, rfl⟩ := hrel
          by_cases hlt : j ≤ s.size + 1
          · go_wp2_with (first
              | (go_at_call 11; refine (regular_any _ _ _ hs).mono ?_; rintro e w' ⟨rfl, rfl⟩)
              | (go_at_call 12; refine (refregular_any _ _ _ hs).mono ?_; rintro e w' ⟨rfl, rfl⟩))
            go_round
            case rel => exact ⟨j + 1, by omega, by omega, by go_num⟩
            case measure => simp [intOf]; omega
          · go_wp2_with (first
              | (go_at_call 11; refine (regular_any _ _ _ hs).mono ?_; rintro e w' ⟨rfl, rfl⟩)
              | (go_at_call 12; refine (refregular_any _ _ _ hs).mono ?_; rintro e w' ⟨rfl, rfl⟩))
            go_ret
            exact ⟨ret_bool (by simp), Grown.refl _⟩

theorem regular_eq (l : List UInt8) (k : Nat) (h : k ≤ l.length) : regular l k = (regl (l.drop k) : Int) := by
  unfold regular
  by_cases hk : k = l.length
  · rw [if_pos (by omega), List.drop_eq_nil_of_le (by omega)]; rfl
  · rw [if_neg (by omega)]; simp

theorem regl_all (l : List UInt8) (j : Nat) (h : j < regl l) (hj : j < l.length) : kind (l[j].toNat : Int) = 3 := by
  induction l generalizing j with
  | nil => simp at hj
  | cons c l ih =>
    simp only [regl] at h
    split at h
    · cases j with
      | zero => assumption
      | succ j => exact ih j (by omega) (by simpa using hj)
    · omega

theorem regl_next (l : List UInt8) (h : regl l < l.length) : kind (l[regl l].toNat : Int) ≠ 3 := by
  induction l with
  | nil => simp at h
  | cons c l ih =>
    by_cases hc : kind (c.toNat : Int) = 3
    · have e : regl (c :: l) = regl l + 1 := by simp [regl, hc]
      have h' : regl l < l.length := by simp only [e, List.length_cons] at h; omega
      have := ih h'
      simpa [e] using this
    · have e : regl (c :: l) = 0 := by simp [regl, hc]
      simpa [e] using hc

theorem regl_blank (l r : List UInt8) : regl (l ++ 32 :: r) = regl l := by
  induction l with
  | nil => simp [regl, kind]
  | cons c l ih => simp [regl, ih]

set_option maxRecDepth 100000 in
set_option maxHeartbeats 1000000 in
theorem runs_law (s more : ByteArray) (a : Int) (hs : s.size ≤ maxLen) (hm : more.size ≤ maxLen) (hv : (Lit.int .u8 a).wf = true) (w : World) :
    Calls Try.prog 4 #[.string s, .string more, .int .u8 a] w fun e w' => e = .returned (.bool true) ∧ Grown w w' := by
  have hx : 0 ≤ a ∧ a ≤ 255 := by simpa [Lit.wf, IntKind.min, IntKind.max, IntKind.signed, IntKind.bits] using hv
  obtain ⟨h0, h1⟩ := hx
  clear hv
  obtain ⟨n, rfl⟩ := Int.eq_ofNat_of_zero_le h0
  have hs' := hs
  unfold maxLen at hs' hm
  by_cases hl : 300 < s.size
  · go_enter Try.func4, Try.ntmps4
    go_wp2_with (go_at_call 6; refine (known_any _).mono ?_; rintro e w' ⟨rfl, rfl⟩)
    all_goals go_ret
    all_goals exact ⟨rfl, Grown.refl _⟩
  · by_cases hl2 : 300 < more.size
    · go_enter Try.func4, Try.ntmps4
      go_wp2_with (go_at_call 6; refine (known_any _).mono ?_; rintro e w' ⟨rfl, rfl⟩)
      all_goals go_ret
      all_goals exact ⟨rfl, Grown.refl _⟩
    · have d0 : decide ((300 : Int) < (s.size : Int)) = false := by simp; omega
      have d1 : decide ((300 : Int) < (more.size : Int)) = false := by simp; omega
      have hb : (s.data.toList.drop (n % (s.size + 1))).length = s.size - n % (s.size + 1) := by simp
      have hk : n % (s.size + 1) < s.size + 1 := Nat.mod_lt _ (by omega)
      have hg := regl_le (s.data.toList.drop (n % (s.size + 1)))
      have e0 : ((n : Int) % ((s.size : Int) + 1)) = ((n % (s.size + 1) : Nat) : Int) := by simp
      have hn := regl_next (s.data.toList.drop (n % (s.size + 1)))
      have ha := fun j => regl_all (s.data.toList.drop (n % (s.size + 1))) j
      have e1 : regular s.data.toList ((n % (s.size + 1) : Nat) : Int) = (regl (s.data.toList.drop (n % (s.size + 1))) : Int) := regular_eq _ _ (by simp; omega)
      have e2 : regular (s.data.toList ++ 32 :: more.data.toList) ((n % (s.size + 1) : Nat) : Int) = (regl (s.data.toList.drop (n % (s.size + 1))) : Int) := by
        rw [regular_eq _ _ (by simp; omega), List.drop_append_of_le_length (by simp; omega), regl_blank]
      have E0 := Lib.hid e0
      have E1 := Lib.hid e1
      have E2 := Lib.hid e2
      have HN := Lib.hid hn
      have HA := Lib.hid ha
      have HB := Lib.hid hb
      rw [hb] at hg
      clear e0 e1 e2 hn ha hb
      generalize hkk : n % (s.size + 1) = k at *
      have HK := Lib.hid hkk
      clear hkk
      generalize hrr : regl (s.data.toList.drop k) = r at *
      have HR := Lib.hid hrr
      clear hrr
      go_enter Try.func4, Try.ntmps4
      go_wp2_with (first
        | (go_at_call 6; refine (known_any _).mono ?_; rintro e w' ⟨rfl, rfl⟩)
        | (fail))
      rw [E0.out]
      refine (regular_any _ _ _ hs).mono ?_; rintro e w' ⟨rfl, rfl⟩
      rw [E1.out]
      have e3 : (s ++ { data := #[32] } ++ more).data.toList = s.data.toList ++ 32 :: more.data.toList := by simp
      have E3 := Lib.hid e3
      have hsz : (s ++ { data := #[32] } ++ more : ByteArray).size ≤ maxLen := by
        have h1 : (s ++ { data := #[32] } ++ more : ByteArray).size = s.size + 1 + more.size := by
          simp only [ByteArray.size_append]; rfl
        rw [h1]; unfold maxLen; omega
      have HSZ := Lib.hid hsz
      clear e3 hsz
      have d2 : decide ((r : Int) < 0) = false := by simp
      have d3 : decide ((s.size : Int) - (k : Int) < (r : Int)) = false := by simp; omega
      go_wp2_with fail
      refine (regular_any _ _ _ HSZ.out).mono ?_
      rintro e w' ⟨rfl, rfl⟩
      rw [E3.out, E2.out]
      go_wp2_with fail
      go_loop [9] (fun c => ∃ j : Nat, j ≤ r ∧ c = .int .i64 (k + j : Nat)) (fun c => r + k - (intOf c).toNat)
      case atStart => exact ⟨0, by omega, rfl⟩
      case round =>
        obtain ⟨j, hj, rfl⟩ := hrel
        have hbound : k + j < s.size ∨ j = r := by omega
        by_cases hlt : j < r
        · have hq : kind (s[k + j].toNat : Int) = 3 := by
            have := HA.out j hlt (by rw [HB.out]; omega)
            simp at this
            exact this
          go_wp2_with (go_at_call 7; refine (kind_any _ _).mono ?_; rintro e w' ⟨rfl, rfl⟩)
          go_round
          case rel => exact ⟨j + 1, by omega, by go_num⟩
          case measure => simp [intOf]; omega
        · obtain rfl : j = r := by omega
          by_cases hend : k + j = s.size
          · have d4 : (((k + j : Nat) : Int) == (s.size : Int)) = true := by simp; omega
            have d5 : ((k : Int) + (j : Int) == (s.size : Int)) = true := by simp; omega
            clear hend
            go_wp2_with (go_at_call 7; refine (kind_any _ _).mono ?_; rintro e w' ⟨rfl, rfl⟩)
            go_ret
            exact ⟨ret_bool (by simp), Grown.refl _⟩
          · have d4 : ((k : Int) + (j : Int) == (s.size : Int)) = false := by simp; omega
            have hq : (kind (s[k + j].toNat : Int) != 3) = true := by
              have := HN.out (by rw [HB.out]; omega)
              rw [bne_iff_ne]
              simp at this
              exact this
            go_wp2_with (go_at_call 7; refine (kind_any _ _).mono ?_; rintro e w' ⟨rfl, rfl⟩)
            go_ret
            exact ⟨ret_bool (by simp), Grown.refl _⟩
end Go.Proofs.Ythkhpbgapcnapaa.ch
