/-
  QuoteEight: an escape of one to three octal digits is a byte modulo 256; a line end behind a backslash is nothing, by itself it is a byte 10; an unknown escape is its character.
-/
import Derived.Test.YtdonjnngohmknaaLawQBack
namespace Go.Proofs.Ytdonjnngohmknaa.qt
set_option linter.unusedVariables false
set_option linter.unusedSimpArgs false
open Go.RowKit bs lf ch

def strLen : Value → Nat
  | .string s => s.size
  | _ => 0
theorem all8 {k : Nat} {ks : List Nat} (h : k < 8) (H : ∀ x ∈ ks, x < 8) : ∀ x ∈ k :: ks, x < 8 := by
  intro x hx
  rcases List.mem_cons.1 hx with rfl | hx
  · exact h
  · exact H x hx
/-- digits to eight -/
def odig (k : Nat) : UInt8 := UInt8.ofNat (48 + k)
def ods (ks : List Nat) : List UInt8 := ks.map odig
def num : List Nat → Nat
  | [] => 0
  | k :: ks => k * 8 ^ ks.length + num ks
theorem oct_ods (ks : List Nat) : ∀ (f v n : Nat) (r : List UInt8), (∀ k ∈ ks, k < 8) → ks.length ≤ f → oct f (ods ks ++ r) v n = oct (f - ks.length) r (v * 8 ^ ks.length + num ks) (n + ks.length) := by
  induction ks with
  | nil => intro f v n r _ _; simp [ods, num]
  | cons k ks ih =>
    intro f v n r hk hf
    rw [List.length_cons] at hf
    obtain ⟨g, rfl⟩ : ∃ g, f = g + 1 := ⟨f - 1, by omega⟩
    show oct (g + 1) (UInt8.ofNat (48 + k) :: (ods ks ++ r)) v n = _
    rw [oct_dig g k (hk k (by simp)), ih g _ _ r (fun x hx => hk x (by simp [hx])) (by omega), List.length_cons, num, Nat.pow_succ]
    have e : (8 * v + k) * 8 ^ ks.length + num ks = v * (8 ^ ks.length * 8) + (k * 8 ^ ks.length + num ks) := by
      rw [Nat.add_mul, Nat.mul_comm 8 v, Nat.mul_assoc, Nat.mul_comm 8 (8 ^ ks.length)]; omega
    rw [e]
    congr 1 <;> omega
theorem take_oct (ks : List Nat) (hk : ∀ k ∈ ks, k < 8) (h1 : 1 ≤ ks.length) (h3 : ks.length ≤ 3) : takeL (40 :: 92 :: (ods ks ++ [41])) = ([UInt8.ofNat (num ks)], ((ks.length + 3 : Nat) : Int), 0) := by
  obtain ⟨k, ks, rfl⟩ : ∃ k t, ks = k :: t := by
    cases ks with
    | nil => simp at h1
    | cons k t => exact ⟨k, t, rfl⟩
  have ho : oct 3 (ods (k :: ks) ++ [41]) 0 0 = (num (k :: ks), (k :: ks).length) := by
    rw [oct_ods _ 3 0 0 [41] hk h3, Nat.zero_mul, Nat.zero_add, Nat.zero_add]
    cases 3 - (k :: ks).length with
    | zero => rfl
    | succ g => rfl
  have he := esc_oct k (hk k (by simp)) (ods ks ++ [41])
  have hc : UInt8.ofNat (48 + k) :: (ods ks ++ [41]) = ods (k :: ks) ++ [41] := rfl
  rw [hc, ho] at he
  rw [takeL, if_pos (by rfl)]
  show parenR ((ods (k :: ks) ++ [41]).length + 1 + 1) (92 :: (ods (k :: ks) ++ [41])) 1 [] 1 = _
  have hl : (ods (k :: ks)).length = (k :: ks).length := by simp [ods]
  rw [pr_esc _ _ _ _ _ (by simp [ods]) (UInt8.ofNat (num (k :: ks))) (by rw [he]), if_neg (by simp), he]
  have hd : (ods (k :: ks) ++ [41]).drop (k :: ks).length = [41] := by rw [List.drop_append, ← hl]; simp
  show parenR ((ods (k :: ks) ++ [41]).length + 1) ((ods (k :: ks) ++ [41]).drop (k :: ks).length) 1 _ _ = _
  rw [hd, pr_end, List.nil_append]
  congr 2
  simp only
  omega

set_option maxRecDepth 100000 in
set_option maxHeartbeats 1600000 in
theorem digit_any (k : Int) (w : World) (h0 : 0 ≤ k) (h1 : k < 8) :
    Calls Try.prog 20 #[.int .i64 k] w fun e w' => e = .returned (.string { data := #[odig k.toNat] }) ∧ w = w' := by
  rcases (show k = 0 ∨ k = 1 ∨ k = 2 ∨ k = 3 ∨ k = 4 ∨ k = 5 ∨ k = 6 ∨ k = 7 by omega) with rfl | rfl | rfl | rfl | rfl | rfl | rfl | rfl
  all_goals go_enter Try.func20, Try.ntmps20
  all_goals go_wp2_with fail
  all_goals go_ret
  all_goals exact ⟨rfl, rfl⟩

set_option maxRecDepth 100000 in
set_option maxHeartbeats 3200000 in
theorem eight_law (c digits end_ : Int) (w : World) (hc : 0 ≤ c ∧ c ≤ 65535) (hd : 0 ≤ digits ∧ digits ≤ 255) (he : 0 ≤ end_ ∧ end_ ≤ 255) :
    Calls Try.prog 7 #[.int .u16 c, .int .u8 digits, .int .u8 end_] w fun e w' => e = .returned (.bool true) ∧ Below w.heap.size w w' := by
  have HK := Lib.hid known_any
  obtain ⟨v, hv⟩ : ∃ v : Nat, c % 512 = (v : Int) := ⟨(c % 512).toNat, by omega⟩
  have hv5 : v < 512 := by omega
  have HVV := Lib.hid hv
  clear hv
  obtain ⟨c0, c1⟩ := hc
  obtain ⟨d0, d1⟩ := hd
  obtain ⟨e0, e1⟩ := he
  have hlb : ∀ W : World, (convert 31 9 (.slice (some ⟨W.heap.size, 0, none⟩) 1 1)).run Try.prog (W.alloc (.cells #[.int .u8 (c % 256)] 5)) = .ok (.string { data := #[UInt8.ofNat v] }) (W.alloc (.cells #[.int .u8 (c % 256)] 5)) := fun W =>
    (LB.new W #[.int .u8 (c % 256)] 1 [UInt8.ofNat v] (by simp [vals]; have := HVV.out; omega) rfl).str
  have i0 : ∀ W, (Instr.index 37 (.agg #[.string { data := #[10] }, .string { data := #[13] }, .string { data := #[13, 10] }]) (.int .u8 0)).run Try.prog W = .ok (.string { data := #[10] }) W := fun _ => by kernel_rfl
  have i1 : ∀ W, (Instr.index 37 (.agg #[.string { data := #[10] }, .string { data := #[13] }, .string { data := #[13, 10] }]) (.int .u8 1)).run Try.prog W = .ok (.string { data := #[13] }) W := fun _ => by kernel_rfl
  have i2 : ∀ W, (Instr.index 37 (.agg #[.string { data := #[10] }, .string { data := #[13] }, .string { data := #[13, 10] }]) (.int .u8 2)).run Try.prog W = .ok (.string { data := #[13, 10] }) W := fun _ => by kernel_rfl
  go_enter Try.func7, Try.ntmps7
  go_wp2_with fail
  refine (HK.out _).mono ?_
  rintro e_ w1 ⟨rfl, hb1⟩
  have HB1 := Lib.hid hb1
  clear hb1
  go_wp2_with fail
  go_loop [8, 9] (fun sv xv => ∃ S : ByteArray, ∃ ks : List Nat, ∃ x : Nat, sv = .string S ∧ xv = .int .i64 (x : Int) ∧ (x : Int) ≤ 511 ∧ S.size ≤ 3 ∧ Hid (S.data.toList = ods ks) ∧ Hid (ks.length = S.size) ∧ Hid (∀ k ∈ ks, k < 8) ∧ Hid (v = x * 8 ^ ks.length + num ks) ∧ Hid (x < 8 ^ (3 - ks.length))) (fun sv _ => 4 - strLen sv)
  case atStart => exact ⟨{ data := #[] }, [], v, rfl, by rw [HVV.out], by omega, by decide, Lib.hid rfl, Lib.hid rfl, Lib.hid (fun k h => by cases h), Lib.hid (by simp [num]), Lib.hid (by simpa using hv5)⟩
  case round =>
    obtain ⟨S, ks, x, rfl, rfl, hx, hS3, HS, HL, HK8, HV, HX⟩ := hrel
    have hpw : x < 8 ^ (3 - ks.length) := HX.out
    have hll : ks.length = S.size := HL.out
    have hdg := fun W => digit_any ((x : Int) % 8) W (by omega) (by omega)
    rw [show ((x : Int) % 8).toNat = x % 8 by omega] at hdg
    have HDG := Lib.hid hdg
    clear hdg
    by_cases hx0 : 0 < x
    · have dx : decide ((0 : Int) < (x : Int)) = true := by simp; omega
      have hkl : ks.length < 3 := by
        rcases Nat.lt_or_ge ks.length 3 with h | h
        · exact h
        · rw [show 3 - ks.length = 0 by omega] at hpw; simp at hpw; omega
      have hS2 : S.size ≤ 2 := by omega
      have HN := Lib.hid (show x / 8 < 8 ^ (3 - (ks.length + 1)) by
        rw [show 3 - ks.length = (3 - (ks.length + 1)) + 1 by omega, Nat.pow_succ] at hpw
        omega)
      have HM := Lib.hid (show x * 8 ^ ks.length = x / 8 * 8 ^ (ks.length + 1) + x % 8 * 8 ^ ks.length by
        rw [Nat.pow_succ, Nat.mul_comm (8 ^ ks.length) 8, ← Nat.mul_assoc, ← Nat.add_mul]
        congr 1
        omega)
      clear hpw hll hkl
      go_wp2_with fail
      refine (HDG.out _).mono ?_
      rintro e_ w_ ⟨rfl, rfl⟩
      go_wp2_with fail
      go_round
      case rel => exact ⟨{ data := #[odig (x % 8)] } ++ S, x % 8 :: ks, x / 8, rfl, by go_num, by omega, by rw [ByteArray.size_append]; show 1 + S.size ≤ 3; omega, Lib.hid (by simp [HS.out, ods]), Lib.hid (by rw [ByteArray.size_append, List.length_cons, HL.out]; show _ = 1 + S.size; omega), Lib.hid (all8 (by omega) HK8.out), Lib.hid (by rw [HV.out, HM.out, List.length_cons, num]; omega), Lib.hid (by rw [List.length_cons]; exact HN.out)⟩
      case measure =>
        show 4 - (({ data := #[odig (x % 8)] } : ByteArray) ++ S).size < 4 - S.size
        rw [ByteArray.size_append]
        show 4 - (1 + S.size) < _
        omega
    · obtain rfl : x = 0 := by omega
      have dx : decide ((0 : Int) < 0) = false := by simp
      by_cases hS1 : 1 ≤ S.size
      · have hne : ¬ S.toList = [] := by
          rw [ByteArray.toList_eq]
          intro h
          have h2 : S.data.toList.length = S.size := by simp
          rw [h] at h2
          simp only [List.length_nil] at h2
          omega
        have hne2 : S.toList.isEmpty = false := by
          cases h : S.toList with
          | nil => exact absurd h hne
          | cons a b => rfl
        clear hpw hll HDG
        go_wp2_with fail
        go_loop [8] (fun sv => ∃ S : ByteArray, ∃ ks : List Nat, sv = .string S ∧ 1 ≤ S.size ∧ S.size ≤ 3 ∧ Hid (S.data.toList = ods ks) ∧ Hid (ks.length = S.size) ∧ Hid (∀ k ∈ ks, k < 8) ∧ Hid (v = num ks)) (fun sv => 4 - strLen sv)
        case atStart => exact ⟨S, ks, rfl, hS1, hS3, HS, HL, HK8, Lib.hid (by rw [HV.out]; omega)⟩
        case round =>
          clear HS HL HK8 HV HX hS1 hS3
          obtain ⟨S, ks, rfl, hS1, hS3, HS, HL, HK8, HV⟩ := hrel
          have dm0 : 0 ≤ digits % 4 := by omega
          have dm1 : digits % 4 ≤ 3 := by omega
          by_cases hlt : (S.size : Int) < digits % 4
          · have dd : decide ((S.size : Int) < digits % 4) = true := by simpa using hlt
            go_wp2_with fail
            go_round
            case rel => exact ⟨{ data := #[48] } ++ S, 0 :: ks, rfl, by rw [ByteArray.size_append]; show 1 ≤ 1 + S.size; omega, by rw [ByteArray.size_append]; show 1 + S.size ≤ 3; omega, Lib.hid (by simp [HS.out]; rfl), Lib.hid (by rw [ByteArray.size_append, List.length_cons, HL.out]; show _ = 1 + S.size; omega), Lib.hid (all8 (by omega) HK8.out), Lib.hid (by rw [HV.out, num]; omega)⟩
            case measure =>
              show 4 - (({ data := #[48] } : ByteArray) ++ S).size < 4 - S.size
              rw [ByteArray.size_append]
              show 4 - (1 + S.size) < _
              omega
          · have dd : decide ((S.size : Int) < digits % 4) = false := by simpa using hlt
            have h1 := take_as ({ data := #[40, 92] } ++ S ++ { data := #[41] }) [UInt8.ofNat v] ((ks.length + 3 : Nat) : Int) 0 (by rw [ByteArray.size_append, ByteArray.size_append]; show 2 + S.size + 1 ≤ _; omega) (by
              rw [show ({ data := #[40, 92] } ++ S ++ { data := #[41] } : ByteArray).data.toList = 40 :: 92 :: (ods ks ++ [41]) by simp [HS.out], take_oct ks HK8.out (by rw [HL.out]; exact hS1) (by rw [HL.out]; exact hS3), HV.out])
            have HT1 := Lib.hid h1
            clear h1 hlt
            have he3 : end_ % 3 = 0 ∨ end_ % 3 = 1 ∨ end_ % 3 = 2 := by omega
            rcases he3 with he3 | he3 | he3
            · have HT2 := Lib.hid (take_as { data := #[40, 97, 92, 10, 98, 10, 99, 92, 113, 41] } [97, 98, 10, 99, 113] 10 0 (by decide) (by kernel_rfl))
              go_wp2_with fail
              refine (HT1.out _).mono ?_
              rintro e_ w2 ⟨rfl, hb2⟩
              have HB2 := Lib.hid (btrans HB1.out hb2)
              clear hb2
              go_wp2_with fail
              refine (HT2.out _).mono ?_
              rintro e_ w3 ⟨rfl, hb3⟩
              have HB3 := Lib.hid (btrans HB2.out hb3)
              clear hb3
              go_wp2_with fail
              go_ret
              exact ⟨by first | rfl | simp, by (repeat' (first | exact HB3.out | exact Below.refl _ _ | refine balloc ?_ _ | refine Below.drew ?_ | refine below_drewN ?_ _ | refine bset ?_ (by first | omega | (simp <;> omega)) _))⟩
            · have HT2 := Lib.hid (take_as { data := #[40, 97, 92, 13, 98, 13, 99, 92, 113, 41] } [97, 98, 10, 99, 113] 10 0 (by decide) (by kernel_rfl))
              go_wp2_with fail
              refine (HT1.out _).mono ?_
              rintro e_ w2 ⟨rfl, hb2⟩
              have HB2 := Lib.hid (btrans HB1.out hb2)
              clear hb2
              go_wp2_with fail
              refine (HT2.out _).mono ?_
              rintro e_ w3 ⟨rfl, hb3⟩
              have HB3 := Lib.hid (btrans HB2.out hb3)
              clear hb3
              go_wp2_with fail
              go_ret
              exact ⟨by first | rfl | simp, by (repeat' (first | exact HB3.out | exact Below.refl _ _ | refine balloc ?_ _ | refine Below.drew ?_ | refine below_drewN ?_ _ | refine bset ?_ (by first | omega | (simp <;> omega)) _))⟩
            · have HT2 := Lib.hid (take_as { data := #[40, 97, 92, 13, 10, 98, 13, 10, 99, 92, 113, 41] } [97, 98, 10, 99, 113] 12 0 (by decide) (by kernel_rfl))
              go_wp2_with fail
              refine (HT1.out _).mono ?_
              rintro e_ w2 ⟨rfl, hb2⟩
              have HB2 := Lib.hid (btrans HB1.out hb2)
              clear hb2
              go_wp2_with fail
              refine (HT2.out _).mono ?_
              rintro e_ w3 ⟨rfl, hb3⟩
              have HB3 := Lib.hid (btrans HB2.out hb3)
              clear hb3
              go_wp2_with fail
              go_ret
              exact ⟨by first | rfl | simp, by (repeat' (first | exact HB3.out | exact Below.refl _ _ | refine balloc ?_ _ | refine Below.drew ?_ | refine below_drewN ?_ _ | refine bset ?_ (by first | omega | (simp <;> omega)) _))⟩
      · have hS0 : S = { data := #[] } := by
          obtain ⟨d⟩ := S
          have : d = #[] := by
            apply Array.eq_empty_of_size_eq_zero
            have : d.size = (⟨d⟩ : ByteArray).size := rfl
            omega
          rw [this]
        subst hS0
        have hk0 : ks = [] := List.eq_nil_of_length_eq_zero (by rw [hll]; rfl)
        subst hk0
        clear hpw hll hS1
        go_wp2_with fail
        refine (digit_any 0 _ (by omega) (by omega)).mono ?_
        rintro e_ w_ ⟨rfl, rfl⟩
        go_wp2_with fail
        go_round
        case rel => exact ⟨{ data := #[48] }, [0], 0, by first | rfl | trivial, rfl, by omega, by decide, Lib.hid rfl, Lib.hid rfl, Lib.hid (fun k h => by simp at h; omega), Lib.hid (by have := HV.out; simp [num] at this ⊢; omega), Lib.hid (by decide)⟩
        case measure => decide
end Go.Proofs.Ytdonjnngohmknaa.qt
