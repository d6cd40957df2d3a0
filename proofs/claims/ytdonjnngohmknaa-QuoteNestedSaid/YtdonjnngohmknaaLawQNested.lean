/-
  QuoteNested: balanced parentheses need no escape; a missing one is ErrEnd, and one more ends the string.
-/
import Derived.Test.YtdonjnngohmknaaLawQBack
namespace Go.Proofs.Ytdonjnngohmknaa.qt
set_option linter.unusedVariables false
set_option linter.unusedSimpArgs false
open Go.RowKit bs lf ch

/-- text within ( ) that leaves d more parentheses open -/
def Nest (m : List UInt8) (d : Nat) : Prop := m.length ≤ 200 ∧ ∀ (f : Nat) (r : List UInt8), m.length ≤ f → parenR f (m ++ r) 1 [] 1 = parenR (f - m.length) r (1 + d) m (1 + m.length)
theorem Nest.nil_ : Nest [] 0 := ⟨by simp, fun f r _ => by simp⟩
theorem Nest.step {m : List UInt8} {d : Nat} (h : Nest m d) (c : UInt8) (d' : Nat) (hm : m.length < 200) (hc : ∀ (g : Nat) (r b : List UInt8) (n : Nat), parenR (g + 1) (c :: r) (1 + d) b n = if 4000 ≤ b.length then bad 5 else parenR g r (1 + d') (b ++ [c]) (n + 1)) : Nest (m ++ [c]) d' := by
  obtain ⟨h1, h2⟩ := h
  refine ⟨by simp; omega, fun f r hf => ?_⟩
  rw [List.length_append] at hf
  simp only [List.length_cons, List.length_nil] at hf
  obtain ⟨g, hg⟩ : ∃ g, f - m.length = g + 1 := ⟨f - m.length - 1, by omega⟩
  rw [List.append_assoc, h2 f _ (by omega), hg]
  show parenR (g + 1) (c :: r) (1 + d) m (1 + m.length) = _
  rw [hc, if_neg (by omega)]
  simp only [List.length_append, List.length_cons, List.length_nil]
  congr 1
  omega
theorem Nest.x {m : List UInt8} {d : Nat} (h : Nest m d) (hm : m.length < 200) : Nest (m ++ [120]) d := h.step 120 d hm (fun g r b n => by simp [parenR])
theorem Nest.open_ {m : List UInt8} {d : Nat} (h : Nest m d) (hm : m.length < 200) : Nest (m ++ [40]) (d + 1) := h.step 40 (d + 1) hm (fun g r b n => by simp [parenR]; rfl)
theorem Nest.close {m : List UInt8} {d : Nat} (h : Nest m d) (hm : m.length < 200) (hd : 0 < d) : Nest (m ++ [41]) (d - 1) := h.step 41 (d - 1) hm (fun g r b n => by
  rw [pr_close _ _ _ _ _ (by omega), show 1 + d - 1 = 1 + (d - 1) by omega])
theorem nest_short {m : List UInt8} {d : Nat} (h : Nest m d) : takeL (40 :: m) = bad 4 := by
  rw [takeL, if_pos (by rfl)]
  show parenR (m.length + 1) m 1 [] 1 = _
  have := h.2 (m.length + 1) [] (by omega)
  rw [List.append_nil] at this
  rw [this, show m.length + 1 - m.length = 1 by omega]
  rfl
theorem nest_end {m : List UInt8} (h : Nest m 0) : takeL (40 :: (m ++ [41, 121])) = (m, ((m.length + 2 : Nat) : Int), 0) := by
  rw [takeL, if_pos (by rfl)]
  show parenR ((m ++ [41, 121]).length + 1) (m ++ [41, 121]) 1 [] 1 = _
  have e : (m ++ [41, 121]).length + 1 - m.length = 2 + 1 := by simp; omega
  rw [h.2 _ _ (by simp; omega), e, pr_end]
  congr 2
  omega

set_option maxRecDepth 100000 in
set_option maxHeartbeats 3200000 in
theorem nested_law (A : Option Addr) (n c : Nat) (l : List UInt8) (w : World) (hl : Bytes w A n c l) (hn : n ≤ 9223372036854775807) :
    Calls Try.prog 5 #[.slice A n c] w fun e w' => e = .returned (.bool true) ∧ Below w.heap.size w w' := by
  have HK := Lib.hid known_any
  have HL := Lib.hid hl
  clear hl
  go_enter Try.func5, Try.ntmps5
  go_wp2_with fail
  refine (HK.out _).mono ?_
  rintro e_ w1 ⟨rfl, hb1⟩
  have HB1 := Lib.hid hb1
  have HL1 := Lib.hid (HL.out.below hb1)
  clear hb1
  go_wp2_with fail
  go_loop [3, 4, 5] (fun sv dv iv => ∃ S : ByteArray, ∃ m : List UInt8, ∃ d i : Nat, sv = .string S ∧ dv = .int .i64 (d : Int) ∧ iv = .int .i64 (i : Int) ∧ i ≤ n ∧ i ≤ 60 ∧ d ≤ i ∧ S.size ≤ i + 1 ∧ Hid (S.data.toList = 40 :: m) ∧ Hid (Nest m d)) (fun _ _ iv => 60 - (intOf iv).toNat)
  case atStart => exact ⟨{ data := #[40] }, [], 0, 0, rfl, rfl, rfl, Nat.zero_le _, by omega, by omega, by decide, Lib.hid rfl, Lib.hid Nest.nil_⟩
  case round =>
    obtain ⟨S, m, d, i, rfl, rfl, rfl, hin, hi60, hdi, hSs, HS, HNE⟩ := hrel
    have hml : m.length ≤ 60 := by
      have h := congrArg List.length HS.out
      simp only [Array.length_toList, List.length_cons] at h
      have h2 : S.data.size = S.size := rfl
      omega
    have HSX := Lib.hid (fun c : UInt8 => show (S ++ { data := #[c] }).data.toList = 40 :: (m ++ [c]) by simp [HS.out])
    by_cases hlt : i < n
    · by_cases hlt2 : i < 60
      · obtain ⟨b, o, rfl, hblt, hcell⟩ := HL1.out.at_ (by omega)
        have hnc := HL1.out.2.1
        have hc0 := hcell i hlt
        clear hcell
        have hu0 : ((l.getD i 0).toNat : Int) ≤ 255 := by have := (l.getD i 0).toNat_lt; omega
        obtain ⟨q, hq⟩ : ∃ q : Nat, (l.getD i 0).toNat = q := ⟨_, rfl⟩
        rw [hq] at hc0 hu0
        clear hq
        have dl : decide ((i : Int) < (n : Int)) = true := by simp; omega
        have dl2 : decide ((i : Int) < 60) = true := by simp; omega
        rcases (show q % 3 = 0 ∨ q % 3 = 1 ∨ q % 3 = 2 by omega) with hq | hq | hq
        · have hz : (q : Int) % 3 = 0 := by omega
          clear hq
          go_wp2_with fail
          go_round
          case rel => exact ⟨_, m ++ [120], d, i + 1, rfl, rfl, by go_num, by omega, by omega, by omega, by rw [ByteArray.size_append]; show S.size + 1 ≤ _; omega, Lib.hid (HSX.out 120), Lib.hid (HNE.out.x (by omega))⟩
          case measure => simp [intOf]; omega
        · have hz : (q : Int) % 3 = 1 := by omega
          clear hq
          go_wp2_with fail
          go_round
          case rel => exact ⟨_, m ++ [40], d + 1, i + 1, rfl, by go_num, by go_num, by omega, by omega, by omega, by rw [ByteArray.size_append]; show S.size + 1 ≤ _; omega, Lib.hid (HSX.out 40), Lib.hid (HNE.out.open_ (by omega))⟩
          case measure => simp [intOf]; omega
        · have hz : (q : Int) % 3 = 2 := by omega
          clear hq
          by_cases hd0 : 0 < d
          · have dd : decide ((0 : Int) < (d : Int)) = true := by simp; omega
            go_wp2_with fail
            go_round
            case rel => exact ⟨_, m ++ [41], d - 1, i + 1, rfl, by go_num, by go_num, by omega, by omega, by omega, by rw [ByteArray.size_append]; show S.size + 1 ≤ _; omega, Lib.hid (HSX.out 41), Lib.hid (HNE.out.close (by omega) hd0)⟩
            case measure => simp [intOf]; omega
          · obtain rfl : d = 0 := by omega
            go_wp2_with fail
            go_round
            case rel => exact ⟨S, m, 0, i + 1, rfl, rfl, by go_num, by omega, by omega, by omega, by omega, HS, HNE⟩
            case measure => simp [intOf]; omega
      · have dl : decide ((i : Int) < (n : Int)) = true := by simp; omega
        have dl2 : decide ((i : Int) < 60) = false := by simp; omega
        have h1 := take_as S [] 0 4 (by omega) (by rw [HS.out]; exact nest_short HNE.out)
        have HT1 := Lib.hid h1
        clear h1
        go_wp2_with fail
        refine (HT1.out _).mono ?_
        rintro e_ w2 ⟨rfl, hb2⟩
        have HB2 := Lib.hid (btrans HB1.out hb2)
        have hsd : S.size + d ≤ 121 := by omega
        clear hb2 HSX HT1
        go_wp2_with fail
        go_loop [3, 4] (fun sv dv => ∃ S : ByteArray, ∃ m : List UInt8, ∃ d : Nat, sv = .string S ∧ dv = .int .i64 (d : Int) ∧ S.size + d ≤ 121 ∧ Hid (S.data.toList = 40 :: m) ∧ Hid (Nest m d)) (fun _ dv => (intOf dv).toNat)
        case atStart => exact ⟨S, m, d, rfl, rfl, hsd, HS, HNE⟩
        case round =>
          clear HS HNE hsd hml hSs
          obtain ⟨S, m, d, rfl, rfl, hsd, HS, HNE⟩ := hrel
          have hml : m.length + 1 = S.size := by
            have h := congrArg List.length HS.out
            simp only [Array.length_toList, List.length_cons] at h
            have h2 : S.data.size = S.size := rfl
            omega
          have HML := Lib.hid hml
          clear hml
          by_cases hd0 : 0 < d
          · have dd : decide ((0 : Int) < (d : Int)) = true := by simp; omega
            go_wp2_with fail
            go_round
            case rel => exact ⟨S ++ { data := #[41] }, m ++ [41], d - 1, rfl, by go_num, by rw [ByteArray.size_append]; show S.size + 1 + _ ≤ _; omega, Lib.hid (by simp [HS.out]), Lib.hid (HNE.out.close (by have := HML.out; omega) hd0)⟩
            case measure => simp [intOf]; omega
          · obtain rfl : d = 0 := by omega
            have hx : (⟨m.toArray⟩ : ByteArray) = S.extract 1 S.size := by
              have e : (S.extract 1 S.size).data.toList = m := by
                rw [ByteArray.data_extract, Array.toList_extract, HS.out]
                have := HML.out
                simp
                rw [List.take_of_length_le (by omega)]
              have e2 : (S.extract 1 S.size).data = m.toArray := by rw [← e]
              rw [← e2]
            have h1 := take_as (S ++ { data := #[41, 121] }) m ((S.size : Int) + 1) 0 (by rw [ByteArray.size_append]; show S.size + 2 ≤ _; omega) (by
              rw [show (S ++ { data := #[41, 121] }).data.toList = 40 :: (m ++ [41, 121]) by simp [HS.out], nest_end HNE.out]
              have := HML.out
              congr 2
              omega)
            rw [hx] at h1
            have HT2 := Lib.hid h1
            have s1 : (1 : Int) ≤ (S.size : Int) := by have := HML.out; omega
            clear h1 hx
            go_wp2_with fail
            refine (HT2.out _).mono ?_
            rintro e_ w3 ⟨rfl, hb3⟩
            have HB3 := Lib.hid (btrans HB2.out hb3)
            clear hb3
            go_wp2_with fail
            go_ret
            exact ⟨by first | rfl | simp, HB3.out⟩
    · have dl : decide ((i : Int) < (n : Int)) = false := by simp; omega
      have h1 := take_as S [] 0 4 (by omega) (by rw [HS.out]; exact nest_short HNE.out)
      have HT1 := Lib.hid h1
      clear h1
      go_wp2_with fail
      refine (HT1.out _).mono ?_
      rintro e_ w2 ⟨rfl, hb2⟩
      have HB2 := Lib.hid (btrans HB1.out hb2)
      have hsd : S.size + d ≤ 121 := by omega
      clear hb2 HSX HT1
      go_wp2_with fail
      go_loop [3, 4] (fun sv dv => ∃ S : ByteArray, ∃ m : List UInt8, ∃ d : Nat, sv = .string S ∧ dv = .int .i64 (d : Int) ∧ S.size + d ≤ 121 ∧ Hid (S.data.toList = 40 :: m) ∧ Hid (Nest m d)) (fun _ dv => (intOf dv).toNat)
      case atStart => exact ⟨S, m, d, rfl, rfl, hsd, HS, HNE⟩
      case round =>
        clear HS HNE hsd hml hSs
        obtain ⟨S, m, d, rfl, rfl, hsd, HS, HNE⟩ := hrel
        have hml : m.length + 1 = S.size := by
          have h := congrArg List.length HS.out
          simp only [Array.length_toList, List.length_cons] at h
          have h2 : S.data.size = S.size := rfl
          omega
        have HML := Lib.hid hml
        clear hml
        by_cases hd0 : 0 < d
        · have dd : decide ((0 : Int) < (d : Int)) = true := by simp; omega
          go_wp2_with fail
          go_round
          case rel => exact ⟨S ++ { data := #[41] }, m ++ [41], d - 1, rfl, by go_num, by rw [ByteArray.size_append]; show S.size + 1 + _ ≤ _; omega, Lib.hid (by simp [HS.out]), Lib.hid (HNE.out.close (by have := HML.out; omega) hd0)⟩
          case measure => simp [intOf]; omega
        · obtain rfl : d = 0 := by omega
          have hx : (⟨m.toArray⟩ : ByteArray) = S.extract 1 S.size := by
            have e : (S.extract 1 S.size).data.toList = m := by
              rw [ByteArray.data_extract, Array.toList_extract, HS.out]
              have := HML.out
              simp
              rw [List.take_of_length_le (by omega)]
            have e2 : (S.extract 1 S.size).data = m.toArray := by rw [← e]
            rw [← e2]
          have h1 := take_as (S ++ { data := #[41, 121] }) m ((S.size : Int) + 1) 0 (by rw [ByteArray.size_append]; show S.size + 2 ≤ _; omega) (by
            rw [show (S ++ { data := #[41, 121] }).data.toList = 40 :: (m ++ [41, 121]) by simp [HS.out], nest_end HNE.out]
            have := HML.out
            congr 2
            omega)
          rw [hx] at h1
          have HT2 := Lib.hid h1
          have s1 : (1 : Int) ≤ (S.size : Int) := by have := HML.out; omega
          clear h1 hx
          go_wp2_with fail
          refine (HT2.out _).mono ?_
          rintro e_ w3 ⟨rfl, hb3⟩
          have HB3 := Lib.hid (btrans HB2.out hb3)
          clear hb3
          go_wp2_with fail
          go_ret
          exact ⟨by first | rfl | simp, HB3.out⟩
end Go.Proofs.Ytdonjnngohmknaa.qt
