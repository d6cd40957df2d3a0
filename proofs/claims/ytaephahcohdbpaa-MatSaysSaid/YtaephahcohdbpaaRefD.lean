/-
  The reference for layer 24: a product of two words (Times), its division bit by bit (divide).
-/
import Derived.Test.YtaephahcohdbpaaExact
import Derived.BigQuiet
namespace Go.Proofs.Ytaephahcohdbpaa.mt
set_option linter.unusedVariables false
set_option linter.unusedSimpArgs false
open Go.RowKit bs

set_option maxHeartbeats 1600000 in
theorem times_any (a b : Int) (w : World) (ha : 0 ≤ a ∧ a < 18446744073709551616) (hb : 0 ≤ b ∧ b < 18446744073709551616) :
    Calls Try.prog 80 #[.int .u64 a, .int .u64 b] w fun e w' => e = .returned (.agg #[.int .u64 (a * b / 18446744073709551616), .int .u64 (a * b % 18446744073709551616)]) ∧ Below w.heap.size w w' := by
  obtain ⟨p0, p1, p2, p3, e0, e1, e2, e3, ⟨b00, b01⟩, ⟨b10, b11⟩, ⟨b20, b21⟩, ⟨b30, b31⟩, hm⟩ := mul_parts a b ha hb
  obtain ⟨a0, a1⟩ := ha
  obtain ⟨c0, c1⟩ := hb
  have m0 := and32 a a0 a1
  have m1 := and32 b c0 c1
  have m2 := and32 p0 b00 (by omega)
  obtain ⟨M, hM⟩ : ∃ M, p1 + p0 / 4294967296 = M := ⟨_, rfl⟩
  have M0 : 0 ≤ M ∧ M < 18446744073709551616 := by omega
  have m3 := and32 M M0.1 M0.2
  obtain ⟨N, hN⟩ : ∃ N, p2 + M % 4294967296 = N := ⟨_, rfl⟩
  have N0 : 0 ≤ N ∧ N < 18446744073709551616 := by omega
  have m5 := or32 (N % 4294967296 * 4294967296) (p0 % 4294967296) (by omega) (by omega) (by omega) (by omega) (by omega)
  have hz : p3 + M / 4294967296 + N / 4294967296 = a * b / 18446744073709551616 ∧ N % 4294967296 * 4294967296 + p0 % 4294967296 = a * b % 18446744073709551616 := by omega
  have w4 : IntKind.u64.wrap (N * 4294967296) = N % 4294967296 * 4294967296 := by rw [IntKind.wrap_u64]; omega
  obtain ⟨M00, M01⟩ := M0
  obtain ⟨N00, N01⟩ := N0
  have HZ := Lib.hid hz
  clear hz hm
  have K2 := Blk.new w 89 #[.int .u64 0, .int .u64 0]
  have q0 := K2.cell 0
  have q1 := K2.cell 1
  have f0 := K2.frozen 0
  have f1 := K2.frozen 1
  simp only [List.getElem?_toArray, List.getElem?_cons_succ, List.getElem?_cons_zero] at q0 q1
  clear K2
  rw [← HZ.out.1, ← HZ.out.2]
  go_enter Try.func80, Try.ntmps80
  go_wp2_with fail
  refine ret_struct1 (g := w.heap.size) (t := 89) (cs := #[.int .u64 (p3 + M / 4294967296 + N / 4294967296), .int .u64 (N % 4294967296 * 4294967296 + p0 % 4294967296)]) rfl rfl ?_ Try.underlying89 rfl rfl rfl ?_
  · exact Blk.new _ _ _
  · exact ⟨rfl, by (repeat' (first | refine bset ?_ (by first | omega | (simp <;> omega)) _ | refine balloc ?_ _ | refine Below.drew ?_ | refine below_drewN ?_ _ | exact Below.refl _ _ | exact Below.refl _ _))⟩

theorem high_bit (N j : Nat) (hj : 64 ≤ j) : N / 18446744073709551616 / 2 ^ (j - 64) % 2 = N / 2 ^ j % 2 := by
  have e : (18446744073709551616 : Nat) = 2 ^ 64 := by decide
  rw [e, Nat.div_div_eq_div_mul, ← Nat.pow_add, show 64 + (j - 64) = j by omega]
theorem and63 (j : Nat) (hj : j < 9223372036854775808) : bits .and .i64 (j : Int) 63 = ((j % 64 : Nat) : Int) := by
  have := bits_mask .i64 63 (by decide) (fun n h0 h1 => by rw [IntKind.wrap_i64]; omega) 6 (by decide) (j : Int) (by omega) (by omega)
  rw [show ((2 : Int) ^ 6 - 1) = 63 by decide] at this
  rw [this]
  omega

def divR (N D : Nat) : Value := if N / D < 4611686018427387904 then .tuple #[.int .u64 ((N / D : Nat) : Int), .int .u64 ((N % D : Nat) : Int), .bool true] else .tuple #[.int .u64 0, .int .u64 0, .bool false]
set_option maxHeartbeats 3200000 in
theorem divide_any (N D : Nat) (w : World) (hD0 : 0 < D) (hD1 : D ≤ 9223372036854775808) (hN : N < 340282366920938463463374607431768211456) :
    Calls Try.prog 79 #[.agg #[.int .u64 ((N / 18446744073709551616 : Nat) : Int), .int .u64 ((N % 18446744073709551616 : Nat) : Int)], .int .u64 (D : Int)] w fun e w' => e = .returned (divR N D) ∧ Below w.heap.size w w' := by
  obtain ⟨hi, hhi⟩ : ∃ hi, N / 18446744073709551616 = hi := ⟨_, rfl⟩
  obtain ⟨lo, hlo⟩ : ∃ lo, N % 18446744073709551616 = lo := ⟨_, rfl⟩
  have hl : lo < 18446744073709551616 := by omega
  have hh : hi < 18446744073709551616 := by omega
  rw [hhi, hlo]
  have HH := Lib.hid hhi
  have HL := Lib.hid hlo
  have HN := Lib.hid hN
  clear hhi hlo hN
  obtain ⟨R0, hR0⟩ : ∃ v, divR N D = v := ⟨_, rfl⟩
  rw [hR0]
  have HR := Lib.hid hR0
  clear hR0
  have K2 := Blk.new w 89 #[.int .u64 (hi : Int), .int .u64 (lo : Int)]
  have q0 := K2.cell 0
  have q1 := K2.cell 1
  simp only [List.getElem?_toArray, List.getElem?_cons_succ, List.getElem?_cons_zero] at q0 q1
  clear K2
  go_enter Try.func79, Try.ntmps79
  go_wp2_with fail
  go_loop [7, 8, 9, 10, 11, 12] (fun q r i x y z => ∃ k : Nat, k ≤ 128 ∧ i = .int .i64 ((k : Int) - 1) ∧ ∃ Q R : Nat, q = .int .u64 (Q : Int) ∧ r = .int .u64 (R : Int) ∧ R < D ∧ Q < 4611686018427387904 ∧ Hid (Q = N / 2 ^ k / D ∧ R = N / 2 ^ k % D)) (fun _ _ i _ _ _ => (intOf i + 1).toNat)
  case atStart =>
    refine ⟨128, by omega, rfl, 0, 0, rfl, rfl, hD0, by omega, ?_⟩
    have e : (2 : Nat) ^ 128 = 340282366920938463463374607431768211456 := by decide
    show 0 = N / 2 ^ 128 / D ∧ 0 = N / 2 ^ 128 % D
    rw [e, Nat.div_eq_of_lt HN.out]
    simp
  case round =>
    obtain ⟨k, hk, rfl, Q, R, rfl, rfl, hR, hQ, hI⟩ := hrel
    cases k with
    | zero =>
      go_wp2
      go_ret3
      refine ⟨?_, by (repeat' (first | exact Below.refl _ _ | exact Below.refl _ _ | refine balloc ?_ _ | refine Below.drew ?_ | refine below_drewN ?_ _ | refine bset ?_ (by first | omega | (simp <;> omega)) _))⟩
      obtain ⟨e1, e2⟩ := hI.out
      rw [Nat.pow_zero, Nat.div_one] at e1 e2
      rw [← HR.out]
      unfold divR
      rw [if_pos (by omega), ← e1, ← e2]
      rfl
    | succ j =>
      have htop : (R : Int) / 9223372036854775808 = 0 := by omega
      have h63 := and63 j (by omega)
      obtain ⟨j6, hj6⟩ : ∃ j6, j % 64 = j6 := ⟨_, rfl⟩
      rw [hj6] at h63
      have hj7 : j6 < 64 := by omega
      obtain ⟨t0, ht0⟩ : ∃ t, lo / 2 ^ j6 % 2 = t := ⟨_, rfl⟩
      obtain ⟨f0, _⟩ := bit_facts lo t0 j6 hj7 hl ht0
      obtain ⟨t, ht⟩ : ∃ t, N / 2 ^ j % 2 = t := ⟨_, rfl⟩
      have ht2 : t < 2 := by omega
      have f2 := or_bit R t (by omega) ht2
      obtain ⟨T, hT⟩ : ∃ T, 2 * R + t = T := ⟨_, rfl⟩
      rw [hT] at f2
      obtain ⟨e1, e2⟩ := hI.out
      have hN := half_step N j
      rw [ht] at hN
      have hs := div_step (N / 2 ^ (j + 1)) D t hD0 ht2
      rw [← hN, ← e1, ← e2, hT] at hs
      have f3 : bits .or .u64 ((Q : Int) * 2) 1 = ((2 * Q + 1 : Nat) : Int) := or_bit Q 1 (by omega) (by omega)
      have f4 : bits .or .u64 ((Q : Int) * 2) 0 = ((2 * Q : Nat) : Int) := or_bit Q 0 (by omega) (by omega)
      obtain ⟨Q1, hQ1⟩ : ∃ v, 2 * Q + 1 = v := ⟨_, rfl⟩
      obtain ⟨Q2, hQ2⟩ : ∃ v, 2 * Q = v := ⟨_, rfl⟩
      rw [hQ1] at f3
      rw [hQ2] at f4
      have HQ1 := Lib.hid hQ1
      have HQ2 := Lib.hid hQ2
      clear hQ1 hQ2
      have hbig : 2305843009213693952 ≤ Q → ¬ N / D < 4611686018427387904 := by
        intro hq
        rw [e1, Nat.div_div_eq_div_mul, Nat.mul_comm, ← Nat.div_div_eq_div_mul] at hq
        have := Nat.div_le_div_left (show 2 ≤ 2 ^ (j + 1) by rw [Nat.pow_succ]; have := Nat.two_pow_pos j; omega) (by decide) (a := N / D)
        omega
      have HB := Lib.hid hbig
      have HS := Lib.hid hs
      have HT := Lib.hid hT
      have HJ := Lib.hid hj6
      have Ht := Lib.hid ht
      have HE := Lib.hid ht0
      clear hs hT e1 e2 hN hI hbig hj6 ht ht0
      have hbitlo : j < 64 → t0 = t := by
        intro h
        have := low_bit N j h
        rw [HL.out, Ht.out] at this
        rw [← HE.out, ← HJ.out, Nat.mod_eq_of_lt h]
        exact this
      have hbithi : 64 ≤ j → bits .and .u64 ((hi : Int) / 2 ^ (j - 64)) 1 = (t : Int) := by
        intro h
        have h1 := high_bit N j h
        rw [HH.out, Ht.out] at h1
        exact (bit_facts hi t (j - 64) (by omega) hh h1).1
      have HBL := Lib.hid hbitlo
      have HBH := Lib.hid hbithi
      clear hbitlo hbithi
      by_cases h64 : j < 64
      · have c1 : decide ((64 : Int) ≤ (j : Int)) = false := by simp; omega
        have hb := HBL.out h64
        rw [hb] at f0
        clear hb
        by_cases hc : D ≤ T
        · have c2 : decide ((D : Int) ≤ (T : Int)) = true := by simp; omega
          have f5 : IntKind.u64.wrap ((T : Int) - (D : Int)) = ((T - D : Nat) : Int) := by rw [wraps_u64 _ (by omega) (by have := HT.out; omega)]; omega
          obtain ⟨U, hU⟩ : ∃ U, T - D = U := ⟨_, rfl⟩
          have hU2 : U < D := by have := HT.out; omega
          rw [hU] at f5
          have HU := Lib.hid hU
          clear hU
          by_cases hq : 2305843009213693952 ≤ Q
          · have c3 : decide ((2305843009213693952 : Int) ≤ (Q : Int)) = true := by simp; omega
            go_wp2
            go_ret3
            refine ⟨?_, by (repeat' (first | exact Below.refl _ _ | exact Below.refl _ _ | refine balloc ?_ _ | refine Below.drew ?_ | refine below_drewN ?_ _ | refine bset ?_ (by first | omega | (simp <;> omega)) _))⟩
            rw [← HR.out]
            unfold divR
            rw [if_neg (HB.out (by omega))]
            rfl
          · have c3 : decide ((2305843009213693952 : Int) ≤ (Q : Int)) = false := by simp; omega
            go_wp2
            go_round
            case rel =>
              obtain ⟨s1, s2⟩ := HS.out.1 hc
              exact ⟨j, by omega, by go_num, Q1, U, rfl, rfl, hU2, by have := HQ1.out; omega, (by show Q1 = N / 2 ^ j / D ∧ U = N / 2 ^ j % D; rw [s1, s2]; exact ⟨HQ1.out.symm, HU.out.symm⟩ : _ ∧ _)⟩
            case measure => simp [intOf]
        · have c2 : decide ((D : Int) ≤ (T : Int)) = false := by simp; omega
          by_cases hq : 2305843009213693952 ≤ Q
          · have c3 : decide ((2305843009213693952 : Int) ≤ (Q : Int)) = true := by simp; omega
            go_wp2
            go_ret3
            refine ⟨?_, by (repeat' (first | exact Below.refl _ _ | exact Below.refl _ _ | refine balloc ?_ _ | refine Below.drew ?_ | refine below_drewN ?_ _ | refine bset ?_ (by first | omega | (simp <;> omega)) _))⟩
            rw [← HR.out]
            unfold divR
            rw [if_neg (HB.out (by omega))]
            rfl
          · have c3 : decide ((2305843009213693952 : Int) ≤ (Q : Int)) = false := by simp; omega
            go_wp2
            go_round
            case rel =>
              obtain ⟨s1, s2⟩ := HS.out.2 (by omega)
              exact ⟨j, by omega, by go_num, Q2, T, rfl, rfl, by omega, by have := HQ2.out; omega, (by show Q2 = N / 2 ^ j / D ∧ T = N / 2 ^ j % D; rw [s1, s2]; exact ⟨HQ2.out.symm, rfl⟩ : _ ∧ _)⟩
            case measure => simp [intOf]
      · have c1 : decide ((64 : Int) ≤ (j : Int)) = true := by simp; omega
        have hb := HBH.out (by omega)
        have hjt : ((j : Int) - 64).toNat = j - 64 := by omega
        have hjc : (j : Int) - 64 = ((j - 64 : Nat) : Int) := by omega
        by_cases hc : D ≤ T
        · have c2 : decide ((D : Int) ≤ (T : Int)) = true := by simp; omega
          have f5 : IntKind.u64.wrap ((T : Int) - (D : Int)) = ((T - D : Nat) : Int) := by rw [wraps_u64 _ (by omega) (by have := HT.out; omega)]; omega
          obtain ⟨U, hU⟩ : ∃ U, T - D = U := ⟨_, rfl⟩
          have hU2 : U < D := by have := HT.out; omega
          rw [hU] at f5
          have HU := Lib.hid hU
          clear hU
          by_cases hq : 2305843009213693952 ≤ Q
          · have c3 : decide ((2305843009213693952 : Int) ≤ (Q : Int)) = true := by simp; omega
            go_wp2
            go_ret3
            refine ⟨?_, by (repeat' (first | exact Below.refl _ _ | exact Below.refl _ _ | refine balloc ?_ _ | refine Below.drew ?_ | refine below_drewN ?_ _ | refine bset ?_ (by first | omega | (simp <;> omega)) _))⟩
            rw [← HR.out]
            unfold divR
            rw [if_neg (HB.out (by omega))]
            rfl
          · have c3 : decide ((2305843009213693952 : Int) ≤ (Q : Int)) = false := by simp; omega
            go_wp2
            go_round
            case rel =>
              obtain ⟨s1, s2⟩ := HS.out.1 hc
              exact ⟨j, by omega, by go_num, Q1, U, rfl, rfl, hU2, by have := HQ1.out; omega, (by show Q1 = N / 2 ^ j / D ∧ U = N / 2 ^ j % D; rw [s1, s2]; exact ⟨HQ1.out.symm, HU.out.symm⟩ : _ ∧ _)⟩
            case measure => simp [intOf]
        · have c2 : decide ((D : Int) ≤ (T : Int)) = false := by simp; omega
          by_cases hq : 2305843009213693952 ≤ Q
          · have c3 : decide ((2305843009213693952 : Int) ≤ (Q : Int)) = true := by simp; omega
            go_wp2
            go_ret3
            refine ⟨?_, by (repeat' (first | exact Below.refl _ _ | exact Below.refl _ _ | refine balloc ?_ _ | refine Below.drew ?_ | refine below_drewN ?_ _ | refine bset ?_ (by first | omega | (simp <;> omega)) _))⟩
            rw [← HR.out]
            unfold divR
            rw [if_neg (HB.out (by omega))]
            rfl
          · have c3 : decide ((2305843009213693952 : Int) ≤ (Q : Int)) = false := by simp; omega
            go_wp2
            go_round
            case rel =>
              obtain ⟨s1, s2⟩ := HS.out.2 (by omega)
              exact ⟨j, by omega, by go_num, Q2, T, rfl, rfl, by omega, by have := HQ2.out; omega, (by show Q2 = N / 2 ^ j / D ∧ T = N / 2 ^ j % D; rw [s1, s2]; exact ⟨HQ2.out.symm, rfl⟩ : _ ∧ _)⟩
            case measure => simp [intOf]
end Go.Proofs.Ytaephahcohdbpaa.mt
