/-
  Layer 24's arithmetic: division of a product by a word, bit by bit (wide.parts).
-/
import Derived.Test.YtegpjjkbbdfggaaProd
namespace Go.Proofs.Ytegpjjkbbdfggaa.mt
set_option linter.unusedVariables false
set_option linter.unusedSimpArgs false
open Go.RowKit bs

/-- one bit more of a quotient -/
theorem div_step (X D t : Nat) (hD : 0 < D) (ht : t < 2) : (D ≤ 2 * (X % D) + t → (2 * X + t) / D = 2 * (X / D) + 1 ∧ (2 * X + t) % D = 2 * (X % D) + t - D) ∧ (2 * (X % D) + t < D → (2 * X + t) / D = 2 * (X / D) ∧ (2 * X + t) % D = 2 * (X % D) + t) := by
  have h1 := Nat.div_add_mod X D
  have h2 := Nat.mod_lt X hD
  generalize X / D = y at *
  generalize X % D = r at *
  have e : 2 * X + t = D * (2 * y) + (2 * r + t) := by
    rw [Nat.mul_left_comm]
    omega
  constructor
  · intro h
    have e2 : 2 * X + t = D * (2 * y + 1) + (2 * r + t - D) := by rw [Nat.mul_add D (2 * y) 1, Nat.mul_one]; omega
    rw [e2, Nat.mul_add_div hD, Nat.mul_add_mod, Nat.div_eq_of_lt (by omega), Nat.mod_eq_of_lt (by omega)]
    exact ⟨by omega, rfl⟩
  · intro h
    rw [e, Nat.mul_add_div hD, Nat.mul_add_mod, Nat.div_eq_of_lt (by omega), Nat.mod_eq_of_lt (by omega)]
    exact ⟨by omega, rfl⟩
theorem half_step (N k : Nat) : N / 2 ^ k = 2 * (N / 2 ^ (k + 1)) + N / 2 ^ k % 2 := by
  rw [Nat.pow_succ, ← Nat.div_div_eq_div_mul]
  omega

theorem results_tmp4 {fn : Func} {t u v x : Tmp} (h : fn.results = #[.tmp t, .tmp u, .tmp v, .tmp x]) (tmps : Array Value) (P : Program) (w : World) :
    (results fn tmps).run P w = .ok (.tuple #[tmps.getD t undef, tmps.getD u undef, tmps.getD v undef, tmps.getD x undef]) w := by
  simp [results, h]
/-- a bit of the lower word is a bit of the whole -/
theorem low_bit (N j : Nat) (hj : j < 64) : N % 18446744073709551616 / 2 ^ j % 2 = N / 2 ^ j % 2 := by
  have hp : 18446744073709551616 = 2 ^ j * (2 * 2 ^ (63 - j)) := by
    have e : (18446744073709551616 : Nat) = 2 ^ 64 := by decide
    rw [e, ← Nat.pow_succ', ← Nat.pow_add]
    congr 1
    omega
  have h1 := Nat.div_add_mod N 18446744073709551616
  generalize N % 18446744073709551616 = lo at *
  have h2 : N / 2 ^ j = 2 * (2 ^ (63 - j) * (N / 18446744073709551616)) + lo / 2 ^ j := by
    have e : N = 2 ^ j * (2 * (2 ^ (63 - j) * (N / 18446744073709551616))) + lo := by
      have : 2 ^ j * (2 * (2 ^ (63 - j) * (N / 18446744073709551616))) = 18446744073709551616 * (N / 18446744073709551616) := by
        rw [← Nat.mul_assoc 2, ← Nat.mul_assoc, ← hp]
      omega
    conv => lhs; rw [e]
    rw [Nat.mul_add_div (Nat.two_pow_pos j)]
  omega
/-- the facts of a step -/
theorem bit_facts (lo t j : Nat) (hj : j < 64) (hl : lo < 18446744073709551616) (ht : lo / 2 ^ j % 2 = t) : bits .and .u64 ((lo : Int) / 2 ^ j) 1 = (t : Int) ∧ t < 2 := by
  have e : (lo : Int) / 2 ^ j = ((lo / 2 ^ j : Nat) : Int) := by push_cast; rfl
  have hb : lo / 2 ^ j ≤ lo := Nat.div_le_self _ _
  rw [e]
  generalize lo / 2 ^ j = X at *
  refine ⟨?_, by omega⟩
  have := bits_mask .u64 64 (by decide) wraps_u64 1 (by decide) (X : Int) (by omega) (by omega)
  rw [show ((2 : Int) ^ 1 - 1) = 1 by decide] at this
  rw [this, ← ht]
  omega
theorem or_bit (R t : Nat) (hR : R < 9223372036854775808) (ht : t < 2) : bits .or .u64 ((R : Int) * 2) (t : Int) = ((2 * R + t : Nat) : Int) := by
  rw [bits_join .u64 64 (by decide) wraps_u64 1 ((R : Int) * 2) (t : Int) (by omega) (by omega) (by omega) (by omega) (by omega) (by omega)]
  push_cast; omega
theorem or_pow (y Q j : Nat) (hj : j < 64) (hQ : y * 2 ^ (j + 1) = Q) (hq : Q < 18446744073709551616) : bits .or .u64 (Q : Int) (IntKind.u64.wrap (2 ^ j)) = ((Q + 2 ^ j : Nat) : Int) ∧ Q + 2 ^ j < 18446744073709551616 := by
  have hp : 18446744073709551616 = 2 ^ (63 - j) * 2 ^ (j + 1) := by
    have e : (18446744073709551616 : Nat) = 2 ^ 64 := by decide
    rw [e, ← Nat.pow_add]
    congr 1
    omega
  have hy : y + 1 ≤ 2 ^ (63 - j) := by
    rw [hp, ← hQ] at hq
    have := Nat.lt_of_mul_lt_mul_right hq
    omega
  have hz := Nat.mul_le_mul_right (2 ^ (j + 1)) hy
  rw [← hp, Nat.add_mul, hQ, Nat.one_mul] at hz
  have hs : 2 ^ (j + 1) = 2 * 2 ^ j := by rw [Nat.pow_succ, Nat.mul_comm]
  have h0 := Nat.two_pow_pos j
  have hc : ((2 : Int) ^ j) = ((2 ^ j : Nat) : Int) := by push_cast; rfl
  have hk : ((2 : Int) ^ (j + 1)) = ((2 ^ (j + 1) : Nat) : Int) := by push_cast; rfl
  have hm := Nat.mul_mod_left y (2 ^ (j + 1))
  rw [hQ] at hm
  generalize 2 ^ (j + 1) = b at *
  generalize 2 ^ j = a at *
  have hw : IntKind.u64.wrap (a : Int) = (a : Int) := wraps_u64 _ (by omega) (by omega)
  refine ⟨?_, by omega⟩
  rw [hc, hw, bits_join .u64 64 (by decide) wraps_u64 (j + 1) (Q : Int) (a : Int) (by omega) ?_ (by omega) (by omega) ?_ (by omega)]
  · push_cast; rfl
  · rw [hk]; omega
  · rw [hk]; omega

set_option maxHeartbeats 1600000 in
theorem parts_yes (a b d : Int) (N D : Nat) (w : World) (ha : -9223372036854775808 ≤ a ∧ a ≤ 9223372036854775807) (hb : -9223372036854775808 ≤ b ∧ b ≤ 9223372036854775807) (hd : -9223372036854775808 ≤ d ∧ d ≤ 9223372036854775807)
    (hN : size a * size b = N) (hD : size d = D) (h : N / 18446744073709551616 < D) :
    Calls Try.prog 105 #[.int .i64 a, .int .i64 b, .int .i64 d] w fun e w' => e = .returned (.tuple #[.int .u64 ((N / D : Nat) : Int), .int .u64 ((N % D : Nat) : Int), .int .u64 (D : Int), .bool true]) ∧ Below w.heap.size w w' := by
  have sa := size_bd a ha.1 ha.2
  have sb := size_bd b hb.1 hb.2
  have sd := size_bd d hd.1 hd.2
  obtain ⟨a0, a1⟩ := ha
  obtain ⟨b0, b1⟩ := hb
  obtain ⟨d0, d1⟩ := hd
  obtain ⟨hi, hhi⟩ : ∃ hi, N / 18446744073709551616 = hi := ⟨_, rfl⟩
  obtain ⟨lo, hlo⟩ : ∃ lo, N % 18446744073709551616 = lo := ⟨_, rfl⟩
  have hl : lo < 18446744073709551616 := by omega
  have hc1 : size a * size b / 18446744073709551616 = (hi : Int) := by rw [hN]; omega
  have hc2 : size a * size b % 18446744073709551616 = (lo : Int) := by rw [hN]; omega
  rw [hhi] at h
  have hD1 : D ≤ 9223372036854775808 := by omega
  have hge : decide ((D : Int) ≤ (hi : Int)) = false := by simp; omega
  have HA := Lib.hid (fun W => size_any a W a0 a1)
  have HB := Lib.hid (fun W => size_any b W b0 b1)
  have HP := Lib.hid (fun W => product_any (size a) (size b) W (by omega) (by omega))
  rw [hc1, hc2] at HP
  have HS := Lib.hid (fun W => size_any d W d0 d1)
  rw [hD] at HS
  have HH := Lib.hid hhi
  have HL := Lib.hid hlo
  have SA := Lib.hid sa
  have SB := Lib.hid sb
  clear hc1 hc2 hN hD hhi hlo sa sb sd
  generalize size a = za at *
  generalize size b = zb at *
  go_enter Try.func105, Try.ntmps105
  go_wp2_with fail
  refine (HA.out _).mono ?_
  rintro e w1 ⟨rfl, rfl⟩
  go_wp2_with fail
  refine (HB.out _).mono ?_
  rintro e w2 ⟨rfl, rfl⟩
  go_wp2_with fail
  refine (HP.out _).mono ?_
  rintro e w3 ⟨rfl, hb1⟩
  have HB1 := Lib.hid hb1
  clear hb1
  go_wp2_with fail
  refine (HS.out _).mono ?_
  rintro e w4 ⟨rfl, rfl⟩
  go_wp2_with fail
  go_loop [6, 7, 11, 12] (fun q r i t => ∃ k : Nat, k ≤ 64 ∧ i = .int .i64 ((k : Int) - 1) ∧ ∃ Q R : Nat, q = .int .u64 (Q : Int) ∧ r = .int .u64 (R : Int) ∧ R < D ∧ Q < 18446744073709551616 ∧ Hid (Q = N / 2 ^ k / D * 2 ^ k ∧ R = N / 2 ^ k % D)) (fun _ _ i _ => (intOf i + 1).toNat)
  case atStart =>
    refine ⟨64, by omega, rfl, 0, hi, rfl, rfl, h, by omega, ?_⟩
    have e : (2 : Nat) ^ 64 = 18446744073709551616 := by decide
    show 0 = N / 2 ^ 64 / D * 2 ^ 64 ∧ hi = N / 2 ^ 64 % D
    rw [e, HH.out, Nat.div_eq_of_lt h, Nat.mod_eq_of_lt h]
    exact ⟨by omega, rfl⟩
  case round =>
    obtain ⟨k, hk, rfl, Q, R, rfl, rfl, hR, hQ, hI⟩ := hrel
    cases k with
    | zero =>
      go_wp2
      refine bodyPost_ret (results_tmp4 rfl _ _ _) rfl ?_
      refine ⟨?_, HB1.out⟩
      obtain ⟨e1, e2⟩ := hI.out
      rw [Nat.pow_zero, Nat.div_one] at e1 e2
      rw [Nat.mul_one] at e1
      have q1 : (Q : Int) = (N : Int) / (D : Int) := by rw [e1]; push_cast; rfl
      have q2 : (R : Int) = (N : Int) % (D : Int) := by rw [e2]; push_cast; rfl
      rw [← q1, ← q2]
      rfl
    | succ j =>
      have htop : (R : Int) / 9223372036854775808 = 0 := by omega
      obtain ⟨t, ht⟩ : ∃ t, lo / 2 ^ j % 2 = t := ⟨_, rfl⟩
      obtain ⟨f1, ht2⟩ := bit_facts lo t j (by omega) hl ht
      have f2 := or_bit R t (by omega) ht2
      obtain ⟨T, hT⟩ : ∃ T, 2 * R + t = T := ⟨_, rfl⟩
      rw [hT] at f2
      obtain ⟨y, hy⟩ : ∃ y, N / 2 ^ (j + 1) / D = y := ⟨_, rfl⟩
      obtain ⟨e1, e2⟩ := hI.out
      rw [hy] at e1
      obtain ⟨f3, f4⟩ := or_pow y Q j (by omega) e1.symm hQ
      obtain ⟨P, hP⟩ : ∃ P, Q + 2 ^ j = P := ⟨_, rfl⟩
      rw [hP] at f3 f4
      have hN := half_step N j
      have hb := low_bit N j (by omega)
      rw [HL.out, ht] at hb
      rw [← hb] at hN
      have hs := div_step (N / 2 ^ (j + 1)) D t (by omega) ht2
      rw [← hN, hy, ← e2, hT] at hs
      have HS1 := Lib.hid hs
      have HT := Lib.hid hT
      have HP1 := Lib.hid hP
      have HE := Lib.hid e1
      clear hs hT hP e1 e2 hN hb hy ht hI
      by_cases hc : D ≤ T
      · have c1 : decide ((D : Int) ≤ (T : Int)) = true := by simp; omega
        have f5 : IntKind.u64.wrap ((T : Int) - (D : Int)) = ((T - D : Nat) : Int) := by rw [wraps_u64 _ (by omega) (by have := HT.out; omega)]; omega
        obtain ⟨U, hU⟩ : ∃ U, T - D = U := ⟨_, rfl⟩
        have hU2 : U < D := by have := HT.out; omega
        rw [hU] at f5
        have HU := Lib.hid hU
        clear hU
        go_wp2
        go_round
        case rel =>
          obtain ⟨q1, q2⟩ := HS1.out.1 hc
          refine ⟨j, by omega, by go_num, P, U, rfl, rfl, hU2, f4, ?_⟩
          show P = N / 2 ^ j / D * 2 ^ j ∧ U = N / 2 ^ j % D
          rw [q1, q2]
          refine ⟨?_, HU.out.symm⟩
          have h1 := HE.out
          have h2 := HP1.out
          rw [Nat.add_mul, Nat.one_mul, Nat.mul_comm 2 y, Nat.mul_assoc, ← Nat.pow_succ', ← h1]
          exact h2.symm
        case measure => simp [intOf]
      · have c1 : decide ((D : Int) ≤ (T : Int)) = false := by simp; omega
        go_wp2
        go_round
        case rel =>
          obtain ⟨q1, q2⟩ := HS1.out.2 (by omega)
          refine ⟨j, by omega, by go_num, Q, T, rfl, rfl, by omega, hQ, ?_⟩
          show Q = N / 2 ^ j / D * 2 ^ j ∧ T = N / 2 ^ j % D
          rw [q1, q2]
          refine ⟨?_, rfl⟩
          have h1 := HE.out
          rw [Nat.mul_comm 2 y, Nat.mul_assoc, ← Nat.pow_succ', ← h1]
        case measure => simp [intOf]

set_option maxHeartbeats 1600000 in
theorem parts_no (a b d : Int) (N D : Nat) (w : World) (ha : -9223372036854775808 ≤ a ∧ a ≤ 9223372036854775807) (hb : -9223372036854775808 ≤ b ∧ b ≤ 9223372036854775807) (hd : -9223372036854775808 ≤ d ∧ d ≤ 9223372036854775807)
    (hN : size a * size b = N) (hD : size d = D) (h : D ≤ N / 18446744073709551616) :
    Calls Try.prog 105 #[.int .i64 a, .int .i64 b, .int .i64 d] w fun e w' => e = .returned (.tuple #[.int .u64 0, .int .u64 0, .int .u64 0, .bool false]) ∧ Below w.heap.size w w' := by
  have sa := size_bd a ha.1 ha.2
  have sb := size_bd b hb.1 hb.2
  have sd := size_bd d hd.1 hd.2
  obtain ⟨a0, a1⟩ := ha
  obtain ⟨b0, b1⟩ := hb
  obtain ⟨d0, d1⟩ := hd
  obtain ⟨hi, hhi⟩ : ∃ hi, N / 18446744073709551616 = hi := ⟨_, rfl⟩
  obtain ⟨lo, hlo⟩ : ∃ lo, N % 18446744073709551616 = lo := ⟨_, rfl⟩
  have hl : lo < 18446744073709551616 := by omega
  have hc1 : size a * size b / 18446744073709551616 = (hi : Int) := by rw [hN]; omega
  have hc2 : size a * size b % 18446744073709551616 = (lo : Int) := by rw [hN]; omega
  rw [hhi] at h
  have hD1 : D ≤ 9223372036854775808 := by omega
  have hge : decide ((D : Int) ≤ (hi : Int)) = true := by simp; omega
  have HA := Lib.hid (fun W => size_any a W a0 a1)
  have HB := Lib.hid (fun W => size_any b W b0 b1)
  have HP := Lib.hid (fun W => product_any (size a) (size b) W (by omega) (by omega))
  rw [hc1, hc2] at HP
  have HS := Lib.hid (fun W => size_any d W d0 d1)
  rw [hD] at HS
  have HH := Lib.hid hhi
  have HL := Lib.hid hlo
  have SA := Lib.hid sa
  have SB := Lib.hid sb
  clear hc1 hc2 hN hD hhi hlo sa sb sd
  generalize size a = za at *
  generalize size b = zb at *
  go_enter Try.func105, Try.ntmps105
  go_wp2_with fail
  refine (HA.out _).mono ?_
  rintro e w1 ⟨rfl, rfl⟩
  go_wp2_with fail
  refine (HB.out _).mono ?_
  rintro e w2 ⟨rfl, rfl⟩
  go_wp2_with fail
  refine (HP.out _).mono ?_
  rintro e w3 ⟨rfl, hb1⟩
  have HB1 := Lib.hid hb1
  clear hb1
  go_wp2_with fail
  refine (HS.out _).mono ?_
  rintro e w4 ⟨rfl, rfl⟩
  go_wp2_with fail
  refine bodyPost_ret (results_tmp4 rfl _ _ _) rfl ?_
  exact ⟨rfl, HB1.out⟩
end Go.Proofs.Ytegpjjkbbdfggaa.mt
