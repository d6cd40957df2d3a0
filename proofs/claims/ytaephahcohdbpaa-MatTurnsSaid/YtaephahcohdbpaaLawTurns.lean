/-
  MatTurns: a matrix of whole numbers of determinant 1 or -1 and its inverse undo one another.
-/
import Derived.Test.YtaephahcohdbpaaWholes
import Derived.Test.YtaephahcohdbpaaUnit
namespace Go.Proofs.Ytaephahcohdbpaa.mt
set_option linter.unusedVariables false
set_option linter.unusedSimpArgs false
open Go.RowKit bs

theorem eqB_self (A B C D E F : Int) : eqB A B C D E F A B C D E F = true := by unfold eqB; simp
theorem mul_bd {a b A B : Int} (hA : 0 ≤ A) (hB : 0 ≤ B) (ha : -A ≤ a ∧ a ≤ A) (hb : -B ≤ b ∧ b ≤ B) : -(A * B) ≤ a * b ∧ a * b ≤ A * B := by
  have h1 := Int.mul_nonneg (show 0 ≤ A - a by omega) (show 0 ≤ B - b by omega)
  have h2 := Int.mul_nonneg (show 0 ≤ A + a by omega) (show 0 ≤ B + b by omega)
  have h3 := Int.mul_nonneg (show 0 ≤ A - a by omega) (show 0 ≤ B + b by omega)
  have h4 := Int.mul_nonneg (show 0 ≤ A + a by omega) (show 0 ≤ B - b by omega)
  simp only [Int.sub_mul, Int.mul_sub, Int.add_mul, Int.mul_add] at h1 h2 h3 h4
  omega

theorem turns_facts_plus (p q r s e f : Int) (bp : -81 ≤ p ∧ p ≤ 81) (bq : -81 ≤ q ∧ q ≤ 81) (br : -81 ≤ r ∧ r ≤ 81) (bs : -81 ≤ s ∧ s ≤ 81) (be : -40 ≤ e ∧ e ≤ 40) (bf : -40 ≤ f ∧ f ≤ 40) (hd : p * s - q * r = 1) : ∃ nq nr u v : Int,
    (∀ W, Calls Try.prog 40 #[.agg #[.int .i64 (p * 65536), .int .i64 (q * 65536), .int .i64 (r * 65536), .int .i64 (s * 65536), .int .i64 (e * 65536), .int .i64 (f * 65536)]] W fun ed w' => ed = .returned (.tuple #[.agg #[.int .i64 (s * 65536), .int .i64 (nq * 65536), .int .i64 (nr * 65536), .int .i64 (p * 65536), .int .i64 (u * 65536), .int .i64 (v * 65536)], .int .i64 0]) ∧ Below W.heap.size W w') ∧
    (∀ W, Calls Try.prog 29 #[.agg #[.int .i64 (p * 65536), .int .i64 (q * 65536), .int .i64 (r * 65536), .int .i64 (s * 65536), .int .i64 (e * 65536), .int .i64 (f * 65536)], .agg #[.int .i64 (s * 65536), .int .i64 (nq * 65536), .int .i64 (nr * 65536), .int .i64 (p * 65536), .int .i64 (u * 65536), .int .i64 (v * 65536)]] W fun ed w' => ed = .returned (.tuple #[.agg #[.int .i64 65536, .int .i64 0, .int .i64 0, .int .i64 65536, .int .i64 0, .int .i64 0], .int .i64 0]) ∧ Below W.heap.size W w') ∧
    (∀ W, Calls Try.prog 29 #[.agg #[.int .i64 (s * 65536), .int .i64 (nq * 65536), .int .i64 (nr * 65536), .int .i64 (p * 65536), .int .i64 (u * 65536), .int .i64 (v * 65536)], .agg #[.int .i64 (p * 65536), .int .i64 (q * 65536), .int .i64 (r * 65536), .int .i64 (s * 65536), .int .i64 (e * 65536), .int .i64 (f * 65536)]] W fun ed w' => ed = .returned (.tuple #[.agg #[.int .i64 65536, .int .i64 0, .int .i64 0, .int .i64 65536, .int .i64 0, .int .i64 0], .int .i64 0]) ∧ Below W.heap.size W w') ∧
    (∀ W, Calls Try.prog 40 #[.agg #[.int .i64 (s * 65536), .int .i64 (nq * 65536), .int .i64 (nr * 65536), .int .i64 (p * 65536), .int .i64 (u * 65536), .int .i64 (v * 65536)]] W fun ed w' => ed = .returned (.tuple #[.agg #[.int .i64 (p * 65536), .int .i64 (q * 65536), .int .i64 (r * 65536), .int .i64 (s * 65536), .int .i64 (e * 65536), .int .i64 (f * 65536)], .int .i64 0]) ∧ Below W.heap.size W w') := by
  have b1 := mul_bd (by omega) (by omega) br bf
  have b2 := mul_bd (by omega) (by omega) bs be
  have b3 := mul_bd (by omega) (by omega) bq be
  have b4 := mul_bd (by omega) (by omega) bp bf
  have he : e * (p * s - q * r) = e * 1 := by rw [hd]
  have hf : f * (p * s - q * r) = f * 1 := by rw [hd]
  simp only [Int.mul_sub, Int.mul_comm, Int.mul_left_comm, Int.mul_assoc] at he hf
  try simp only [Int.mul_comm, Int.mul_left_comm, Int.mul_assoc] at hd
  exact ⟨-q, -r, r * f - s * e, q * e - p * f, fun W => inv_plus p q r s e f (-q) (-r) _ _ W (by omega) (by omega) (by omega) (by omega) (by omega) (by omega) (by omega) (by omega) (by first | omega | (simp only [Int.mul_sub, Int.sub_mul, Int.mul_neg, Int.neg_mul, Int.mul_comm, Int.mul_left_comm, Int.mul_assoc, Int.neg_sub, Int.neg_neg]; first | done | omega)) rfl rfl rfl rfl, fun W => mul_whole p q r s e f s (-q) (-r) p (r * f - s * e) (q * e - p * f) 1 0 0 1 0 0 W (by omega) (by omega) (by omega) (by omega) (by omega) (by omega) (by omega) (by omega) (by omega) (by omega) (by omega) (by omega) (by omega) (by omega) (by omega) (by omega) (by omega) (by omega) (by first | omega | (simp only [Int.mul_sub, Int.sub_mul, Int.mul_neg, Int.neg_mul, Int.mul_comm, Int.mul_left_comm, Int.mul_assoc, Int.neg_sub, Int.neg_neg]; first | done | omega)) (by first | omega | (simp only [Int.mul_sub, Int.sub_mul, Int.mul_neg, Int.neg_mul, Int.mul_comm, Int.mul_left_comm, Int.mul_assoc, Int.neg_sub, Int.neg_neg]; first | done | omega)) (by first | omega | (simp only [Int.mul_sub, Int.sub_mul, Int.mul_neg, Int.neg_mul, Int.mul_comm, Int.mul_left_comm, Int.mul_assoc, Int.neg_sub, Int.neg_neg]; first | done | omega)) (by first | omega | (simp only [Int.mul_sub, Int.sub_mul, Int.mul_neg, Int.neg_mul, Int.mul_comm, Int.mul_left_comm, Int.mul_assoc, Int.neg_sub, Int.neg_neg]; first | done | omega)) (by first | omega | (simp only [Int.mul_sub, Int.sub_mul, Int.mul_neg, Int.neg_mul, Int.mul_comm, Int.mul_left_comm, Int.mul_assoc, Int.neg_sub, Int.neg_neg]; first | done | omega)) (by first | omega | (simp only [Int.mul_sub, Int.sub_mul, Int.mul_neg, Int.neg_mul, Int.mul_comm, Int.mul_left_comm, Int.mul_assoc, Int.neg_sub, Int.neg_neg]; first | done | omega)), fun W => mul_whole s (-q) (-r) p (r * f - s * e) (q * e - p * f) p q r s e f 1 0 0 1 0 0 W (by omega) (by omega) (by omega) (by omega) (by omega) (by omega) (by omega) (by omega) (by omega) (by omega) (by omega) (by omega) (by omega) (by omega) (by omega) (by omega) (by omega) (by omega) (by first | omega | (simp only [Int.mul_sub, Int.sub_mul, Int.mul_neg, Int.neg_mul, Int.mul_comm, Int.mul_left_comm, Int.mul_assoc, Int.neg_sub, Int.neg_neg]; first | done | omega)) (by first | omega | (simp only [Int.mul_sub, Int.sub_mul, Int.mul_neg, Int.neg_mul, Int.mul_comm, Int.mul_left_comm, Int.mul_assoc, Int.neg_sub, Int.neg_neg]; first | done | omega)) (by first | omega | (simp only [Int.mul_sub, Int.sub_mul, Int.mul_neg, Int.neg_mul, Int.mul_comm, Int.mul_left_comm, Int.mul_assoc, Int.neg_sub, Int.neg_neg]; first | done | omega)) (by first | omega | (simp only [Int.mul_sub, Int.sub_mul, Int.mul_neg, Int.neg_mul, Int.mul_comm, Int.mul_left_comm, Int.mul_assoc, Int.neg_sub, Int.neg_neg]; first | done | omega)) (by first | omega | (simp only [Int.mul_sub, Int.sub_mul, Int.mul_neg, Int.neg_mul, Int.mul_comm, Int.mul_left_comm, Int.mul_assoc, Int.neg_sub, Int.neg_neg]; first | done | omega)) (by first | omega | (simp only [Int.mul_sub, Int.sub_mul, Int.mul_neg, Int.neg_mul, Int.mul_comm, Int.mul_left_comm, Int.mul_assoc, Int.neg_sub, Int.neg_neg]; first | done | omega)), fun W => inv_plus s (-q) (-r) p (r * f - s * e) (q * e - p * f) q r e f W (by omega) (by omega) (by omega) (by omega) (by omega) (by omega) (by omega) (by omega) (by first | omega | (simp only [Int.mul_sub, Int.sub_mul, Int.mul_neg, Int.neg_mul, Int.mul_comm, Int.mul_left_comm, Int.mul_assoc, Int.neg_sub, Int.neg_neg]; first | done | omega)) (by omega) (by omega) (by first | omega | (simp only [Int.mul_sub, Int.sub_mul, Int.mul_neg, Int.neg_mul, Int.mul_comm, Int.mul_left_comm, Int.mul_assoc, Int.neg_sub, Int.neg_neg]; first | done | omega)) (by first | omega | (simp only [Int.mul_sub, Int.sub_mul, Int.mul_neg, Int.neg_mul, Int.mul_comm, Int.mul_left_comm, Int.mul_assoc, Int.neg_sub, Int.neg_neg]; first | done | omega))⟩

theorem turns_facts_minus (p q r s e f : Int) (bp : -81 ≤ p ∧ p ≤ 81) (bq : -81 ≤ q ∧ q ≤ 81) (br : -81 ≤ r ∧ r ≤ 81) (bs : -81 ≤ s ∧ s ≤ 81) (be : -40 ≤ e ∧ e ≤ 40) (bf : -40 ≤ f ∧ f ≤ 40) (hd : p * s - q * r = -1) : ∃ ns np u v : Int,
    (∀ W, Calls Try.prog 40 #[.agg #[.int .i64 (p * 65536), .int .i64 (q * 65536), .int .i64 (r * 65536), .int .i64 (s * 65536), .int .i64 (e * 65536), .int .i64 (f * 65536)]] W fun ed w' => ed = .returned (.tuple #[.agg #[.int .i64 (ns * 65536), .int .i64 (q * 65536), .int .i64 (r * 65536), .int .i64 (np * 65536), .int .i64 (u * 65536), .int .i64 (v * 65536)], .int .i64 0]) ∧ Below W.heap.size W w') ∧
    (∀ W, Calls Try.prog 29 #[.agg #[.int .i64 (p * 65536), .int .i64 (q * 65536), .int .i64 (r * 65536), .int .i64 (s * 65536), .int .i64 (e * 65536), .int .i64 (f * 65536)], .agg #[.int .i64 (ns * 65536), .int .i64 (q * 65536), .int .i64 (r * 65536), .int .i64 (np * 65536), .int .i64 (u * 65536), .int .i64 (v * 65536)]] W fun ed w' => ed = .returned (.tuple #[.agg #[.int .i64 65536, .int .i64 0, .int .i64 0, .int .i64 65536, .int .i64 0, .int .i64 0], .int .i64 0]) ∧ Below W.heap.size W w') ∧
    (∀ W, Calls Try.prog 29 #[.agg #[.int .i64 (ns * 65536), .int .i64 (q * 65536), .int .i64 (r * 65536), .int .i64 (np * 65536), .int .i64 (u * 65536), .int .i64 (v * 65536)], .agg #[.int .i64 (p * 65536), .int .i64 (q * 65536), .int .i64 (r * 65536), .int .i64 (s * 65536), .int .i64 (e * 65536), .int .i64 (f * 65536)]] W fun ed w' => ed = .returned (.tuple #[.agg #[.int .i64 65536, .int .i64 0, .int .i64 0, .int .i64 65536, .int .i64 0, .int .i64 0], .int .i64 0]) ∧ Below W.heap.size W w') ∧
    (∀ W, Calls Try.prog 40 #[.agg #[.int .i64 (ns * 65536), .int .i64 (q * 65536), .int .i64 (r * 65536), .int .i64 (np * 65536), .int .i64 (u * 65536), .int .i64 (v * 65536)]] W fun ed w' => ed = .returned (.tuple #[.agg #[.int .i64 (p * 65536), .int .i64 (q * 65536), .int .i64 (r * 65536), .int .i64 (s * 65536), .int .i64 (e * 65536), .int .i64 (f * 65536)], .int .i64 0]) ∧ Below W.heap.size W w') := by
  have b1 := mul_bd (by omega) (by omega) br bf
  have b2 := mul_bd (by omega) (by omega) bs be
  have b3 := mul_bd (by omega) (by omega) bq be
  have b4 := mul_bd (by omega) (by omega) bp bf
  have he : e * (p * s - q * r) = e * (-1) := by rw [hd]
  have hf : f * (p * s - q * r) = f * (-1) := by rw [hd]
  simp only [Int.mul_sub, Int.mul_comm, Int.mul_left_comm, Int.mul_assoc] at he hf
  try simp only [Int.mul_comm, Int.mul_left_comm, Int.mul_assoc] at hd
  exact ⟨-s, -p, s * e - r * f, p * f - q * e, fun W => inv_minus p q r s e f (-s) (-p) _ _ W (by omega) (by omega) (by omega) (by omega) (by omega) (by omega) (by omega) (by omega) (by first | omega | (simp only [Int.mul_sub, Int.sub_mul, Int.mul_neg, Int.neg_mul, Int.mul_comm, Int.mul_left_comm, Int.mul_assoc, Int.neg_sub, Int.neg_neg]; first | done | omega)) rfl rfl rfl rfl, fun W => mul_whole p q r s e f (-s) q r (-p) (s * e - r * f) (p * f - q * e) 1 0 0 1 0 0 W (by omega) (by omega) (by omega) (by omega) (by omega) (by omega) (by omega) (by omega) (by omega) (by omega) (by omega) (by omega) (by omega) (by omega) (by omega) (by omega) (by omega) (by omega) (by first | omega | (simp only [Int.mul_sub, Int.sub_mul, Int.mul_neg, Int.neg_mul, Int.mul_comm, Int.mul_left_comm, Int.mul_assoc, Int.neg_sub, Int.neg_neg]; first | done | omega)) (by first | omega | (simp only [Int.mul_sub, Int.sub_mul, Int.mul_neg, Int.neg_mul, Int.mul_comm, Int.mul_left_comm, Int.mul_assoc, Int.neg_sub, Int.neg_neg]; first | done | omega)) (by first | omega | (simp only [Int.mul_sub, Int.sub_mul, Int.mul_neg, Int.neg_mul, Int.mul_comm, Int.mul_left_comm, Int.mul_assoc, Int.neg_sub, Int.neg_neg]; first | done | omega)) (by first | omega | (simp only [Int.mul_sub, Int.sub_mul, Int.mul_neg, Int.neg_mul, Int.mul_comm, Int.mul_left_comm, Int.mul_assoc, Int.neg_sub, Int.neg_neg]; first | done | omega)) (by first | omega | (simp only [Int.mul_sub, Int.sub_mul, Int.mul_neg, Int.neg_mul, Int.mul_comm, Int.mul_left_comm, Int.mul_assoc, Int.neg_sub, Int.neg_neg]; first | done | omega)) (by first | omega | (simp only [Int.mul_sub, Int.sub_mul, Int.mul_neg, Int.neg_mul, Int.mul_comm, Int.mul_left_comm, Int.mul_assoc, Int.neg_sub, Int.neg_neg]; first | done | omega)), fun W => mul_whole (-s) q r (-p) (s * e - r * f) (p * f - q * e) p q r s e f 1 0 0 1 0 0 W (by omega) (by omega) (by omega) (by omega) (by omega) (by omega) (by omega) (by omega) (by omega) (by omega) (by omega) (by omega) (by omega) (by omega) (by omega) (by omega) (by omega) (by omega) (by first | omega | (simp only [Int.mul_sub, Int.sub_mul, Int.mul_neg, Int.neg_mul, Int.mul_comm, Int.mul_left_comm, Int.mul_assoc, Int.neg_sub, Int.neg_neg]; first | done | omega)) (by first | omega | (simp only [Int.mul_sub, Int.sub_mul, Int.mul_neg, Int.neg_mul, Int.mul_comm, Int.mul_left_comm, Int.mul_assoc, Int.neg_sub, Int.neg_neg]; first | done | omega)) (by first | omega | (simp only [Int.mul_sub, Int.sub_mul, Int.mul_neg, Int.neg_mul, Int.mul_comm, Int.mul_left_comm, Int.mul_assoc, Int.neg_sub, Int.neg_neg]; first | done | omega)) (by first | omega | (simp only [Int.mul_sub, Int.sub_mul, Int.mul_neg, Int.neg_mul, Int.mul_comm, Int.mul_left_comm, Int.mul_assoc, Int.neg_sub, Int.neg_neg]; first | done | omega)) (by first | omega | (simp only [Int.mul_sub, Int.sub_mul, Int.mul_neg, Int.neg_mul, Int.mul_comm, Int.mul_left_comm, Int.mul_assoc, Int.neg_sub, Int.neg_neg]; first | done | omega)) (by first | omega | (simp only [Int.mul_sub, Int.sub_mul, Int.mul_neg, Int.neg_mul, Int.mul_comm, Int.mul_left_comm, Int.mul_assoc, Int.neg_sub, Int.neg_neg]; first | done | omega)), fun W => inv_minus (-s) q r (-p) (s * e - r * f) (p * f - q * e) p s e f W (by omega) (by omega) (by omega) (by omega) (by omega) (by omega) (by omega) (by omega) (by first | omega | (simp only [Int.mul_sub, Int.sub_mul, Int.mul_neg, Int.neg_mul, Int.mul_comm, Int.mul_left_comm, Int.mul_assoc, Int.neg_sub, Int.neg_neg]; first | done | omega)) (by omega) (by omega) (by first | omega | (simp only [Int.mul_sub, Int.sub_mul, Int.mul_neg, Int.neg_mul, Int.mul_comm, Int.mul_left_comm, Int.mul_assoc, Int.neg_sub, Int.neg_neg]; first | done | omega)) (by first | omega | (simp only [Int.mul_sub, Int.sub_mul, Int.mul_neg, Int.neg_mul, Int.mul_comm, Int.mul_left_comm, Int.mul_assoc, Int.neg_sub, Int.neg_neg]; first | done | omega))⟩

set_option maxRecDepth 100000 in
set_option maxHeartbeats 3200000 in
theorem turns_law (x0 y0 : Int) (A : Option Addr) (n c0 : Nat) (ns : Nat → Int) (w : World) (hI : op.Ints w A n c0 ns) (hn : n ≤ 9223372036854775807) :
    Calls Try.prog 10 #[.slice A n c0, .int .i64 x0, .int .i64 y0] w fun ed w' => ed = .returned (.bool true) ∧ Below w.heap.size w w' := by
  have HSx := Lib.hid (fun W => small_any x0 W)
  have HSy := Lib.hid (fun W => small_any y0 W)
  obtain ⟨e, he⟩ : ∃ e, x0 % 81 - 40 = e := ⟨_, rfl⟩
  obtain ⟨f, hf⟩ : ∃ f, y0 % 81 - 40 = f := ⟨_, rfl⟩
  have be : -40 ≤ e ∧ e ≤ 40 := by omega
  have bf : -40 ≤ f ∧ f ≤ 40 := by omega
  rw [he] at HSx
  rw [hf] at HSy
  clear he hf
  have HU := Lib.hid (fun (W : World) (h : op.Ints W A n c0 ns) => unit_any A n c0 ns W h hn)
  have HI := Lib.hid hI
  clear hI
  go_enter Try.func10, Try.ntmps10
  go_wp2_with fail
  refine (known_any _).mono ?_
  rintro e_ w1 ⟨rfl, hb1⟩
  have hbw : Below w.heap.size w w1 := btrans (by (repeat' (first | exact Below.refl _ _ | exact Below.refl _ _ | refine balloc ?_ _ | refine Below.drew ?_ | refine below_drewN ?_ _ | refine bset ?_ (by first | omega | (simp <;> omega)) _))) hb1
  clear hb1
  have hI3 := HI.out.below hbw
  go_wp2_with fail
  refine (HU.out _ hI3).mono ?_
  rintro e_ w2 ⟨p, q, r, s, rfl, bp, bq, br, bs_, hd, hbu⟩
  replace hbw := btrans hbw hbu
  clear hbu hI3
  obtain ⟨i0, i1, i2, i3, i4, i5, h1, h2, h3, h4⟩ : ∃ i0 i1 i2 i3 i4 i5 : Int, (∀ W, Calls Try.prog 40 #[.agg #[.int .i64 (p * 65536), .int .i64 (q * 65536), .int .i64 (r * 65536), .int .i64 (s * 65536), .int .i64 (e * 65536), .int .i64 (f * 65536)]] W fun ed w' => ed = .returned (.tuple #[.agg #[.int .i64 i0, .int .i64 i1, .int .i64 i2, .int .i64 i3, .int .i64 i4, .int .i64 i5], .int .i64 0]) ∧ Below W.heap.size W w') ∧ (∀ W, Calls Try.prog 29 #[.agg #[.int .i64 (p * 65536), .int .i64 (q * 65536), .int .i64 (r * 65536), .int .i64 (s * 65536), .int .i64 (e * 65536), .int .i64 (f * 65536)], .agg #[.int .i64 i0, .int .i64 i1, .int .i64 i2, .int .i64 i3, .int .i64 i4, .int .i64 i5]] W fun ed w' => ed = .returned (.tuple #[.agg #[.int .i64 65536, .int .i64 0, .int .i64 0, .int .i64 65536, .int .i64 0, .int .i64 0], .int .i64 0]) ∧ Below W.heap.size W w') ∧
      (∀ W, Calls Try.prog 29 #[.agg #[.int .i64 i0, .int .i64 i1, .int .i64 i2, .int .i64 i3, .int .i64 i4, .int .i64 i5], .agg #[.int .i64 (p * 65536), .int .i64 (q * 65536), .int .i64 (r * 65536), .int .i64 (s * 65536), .int .i64 (e * 65536), .int .i64 (f * 65536)]] W fun ed w' => ed = .returned (.tuple #[.agg #[.int .i64 65536, .int .i64 0, .int .i64 0, .int .i64 65536, .int .i64 0, .int .i64 0], .int .i64 0]) ∧ Below W.heap.size W w') ∧ (∀ W, Calls Try.prog 40 #[.agg #[.int .i64 i0, .int .i64 i1, .int .i64 i2, .int .i64 i3, .int .i64 i4, .int .i64 i5]] W fun ed w' => ed = .returned (.tuple #[.agg #[.int .i64 (p * 65536), .int .i64 (q * 65536), .int .i64 (r * 65536), .int .i64 (s * 65536), .int .i64 (e * 65536), .int .i64 (f * 65536)], .int .i64 0]) ∧ Below W.heap.size W w') := by
    rcases hd with hd | hd
    · obtain ⟨a1, a2, a3, a4, h1, h2, h3, h4⟩ := turns_facts_plus p q r s e f bp bq br bs_ be bf hd
      exact ⟨_, _, _, _, _, _, h1, h2, h3, h4⟩
    · obtain ⟨a1, a2, a3, a4, h1, h2, h3, h4⟩ := turns_facts_minus p q r s e f bp bq br bs_ be bf hd
      exact ⟨_, _, _, _, _, _, h1, h2, h3, h4⟩
  have H1 := Lib.hid h1
  have H2 := Lib.hid h2
  have H3 := Lib.hid h3
  have H4 := Lib.hid h4
  clear h1 h2 h3 h4 hd
  obtain ⟨be0, be1⟩ := be
  obtain ⟨bf0, bf1⟩ := bf
  obtain ⟨bp0, bp1⟩ := bp
  obtain ⟨bq0, bq1⟩ := bq
  obtain ⟨br0, br1⟩ := br
  obtain ⟨bs0, bs1⟩ := bs_
  have JG := guard_mat
  have J1 : ∀ w, (binOp .eql 23 (.agg #[.int .i64 65536, .int .i64 0, .int .i64 0, .int .i64 65536, .int .i64 0, .int .i64 0]) (.agg #[.int .i64 65536, .int .i64 0, .int .i64 0, .int .i64 65536, .int .i64 0, .int .i64 0])).run Try.prog w = .ok (.bool true) w := fun w => eq_mat 65536 0 0 65536 0 0 65536 0 0 65536 0 0 w
  have J2 : ∀ w, (binOp .eql 23 (.agg #[.int .i64 (p * 65536), .int .i64 (q * 65536), .int .i64 (r * 65536), .int .i64 (s * 65536), .int .i64 (e * 65536), .int .i64 (f * 65536)]) (.agg #[.int .i64 (p * 65536), .int .i64 (q * 65536), .int .i64 (r * 65536), .int .i64 (s * 65536), .int .i64 (e * 65536), .int .i64 (f * 65536)])).run Try.prog w = .ok (.bool true) w := fun w => by
    have := eq_mat (p * 65536) (q * 65536) (r * 65536) (s * 65536) (e * 65536) (f * 65536) (p * 65536) (q * 65536) (r * 65536) (s * 65536) (e * 65536) (f * 65536) w
    rw [eqB_self] at this
    exact this
  go_wp2_with fail
  refine (HSx.out _).mono ?_
  rintro e_ w_ ⟨rfl, rfl⟩
  go_wp2_with fail
  refine (HSy.out _).mono ?_
  rintro e_ w_ ⟨rfl, rfl⟩
  go_wp2_with fail
  refine (H1.out _).mono ?_
  rintro e_ w3 ⟨rfl, hb3⟩
  have Km := (Blk.new w2 23 #[.int .i64 (p * 65536), .int .i64 (q * 65536), .int .i64 (r * 65536), .int .i64 (s * 65536), .int .i64 (e * 65536), .int .i64 (f * 65536)]).below hb3 (by simp)
  replace hbw : Below w.heap.size w w3 := btrans (by (repeat' (first | refine bset ?_ (by first | omega | (simp <;> omega)) _ | refine balloc ?_ _ | refine Below.drew ?_ | refine below_drewN ?_ _ | exact hbw | exact Below.refl _ _))) hb3
  clear hb3
  have lKm := Km.lt
  have cKm0 := Km.cell 0
  have cKm1 := Km.cell 1
  have cKm2 := Km.cell 2
  have cKm3 := Km.cell 3
  have cKm4 := Km.cell 4
  have cKm5 := Km.cell 5
  simp only [List.getElem?_toArray, List.getElem?_cons_succ, List.getElem?_cons_zero] at cKm0 cKm1 cKm2 cKm3 cKm4 cKm5
  go_wp2_with fail
  refine (H2.out _).mono ?_
  rintro e_ w4 ⟨rfl, hb4⟩
  replace Km := (Km.alloc (.cells #[.int .i64 i0, .int .i64 i1, .int .i64 i2, .int .i64 i3, .int .i64 i4, .int .i64 i5] 23)).below hb4 (by first | exact lKm | (have := lKm; simp; omega))
  have Ki := (Blk.new w3 23 #[.int .i64 i0, .int .i64 i1, .int .i64 i2, .int .i64 i3, .int .i64 i4, .int .i64 i5]).below hb4 (by simp)
  replace hbw : Below w.heap.size w w4 := btrans (by (repeat' (first | refine bset ?_ (by first | omega | (simp <;> omega)) _ | refine balloc ?_ _ | refine Below.drew ?_ | refine below_drewN ?_ _ | exact hbw | exact Below.refl _ _))) hb4
  clear hb4 lKm cKm0 cKm1 cKm2 cKm3 cKm4 cKm5
  have lKm := Km.lt
  have cKm0 := Km.cell 0
  have cKm1 := Km.cell 1
  have cKm2 := Km.cell 2
  have cKm3 := Km.cell 3
  have cKm4 := Km.cell 4
  have cKm5 := Km.cell 5
  have lKi := Ki.lt
  have cKi0 := Ki.cell 0
  have cKi1 := Ki.cell 1
  have cKi2 := Ki.cell 2
  have cKi3 := Ki.cell 3
  have cKi4 := Ki.cell 4
  have cKi5 := Ki.cell 5
  simp only [List.getElem?_toArray, List.getElem?_cons_succ, List.getElem?_cons_zero] at cKm0 cKm1 cKm2 cKm3 cKm4 cKm5 cKi0 cKi1 cKi2 cKi3 cKi4 cKi5
  go_wp2_with fail
  refine (H3.out _).mono ?_
  rintro e_ w5 ⟨rfl, hb5⟩
  replace Km := (Km.alloc (.cells #[.int .i64 65536, .int .i64 0, .int .i64 0, .int .i64 65536, .int .i64 0, .int .i64 0] 23)).below hb5 (by first | exact lKm | (have := lKm; simp; omega))
  replace Ki := (Ki.alloc (.cells #[.int .i64 65536, .int .i64 0, .int .i64 0, .int .i64 65536, .int .i64 0, .int .i64 0] 23)).below hb5 (by first | exact lKi | (have := lKi; simp; omega))
  have Ka := (Blk.new w4 23 #[.int .i64 65536, .int .i64 0, .int .i64 0, .int .i64 65536, .int .i64 0, .int .i64 0]).below hb5 (by simp)
  replace hbw : Below w.heap.size w w5 := btrans (by (repeat' (first | refine bset ?_ (by first | omega | (simp <;> omega)) _ | refine balloc ?_ _ | refine Below.drew ?_ | refine below_drewN ?_ _ | exact hbw | exact Below.refl _ _))) hb5
  clear hb5 lKm cKm0 cKm1 cKm2 cKm3 cKm4 cKm5 lKi cKi0 cKi1 cKi2 cKi3 cKi4 cKi5
  have lKm := Km.lt
  have cKm0 := Km.cell 0
  have cKm1 := Km.cell 1
  have cKm2 := Km.cell 2
  have cKm3 := Km.cell 3
  have cKm4 := Km.cell 4
  have cKm5 := Km.cell 5
  have lKi := Ki.lt
  have cKi0 := Ki.cell 0
  have cKi1 := Ki.cell 1
  have cKi2 := Ki.cell 2
  have cKi3 := Ki.cell 3
  have cKi4 := Ki.cell 4
  have cKi5 := Ki.cell 5
  have lKa := Ka.lt
  have cKa0 := Ka.cell 0
  have cKa1 := Ka.cell 1
  have cKa2 := Ka.cell 2
  have cKa3 := Ka.cell 3
  have cKa4 := Ka.cell 4
  have cKa5 := Ka.cell 5
  simp only [List.getElem?_toArray, List.getElem?_cons_succ, List.getElem?_cons_zero] at cKm0 cKm1 cKm2 cKm3 cKm4 cKm5 cKi0 cKi1 cKi2 cKi3 cKi4 cKi5 cKa0 cKa1 cKa2 cKa3 cKa4 cKa5
  go_wp2_with fail
  refine (H4.out _).mono ?_
  rintro e_ w6 ⟨rfl, hb6⟩
  replace Km := (Km.alloc (.cells #[.int .i64 65536, .int .i64 0, .int .i64 0, .int .i64 65536, .int .i64 0, .int .i64 0] 23)).below hb6 (by first | exact lKm | (have := lKm; simp; omega))
  replace Ki := (Ki.alloc (.cells #[.int .i64 65536, .int .i64 0, .int .i64 0, .int .i64 65536, .int .i64 0, .int .i64 0] 23)).below hb6 (by first | exact lKi | (have := lKi; simp; omega))
  replace Ka := (Ka.alloc (.cells #[.int .i64 65536, .int .i64 0, .int .i64 0, .int .i64 65536, .int .i64 0, .int .i64 0] 23)).below hb6 (by first | exact lKa | (have := lKa; simp; omega))
  have Kb := (Blk.new w5 23 #[.int .i64 65536, .int .i64 0, .int .i64 0, .int .i64 65536, .int .i64 0, .int .i64 0]).below hb6 (by simp)
  replace hbw : Below w.heap.size w w6 := btrans (by (repeat' (first | refine bset ?_ (by first | omega | (simp <;> omega)) _ | refine balloc ?_ _ | refine Below.drew ?_ | refine below_drewN ?_ _ | exact hbw | exact Below.refl _ _))) hb6
  clear hb6 lKm cKm0 cKm1 cKm2 cKm3 cKm4 cKm5 lKi cKi0 cKi1 cKi2 cKi3 cKi4 cKi5 lKa cKa0 cKa1 cKa2 cKa3 cKa4 cKa5
  have lKm := Km.lt
  have cKm0 := Km.cell 0
  have cKm1 := Km.cell 1
  have cKm2 := Km.cell 2
  have cKm3 := Km.cell 3
  have cKm4 := Km.cell 4
  have cKm5 := Km.cell 5
  have lKi := Ki.lt
  have cKi0 := Ki.cell 0
  have cKi1 := Ki.cell 1
  have cKi2 := Ki.cell 2
  have cKi3 := Ki.cell 3
  have cKi4 := Ki.cell 4
  have cKi5 := Ki.cell 5
  have lKa := Ka.lt
  have cKa0 := Ka.cell 0
  have cKa1 := Ka.cell 1
  have cKa2 := Ka.cell 2
  have cKa3 := Ka.cell 3
  have cKa4 := Ka.cell 4
  have cKa5 := Ka.cell 5
  have lKb := Kb.lt
  have cKb0 := Kb.cell 0
  have cKb1 := Kb.cell 1
  have cKb2 := Kb.cell 2
  have cKb3 := Kb.cell 3
  have cKb4 := Kb.cell 4
  have cKb5 := Kb.cell 5
  simp only [List.getElem?_toArray, List.getElem?_cons_succ, List.getElem?_cons_zero] at cKm0 cKm1 cKm2 cKm3 cKm4 cKm5 cKi0 cKi1 cKi2 cKi3 cKi4 cKi5 cKa0 cKa1 cKa2 cKa3 cKa4 cKa5 cKb0 cKb1 cKb2 cKb3 cKb4 cKb5
  go_wp2_with fail
  replace Km := Km.alloc (.cells #[.int .i64 (p * 65536), .int .i64 (q * 65536), .int .i64 (r * 65536), .int .i64 (s * 65536), .int .i64 (e * 65536), .int .i64 (f * 65536)] 23)
  replace Ki := Ki.alloc (.cells #[.int .i64 (p * 65536), .int .i64 (q * 65536), .int .i64 (r * 65536), .int .i64 (s * 65536), .int .i64 (e * 65536), .int .i64 (f * 65536)] 23)
  replace Ka := Ka.alloc (.cells #[.int .i64 (p * 65536), .int .i64 (q * 65536), .int .i64 (r * 65536), .int .i64 (s * 65536), .int .i64 (e * 65536), .int .i64 (f * 65536)] 23)
  replace Kb := Kb.alloc (.cells #[.int .i64 (p * 65536), .int .i64 (q * 65536), .int .i64 (r * 65536), .int .i64 (s * 65536), .int .i64 (e * 65536), .int .i64 (f * 65536)] 23)
  have Kj := Blk.new w6 23 #[.int .i64 (p * 65536), .int .i64 (q * 65536), .int .i64 (r * 65536), .int .i64 (s * 65536), .int .i64 (e * 65536), .int .i64 (f * 65536)]
  replace hbw : Below w.heap.size w (w6.alloc (.cells #[.int .i64 (p * 65536), .int .i64 (q * 65536), .int .i64 (r * 65536), .int .i64 (s * 65536), .int .i64 (e * 65536), .int .i64 (f * 65536)] 23)) := by (repeat' (first | refine bset ?_ (by first | omega | (simp <;> omega)) _ | refine balloc ?_ _ | refine Below.drew ?_ | refine below_drewN ?_ _ | exact hbw | exact Below.refl _ _))
  obtain ⟨Pj, hPj⟩ : ∃ P, w6.heap.size = P := ⟨_, rfl⟩
  rw [hPj] at Kj ⊢
  generalize hwx : (w6.alloc (.cells #[.int .i64 (p * 65536), .int .i64 (q * 65536), .int .i64 (r * 65536), .int .i64 (s * 65536), .int .i64 (e * 65536), .int .i64 (f * 65536)] 23)) = wz at *
  clear hwx hPj lKm cKm0 cKm1 cKm2 cKm3 cKm4 cKm5 lKi cKi0 cKi1 cKi2 cKi3 cKi4 cKi5 lKa cKa0 cKa1 cKa2 cKa3 cKa4 cKa5 lKb cKb0 cKb1 cKb2 cKb3 cKb4 cKb5
  have lKm := Km.lt
  have cKm0 := Km.cell 0
  have cKm1 := Km.cell 1
  have cKm2 := Km.cell 2
  have cKm3 := Km.cell 3
  have cKm4 := Km.cell 4
  have cKm5 := Km.cell 5
  have lKi := Ki.lt
  have cKi0 := Ki.cell 0
  have cKi1 := Ki.cell 1
  have cKi2 := Ki.cell 2
  have cKi3 := Ki.cell 3
  have cKi4 := Ki.cell 4
  have cKi5 := Ki.cell 5
  have lKa := Ka.lt
  have cKa0 := Ka.cell 0
  have cKa1 := Ka.cell 1
  have cKa2 := Ka.cell 2
  have cKa3 := Ka.cell 3
  have cKa4 := Ka.cell 4
  have cKa5 := Ka.cell 5
  have lKb := Kb.lt
  have cKb0 := Kb.cell 0
  have cKb1 := Kb.cell 1
  have cKb2 := Kb.cell 2
  have cKb3 := Kb.cell 3
  have cKb4 := Kb.cell 4
  have cKb5 := Kb.cell 5
  have lKj := Kj.lt
  have cKj0 := Kj.cell 0
  have cKj1 := Kj.cell 1
  have cKj2 := Kj.cell 2
  have cKj3 := Kj.cell 3
  have cKj4 := Kj.cell 4
  have cKj5 := Kj.cell 5
  simp only [List.getElem?_toArray, List.getElem?_cons_succ, List.getElem?_cons_zero] at cKm0 cKm1 cKm2 cKm3 cKm4 cKm5 cKi0 cKi1 cKi2 cKi3 cKi4 cKi5 cKa0 cKa1 cKa2 cKa3 cKa4 cKa5 cKb0 cKb1 cKb2 cKb3 cKb4 cKb5 cKj0 cKj1 cKj2 cKj3 cKj4 cKj5
  have HU1 := Lib.hid (fun u : Up wz => up_of (u := u) (one_any u.val))
  have uKm0 : ∀ u : Up wz, u.val.cell? ⟨w2.heap.size, 0, none⟩ = some (.int .i64 (p * 65536)) := fun u => (u.cell lKm).trans cKm0
  have uKm1 : ∀ u : Up wz, u.val.cell? ⟨w2.heap.size, 1, none⟩ = some (.int .i64 (q * 65536)) := fun u => (u.cell lKm).trans cKm1
  have uKm2 : ∀ u : Up wz, u.val.cell? ⟨w2.heap.size, 2, none⟩ = some (.int .i64 (r * 65536)) := fun u => (u.cell lKm).trans cKm2
  have uKm3 : ∀ u : Up wz, u.val.cell? ⟨w2.heap.size, 3, none⟩ = some (.int .i64 (s * 65536)) := fun u => (u.cell lKm).trans cKm3
  have uKm4 : ∀ u : Up wz, u.val.cell? ⟨w2.heap.size, 4, none⟩ = some (.int .i64 (e * 65536)) := fun u => (u.cell lKm).trans cKm4
  have uKm5 : ∀ u : Up wz, u.val.cell? ⟨w2.heap.size, 5, none⟩ = some (.int .i64 (f * 65536)) := fun u => (u.cell lKm).trans cKm5
  have uKa0 : ∀ u : Up wz, u.val.cell? ⟨w4.heap.size, 0, none⟩ = some (.int .i64 65536) := fun u => (u.cell lKa).trans cKa0
  have uKa1 : ∀ u : Up wz, u.val.cell? ⟨w4.heap.size, 1, none⟩ = some (.int .i64 0) := fun u => (u.cell lKa).trans cKa1
  have uKa2 : ∀ u : Up wz, u.val.cell? ⟨w4.heap.size, 2, none⟩ = some (.int .i64 0) := fun u => (u.cell lKa).trans cKa2
  have uKa3 : ∀ u : Up wz, u.val.cell? ⟨w4.heap.size, 3, none⟩ = some (.int .i64 65536) := fun u => (u.cell lKa).trans cKa3
  have uKa4 : ∀ u : Up wz, u.val.cell? ⟨w4.heap.size, 4, none⟩ = some (.int .i64 0) := fun u => (u.cell lKa).trans cKa4
  have uKa5 : ∀ u : Up wz, u.val.cell? ⟨w4.heap.size, 5, none⟩ = some (.int .i64 0) := fun u => (u.cell lKa).trans cKa5
  have uKb0 : ∀ u : Up wz, u.val.cell? ⟨w5.heap.size, 0, none⟩ = some (.int .i64 65536) := fun u => (u.cell lKb).trans cKb0
  have uKb1 : ∀ u : Up wz, u.val.cell? ⟨w5.heap.size, 1, none⟩ = some (.int .i64 0) := fun u => (u.cell lKb).trans cKb1
  have uKb2 : ∀ u : Up wz, u.val.cell? ⟨w5.heap.size, 2, none⟩ = some (.int .i64 0) := fun u => (u.cell lKb).trans cKb2
  have uKb3 : ∀ u : Up wz, u.val.cell? ⟨w5.heap.size, 3, none⟩ = some (.int .i64 65536) := fun u => (u.cell lKb).trans cKb3
  have uKb4 : ∀ u : Up wz, u.val.cell? ⟨w5.heap.size, 4, none⟩ = some (.int .i64 0) := fun u => (u.cell lKb).trans cKb4
  have uKb5 : ∀ u : Up wz, u.val.cell? ⟨w5.heap.size, 5, none⟩ = some (.int .i64 0) := fun u => (u.cell lKb).trans cKb5
  have uKj0 : ∀ u : Up wz, u.val.cell? ⟨Pj, 0, none⟩ = some (.int .i64 (p * 65536)) := fun u => (u.cell lKj).trans cKj0
  have uKj1 : ∀ u : Up wz, u.val.cell? ⟨Pj, 1, none⟩ = some (.int .i64 (q * 65536)) := fun u => (u.cell lKj).trans cKj1
  have uKj2 : ∀ u : Up wz, u.val.cell? ⟨Pj, 2, none⟩ = some (.int .i64 (r * 65536)) := fun u => (u.cell lKj).trans cKj2
  have uKj3 : ∀ u : Up wz, u.val.cell? ⟨Pj, 3, none⟩ = some (.int .i64 (s * 65536)) := fun u => (u.cell lKj).trans cKj3
  have uKj4 : ∀ u : Up wz, u.val.cell? ⟨Pj, 4, none⟩ = some (.int .i64 (e * 65536)) := fun u => (u.cell lKj).trans cKj4
  have uKj5 : ∀ u : Up wz, u.val.cell? ⟨Pj, 5, none⟩ = some (.int .i64 (f * 65536)) := fun u => (u.cell lKj).trans cKj5
  refine wp_region_up (by kernel_rfl) (by kernel_rfl) ?_
  repeat (go_big_quiet_step (fail))
  go_big_quiet_step (exact HU1.out _)
  repeat (go_big_quiet_step (fail))
  go_big_quiet_step (exact HU1.out _)
  repeat (go_big_quiet_step (fail))
  refine wpQuiet_nil ?_
  rintro _ ⟨uq, rfl⟩
  replace hbw := btrans hbw uq.ok
  go_wp2_with fail
  go_ret
  exact ⟨rfl, hbw⟩

theorem mturns_law (A : Option Addr) (n c0 : Nat) (ns : Nat → Int) (x0 y0 : Int) (w : World) (hI : op.Ints w A n c0 ns) (hn : n ≤ 9223372036854775807) (_hx : -9223372036854775808 ≤ x0 ∧ x0 ≤ 9223372036854775807) (_hy : -9223372036854775808 ≤ y0 ∧ y0 ≤ 9223372036854775807) :
    Calls Try.prog 10 #[.slice A n c0, .int .i64 x0, .int .i64 y0] w fun ed w' => ed = .returned (.bool true) ∧ Below w.heap.size w w' := turns_law x0 y0 A n c0 ns w hI hn

end Go.Proofs.Ytaephahcohdbpaa.mt
