/-
  MatWide: how wide a stroke is under a size and under a turn of whole numbers.
-/
import Derived.Test.YtaephahcohdbpaaUnit
namespace Go.Proofs.Ytaephahcohdbpaa.mt
set_option linter.unusedVariables false
set_option linter.unusedSimpArgs false
open Go.RowKit bs

theorem isq_sq (k : Nat) : isq (k * k) = k := isq_eq (Nat.le_refl _) (by rw [Nat.add_mul, Nat.mul_add]; omega)
theorem isq_of (d : Int) (k : Nat) (h : d = (k : Int) * (k : Int) ∨ d = -((k : Int) * (k : Int))) : isq d.natAbs = k := by
  have e : d.natAbs = k * k := by
    rcases h with h | h
    · rw [h, Int.natAbs_mul]; simp
    · rw [h, Int.natAbs_neg, Int.natAbs_mul]; simp
  rw [e]
  exact isq_sq k

theorem wide_size (k v : Int) (W : World) (k0 : 1 ≤ k ∧ k ≤ 20) (v0 : 0 ≤ v ∧ v ≤ 6553600) (z : Int) (hz : k * v / 65536 = z) (hz2 : z ≤ 2048) : Calls Try.prog 24 #[.agg #[.int .i64 (k * 65536), .int .i64 0, .int .i64 0, .int .i64 (-(k * 65536)), .int .i64 0, .int .i64 0], .int .i64 v] W fun ed w' => ed = .returned (.tuple #[.int .i64 z, .int .i64 0]) ∧ Below W.heap.size W w' := by
  obtain ⟨n, rfl⟩ := Int.eq_ofNat_of_zero_le (show 0 ≤ k by omega)
  have hK : ((n * 65536 : Nat) : Int) = (n : Int) * 65536 := by omega
  have hd : ((n : Int) * 65536) * (-((n : Int) * 65536)) - 0 * 0 = -(((n * 65536 : Nat) : Int) * ((n * 65536 : Nat) : Int)) := by rw [hK, Int.mul_neg, Int.mul_zero, Int.sub_zero]
  have hw : wideV (((n : Int) * 65536) * (-((n : Int) * 65536)) - 0 * 0) v = z := by
    unfold wideV
    rw [isq_of _ (n * 65536) (.inr hd), ← hz, hK]
    rw [← Int.mul_assoc, Int.mul_comm v]
    generalize (n : Int) * v = t
    omega
  have := Wide_yes ((n : Int) * 65536) 0 0 (-((n : Int) * 65536)) 0 0 v W (mayB_true (by omega) (by omega) (by omega) (by omega) (by omega) (by omega)) (by omega) (fixB_true (by omega))
  rw [hw, show decide (z ≤ 2048) = true by simp; omega] at this
  exact this
theorem wide_turn (p q r s v : Int) (W : World) (bp : -81 ≤ p ∧ p ≤ 81) (bq : -81 ≤ q ∧ q ≤ 81) (br : -81 ≤ r ∧ r ≤ 81) (bs : -81 ≤ s ∧ s ≤ 81) (hd : p * s - q * r = 1 ∨ p * s - q * r = -1) (v0 : 0 ≤ v ∧ v ≤ 6619135) :
    Calls Try.prog 24 #[.agg #[.int .i64 (p * 65536), .int .i64 (q * 65536), .int .i64 (r * 65536), .int .i64 (s * 65536), .int .i64 0, .int .i64 0], .int .i64 v] W fun ed w' => ed = .returned (.tuple #[.int .i64 (v / 65536), .int .i64 0]) ∧ Below W.heap.size W w' := by
  have e : ∀ a b : Int, a * 65536 * (b * 65536) = a * b * 4294967296 := fun a b => by
    rw [Int.mul_assoc a 65536, Int.mul_left_comm 65536 b 65536, ← Int.mul_assoc a b]
    omega
  have hdd : p * 65536 * (s * 65536) - q * 65536 * (r * 65536) = ((65536 : Nat) : Int) * ((65536 : Nat) : Int) ∨ p * 65536 * (s * 65536) - q * 65536 * (r * 65536) = -(((65536 : Nat) : Int) * ((65536 : Nat) : Int)) := by
    rw [e, e]
    generalize p * s = x at *
    generalize q * r = y at *
    omega
  have hw : wideV (p * 65536 * (s * 65536) - q * 65536 * (r * 65536)) v = v / 65536 := by
    unfold wideV
    rw [isq_of _ 65536 hdd, show ((65536 : Nat) : Int) = 65536 from rfl]
    omega
  have := Wide_yes (p * 65536) (q * 65536) (r * 65536) (s * 65536) 0 0 v W (mayB_true (by omega) (by omega) (by omega) (by omega) (by omega) (by omega)) (by omega) (fixB_true (by omega))
  rw [hw, show decide (v / 65536 ≤ 2048) = true by simp; omega] at this
  exact this

set_option maxRecDepth 100000 in
set_option maxHeartbeats 3200000 in
theorem mwide_law (a w0 : Int) (A : Option Addr) (n c0 : Nat) (ns : Nat → Int) (w : World) (_ha : -9223372036854775808 ≤ a ∧ a ≤ 9223372036854775807) (_hw : -9223372036854775808 ≤ w0 ∧ w0 ≤ 9223372036854775807) (hI : op.Ints w A n c0 ns) (hn : n ≤ 9223372036854775807) :
    Calls Try.prog 5 #[.int .i64 a, .int .i64 w0, .slice A n c0] w fun ed w' => ed = .returned (.bool true) ∧ Below w.heap.size w w' := by
  have HP1 := Lib.hid (fun W => place_any a 20 W (by omega) (by omega))
  have HP2 := Lib.hid (fun W => place_any w0 100 W (by omega) (by omega))
  have HP3 := Lib.hid (fun W => place_any w0 65536 W (by omega) (by omega))
  obtain ⟨g, hg⟩ : ∃ g, a % 20 = g := ⟨_, rfl⟩
  obtain ⟨v, hv⟩ : ∃ v, w0 % 100 = v := ⟨_, rfl⟩
  obtain ⟨t, ht⟩ : ∃ t, w0 % 65536 = t := ⟨_, rfl⟩
  have g0 : 0 ≤ g ∧ g ≤ 19 := by omega
  have v0 : 0 ≤ v ∧ v ≤ 99 := by omega
  have t0 : 0 ≤ t ∧ t ≤ 65535 := by omega
  rw [hg] at HP1
  rw [hv] at HP2
  rw [ht] at HP3
  clear hg hv ht
  obtain ⟨k, hk⟩ : ∃ k, 1 + g = k := ⟨_, rfl⟩
  have k0 : 1 ≤ k ∧ k ≤ 20 := by omega
  have kv : 0 ≤ k * v ∧ k * v ≤ 1980 := ⟨Int.mul_nonneg (by omega) (by omega), by have := Int.mul_le_mul (show k ≤ 20 by omega) (show v ≤ 99 by omega) (by omega) (by omega); omega⟩
  obtain ⟨z, hz⟩ : ∃ z, k * v = z := ⟨_, rfl⟩
  rw [hz] at kv
  have HSz := Lib.hid (fun W => show Calls Try.prog 17 #[.int .i64 (k * 65536), .int .i64 (-(k * 65536))] W fun ed w' => ed = .returned (.tuple #[.agg #[.int .i64 (k * 65536), .int .i64 0, .int .i64 0, .int .i64 (-(k * 65536)), .int .i64 0, .int .i64 0], .int .i64 0]) ∧ Below W.heap.size W w' from Size_yes (k * 65536) (-(k * 65536)) W (fixB_true (by omega)) (fixB_true (by omega)))
  have e1 : k * (v * 65536) / 65536 = z := by rw [← Int.mul_assoc, hz]; omega
  have HW1 := Lib.hid (fun W => wide_size k (v * 65536) W k0 (by omega) z e1 (by omega))
  obtain ⟨y, hy⟩ : ∃ y, k * (v * 65536 / 2) / 65536 = y := ⟨_, rfl⟩
  have e2 : 2 * y ≤ z ∧ z ≤ 2 * y + 1 := by
    rw [← hy, show v * 65536 / 2 = v * 32768 by omega, ← Int.mul_assoc, hz]
    omega
  have HW3 := Lib.hid (fun W => wide_size k (v * 65536 / 2) W k0 (by omega) y hy (by omega))
  have HU := Lib.hid (fun (W : World) (h : op.Ints W A n c0 ns) => unit_any A n c0 ns W h hn)
  have HT := Lib.hid (fun (W : World) (p q r s : Int) (bp : -81 ≤ p ∧ p ≤ 81) (bq : -81 ≤ q ∧ q ≤ 81) (br : -81 ≤ r ∧ r ≤ 81) (bs : -81 ≤ s ∧ s ≤ 81) (hd : p * s - q * r = 1 ∨ p * s - q * r = -1) => show Calls Try.prog 24 #[.agg #[.int .i64 (p * 65536), .int .i64 (q * 65536), .int .i64 (r * 65536), .int .i64 (s * 65536), .int .i64 0, .int .i64 0], .int .i64 (v * 65536 + t)] W fun ed w' => ed = .returned (.tuple #[.int .i64 v, .int .i64 0]) ∧ Below W.heap.size W w' by have := wide_turn p q r s (v * 65536 + t) W bp bq br bs hd (by omega); rw [show (v * 65536 + t) / 65536 = v by omega] at this; exact this)
  have htd : (v * 65536).tdiv 2 = v * 65536 / 2 := Int.tdiv_eq_ediv_of_nonneg (by omega)
  have hneg : -k * 65536 = -(k * 65536) := Int.neg_mul _ _
  have c1 : decide (z - 2 * y ≤ 1) = true := by simp; omega
  have c2 : decide (2 * y ≤ z) = true := by simp; omega
  have HI := Lib.hid hI
  clear e1 hy hI
  obtain ⟨kv0, kv1⟩ := kv
  obtain ⟨k00, k01⟩ := k0
  obtain ⟨v00, v01⟩ := v0
  obtain ⟨t00, t01⟩ := t0
  obtain ⟨g00, g01⟩ := g0
  obtain ⟨e20, e21⟩ := e2
  go_enter Try.func5, Try.ntmps5
  go_wp2_with fail
  refine (known_any _).mono ?_
  rintro e_ w1 ⟨rfl, hb1⟩
  have hbw : Below w.heap.size w w1 := btrans (by (repeat' (first | exact Below.refl _ _ | exact Below.refl _ _ | refine balloc ?_ _ | refine Below.drew ?_ | refine below_drewN ?_ _ | refine bset ?_ (by first | omega | (simp <;> omega)) _))) hb1
  clear hb1
  go_wp2_with fail
  refine (HP1.out _).mono ?_
  rintro e_ w_ ⟨rfl, rfl⟩
  go_wp2_with fail
  refine (HP2.out _).mono ?_
  rintro e_ w_ ⟨rfl, rfl⟩
  go_wp2_with fail
  refine (HSz.out _).mono ?_
  rintro e_ w2 ⟨rfl, hb2⟩
  replace hbw : Below w.heap.size w w2 := btrans (by (repeat' (first | refine bset ?_ (by first | omega | (simp <;> omega)) _ | refine balloc ?_ _ | refine Below.drew ?_ | refine below_drewN ?_ _ | exact hbw | exact Below.refl _ _))) hb2
  clear hb2
  go_wp2_with fail
  refine (HW1.out _).mono ?_
  rintro e_ w3 ⟨rfl, hb3⟩
  have Km := (Blk.new w2 23 #[.int .i64 (k * 65536), .int .i64 0, .int .i64 0, .int .i64 (-(k * 65536)), .int .i64 0, .int .i64 0]).below hb3 (by simp)
  replace hbw : Below w.heap.size w w3 := btrans (by (repeat' (first | refine bset ?_ (by first | omega | (simp <;> omega)) _ | refine balloc ?_ _ | refine Below.drew ?_ | refine below_drewN ?_ _ | exact hbw | exact Below.refl _ _))) hb3
  clear hb3
  have lKm := Km.lt
  have cKm0 := Km.cell 0
  have cKm1 := Km.cell 1
  have cKm2 := Km.cell 2
  have cKm3 := Km.cell 3
  have cKm4 := Km.cell 4
  have cKm5 := Km.cell 5
  simp only [List.getElem?_toArray, List.getElem?_cons_succ, List.getElem?_cons_zero] at cKm0 cKm1 cKm2 cKm3 cKm4 cKm5
  have hI3 := HI.out.below hbw
  go_wp2_with fail
  refine (HU.out _ hI3).mono ?_
  rintro e_ w4 ⟨p, q, r, s, rfl, bp, bq, br, bs_, hd, hbu⟩
  have HTt := Lib.hid (fun W => HT.out W p q r s bp bq br bs_ hd)
  clear hd bp bq br bs_ hI3
  replace Km := Km.below hbu lKm
  replace hbw := btrans hbw hbu
  clear hbu lKm cKm0 cKm1 cKm2 cKm3 cKm4 cKm5
  have lKm := Km.lt
  have cKm0 := Km.cell 0
  have cKm1 := Km.cell 1
  have cKm2 := Km.cell 2
  have cKm3 := Km.cell 3
  have cKm4 := Km.cell 4
  have cKm5 := Km.cell 5
  simp only [List.getElem?_toArray, List.getElem?_cons_succ, List.getElem?_cons_zero] at cKm0 cKm1 cKm2 cKm3 cKm4 cKm5
  go_wp2_with fail
  refine (HP3.out _).mono ?_
  rintro e_ w_ ⟨rfl, rfl⟩
  go_wp2_with fail
  refine (HTt.out _).mono ?_
  rintro e_ w5 ⟨rfl, hb5⟩
  replace Km := Km.below hb5 (by first | exact lKm | (have := lKm; simp; omega))
  replace hbw : Below w.heap.size w w5 := btrans (by (repeat' (first | refine bset ?_ (by first | omega | (simp <;> omega)) _ | refine balloc ?_ _ | refine Below.drew ?_ | refine below_drewN ?_ _ | exact hbw | exact Below.refl _ _))) hb5
  clear hb5 lKm cKm0 cKm1 cKm2 cKm3 cKm4 cKm5
  have lKm := Km.lt
  have cKm0 := Km.cell 0
  have cKm1 := Km.cell 1
  have cKm2 := Km.cell 2
  have cKm3 := Km.cell 3
  have cKm4 := Km.cell 4
  have cKm5 := Km.cell 5
  simp only [List.getElem?_toArray, List.getElem?_cons_succ, List.getElem?_cons_zero] at cKm0 cKm1 cKm2 cKm3 cKm4 cKm5
  go_wp2_with fail
  refine (HW3.out _).mono ?_
  rintro e_ w6 ⟨rfl, hb6⟩
  replace Km := Km.below hb6 (by first | exact lKm | (have := lKm; simp; omega))
  replace hbw : Below w.heap.size w w6 := btrans (by (repeat' (first | refine bset ?_ (by first | omega | (simp <;> omega)) _ | refine balloc ?_ _ | refine Below.drew ?_ | refine below_drewN ?_ _ | exact hbw | exact Below.refl _ _))) hb6
  clear hb6 lKm cKm0 cKm1 cKm2 cKm3 cKm4 cKm5
  have lKm := Km.lt
  have cKm0 := Km.cell 0
  have cKm1 := Km.cell 1
  have cKm2 := Km.cell 2
  have cKm3 := Km.cell 3
  have cKm4 := Km.cell 4
  have cKm5 := Km.cell 5
  simp only [List.getElem?_toArray, List.getElem?_cons_succ, List.getElem?_cons_zero] at cKm0 cKm1 cKm2 cKm3 cKm4 cKm5
  go_wp2_with fail
  go_ret
  exact ⟨rfl, hbw⟩

end Go.Proofs.Ytaephahcohdbpaa.mt
