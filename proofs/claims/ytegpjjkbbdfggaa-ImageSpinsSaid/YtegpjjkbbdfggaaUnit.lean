/-
  Layer 24's laws: Unit, a matrix of whole numbers whose determinant is 1 or -1; its value as a function of the numbers.
-/
import Derived.Test.YtegpjjkbbdfggaaExact
import Derived.Test.YtegpjjkbbdfggaaOpenIntsM
import Derived.Test.YtegpjjkbbdfggaaTurnI
namespace Go.Proofs.Ytegpjjkbbdfggaa.mt
set_option linter.unusedVariables false
set_option linter.unusedSimpArgs false
open Go.RowKit bs im

theorem mul_two {k a B : Int} (hk : -2 ≤ k ∧ k ≤ 2) (ha : -B ≤ a ∧ a ≤ B) : -(2 * B) ≤ k * a ∧ k * a ≤ 2 * B := by
  rcases (show k = -2 ∨ k = -1 ∨ k = 0 ∨ k = 1 ∨ k = 2 by omega) with h | h | h | h | h <;> subst h <;> omega
theorem shear_l (a b c d k : Int) : a * (d + k * b) - b * (c + k * a) = a * d - b * c := by
  rw [Int.mul_add, Int.mul_add, Int.mul_left_comm a k b, Int.mul_left_comm b k a, Int.mul_comm a b]
  omega
theorem shear_r (a b c d k : Int) : (a + k * c) * d - (b + k * d) * c = a * d - b * c := by
  rw [Int.add_mul, Int.add_mul, Int.mul_assoc k c d, Int.mul_assoc k d c, Int.mul_comm c d]
  omega
/-- what Unit's loop holds of its four numbers -/
def UB (B a b c d : Int) : Prop := (-B ≤ a ∧ a ≤ B) ∧ (-B ≤ b ∧ b ≤ B) ∧ (-B ≤ c ∧ c ≤ B) ∧ (-B ≤ d ∧ d ≤ B) ∧ Hid (a * d - b * c = 1)
/-- Unit's four numbers behind m rounds -/
def uS (ns : Nat → Int) : Nat → Int × Int × Int × Int
  | 0 => (1, 0, 0, 1)
  | m + 1 => if m % 2 = 0 then ((uS ns m).1, (uS ns m).2.1, (uS ns m).2.2.1 + (ns m % 5 - 2) * (uS ns m).1, (uS ns m).2.2.2 + (ns m % 5 - 2) * (uS ns m).2.1)
    else ((uS ns m).1 + (ns m % 5 - 2) * (uS ns m).2.2.1, (uS ns m).2.1 + (ns m % 5 - 2) * (uS ns m).2.2.2, (uS ns m).2.2.1, (uS ns m).2.2.2)
theorem uS_even {a b c d : Int} (ns : Nat → Int) (m : Nat) (h : uS ns m = (a, b, c, d)) (hm : m % 2 = 0) : uS ns (m + 1) = (a, b, c + (ns m % 5 - 2) * a, d + (ns m % 5 - 2) * b) := by
  show (if m % 2 = 0 then _ else _) = _
  rw [if_pos hm, h]
theorem uS_odd {a b c d : Int} (ns : Nat → Int) (m : Nat) (h : uS ns m = (a, b, c, d)) (hm : m % 2 = 1) : uS ns (m + 1) = (a + (ns m % 5 - 2) * c, b + (ns m % 5 - 2) * d, c, d) := by
  show (if m % 2 = 0 then _ else _) = _
  rw [if_neg (by omega), h]
/-- Unit's four numbers -/
def uV (ns : Nat → Int) (n : Nat) : Int × Int × Int × Int := if 4 < n ∧ (ns 4).tmod 2 ≠ 0 then ((uS ns 4).2.2.1, (uS ns 4).2.2.2, (uS ns 4).1, (uS ns 4).2.1) else uS ns (min n 4)
/-- is the result of Unit -/
def UnitV (ns : Nat → Int) (n : Nat) (w : World) (e : Ending) (w' : World) : Prop := ∃ a b c d : Int, uV ns n = (a, b, c, d) ∧ e = .returned (.agg #[.int .i64 (a * 65536), .int .i64 (b * 65536), .int .i64 (c * 65536), .int .i64 (d * 65536), .int .i64 0, .int .i64 0]) ∧
  (-81 ≤ a ∧ a ≤ 81) ∧ (-81 ≤ b ∧ b ≤ 81) ∧ (-81 ≤ c ∧ c ≤ 81) ∧ (-81 ≤ d ∧ d ≤ 81) ∧ (a * d - b * c = 1 ∨ a * d - b * c = -1) ∧ Below w.heap.size w w'

set_option maxRecDepth 100000 in
set_option maxHeartbeats 3200000 in
theorem unitV_any (A : Option Addr) (n c0 : Nat) (ns : Nat → Int) (w : World) (hI : op.Ints w A n c0 ns) (hn : n ≤ 9223372036854775807) : Calls Try.prog 29 #[.slice A n c0] w (UnitV ns n w) := by
  have hI2 : op.Ints (w.alloc (.cells #[.int .i64 0, .int .i64 0, .int .i64 0, .int .i64 0, .int .i64 0, .int .i64 0] 25)) A n c0 ns := hI.below (by (repeat' (first | exact Below.refl _ _ | exact Below.refl _ _ | refine balloc ?_ _ | refine Below.drew ?_ | refine below_drewN ?_ _ | refine bset ?_ (by first | omega | (simp <;> omega)) _)))
  have HI := Lib.hid hI2
  clear hI hI2
  go_enter Try.func29, Try.ntmps29
  go_wp2_with fail
  go_loop [3, 4, 5, 6, 7, 8, 37] (fun va vb vc vd vi x y => ∃ m : Nat, m ≤ 4 ∧ m ≤ n ∧ vi = .int .i64 m ∧ ∃ a b c d : Int, va = .int .i64 a ∧ vb = .int .i64 b ∧ vc = .int .i64 c ∧ vd = .int .i64 d ∧ UB (3 ^ m) a b c d ∧ Hid (uS ns m = (a, b, c, d))) (fun _ _ _ _ vi _ _ => 4 - (intOf vi).toNat)
  case atStart => exact ⟨0, by omega, by omega, rfl, 1, 0, 0, 1, rfl, rfl, rfl, rfl, ⟨by omega, by omega, by omega, by omega, (by decide : (1 : Int) * 1 - 0 * 0 = 1)⟩, rfl⟩
  case round =>
    obtain ⟨m, hm, hmn, rfl, a, b, c, d, rfl, rfl, rfl, rfl, ⟨ha, hb, hc, hd, HD⟩, HU⟩ := hrel
    rcases (show m = 0 ∨ m = 1 ∨ m = 2 ∨ m = 3 ∨ m = 4 by omega) with h | h | h | h | h <;> subst h
    · simp only [Int.reducePow, Nat.reducePow] at ha hb hc hd
      by_cases hlt : 0 < n
      · have c1 : decide ((0 : Int) < (n : Int)) = true := by simp; omega
        obtain ⟨b_, o_, rfl, hbl, hcl⟩ := HI.out.2 (by omega)
        have r0 := hcl 0 hlt
        simp only [Nat.add_zero] at r0
        have HPl := Lib.hid (fun W => place_any (ns 0) 5 W (by omega) (by omega))
        obtain ⟨v, hv⟩ : ∃ v, ns 0 = v := ⟨_, rfl⟩
        rw [hv] at r0 HPl
        obtain ⟨r, hr⟩ : ∃ r, v % 5 = r := ⟨_, rfl⟩
        rw [hr] at HPl
        have hr0 : 0 ≤ r ∧ r ≤ 4 := by omega
        obtain ⟨k, hk⟩ : ∃ k, r - 2 = k := ⟨_, rfl⟩
        have hk0 : -2 ≤ k ∧ k ≤ 2 := by omega
        have m1 := mul_two hk0 ha
        have m2 := mul_two hk0 hb
        have hdet := shear_l a b c d k
        rw [HD.out] at hdet
        have hU2 := uS_even ns 0 HU.out (by decide)
        rw [hv, hr, hk] at hU2
        generalize hp1 : k * a = p1 at *
        generalize hp2 : k * b = p2 at *
        have HD2 := Lib.hid hdet
        have HU2 := Lib.hid hU2
        have HC := Lib.hid hcl
        have HVr := Lib.hid hr
        have HVv := Lib.hid hv
        clear hcl hdet hr hv HD hU2 HU
        obtain ⟨ha0, ha1⟩ := ha
        obtain ⟨hb0, hb1⟩ := hb
        obtain ⟨hc0, hc1⟩ := hc
        obtain ⟨hd0, hd1⟩ := hd
        obtain ⟨m10, m11⟩ := m1
        obtain ⟨m20, m21⟩ := m2
        obtain ⟨hr00, hr01⟩ := hr0
        go_wp2_with fail
        refine (HPl.out _).mono ?_
        rintro e_ w_ ⟨rfl, rfl⟩
        go_wp2_with fail
        go_round
        case rel => exact ⟨1, by omega, by omega, rfl, _, _, _, _, rfl, rfl, rfl, rfl, ⟨by omega, by omega, by omega, by omega, HD2.out⟩, HU2.out⟩
        case measure => simp [intOf]
      · have HUV := Lib.hid (show uV ns n = (a, b, c, d) by unfold uV; rw [if_neg (by omega), show min n 4 = 0 by omega]; exact HU.out)
        have c1 : decide ((0 : Int) < (n : Int)) = false := by simp; omega
        have c4 : decide ((4 : Int) < (n : Int)) = false := by simp; omega
        have HWh := Lib.hid (fun W => Whole_any a b c d 0 0 W (by omega) (by omega) (by omega) (by omega) (by omega) (by omega))
        have K0 := Blk.new w 25 #[.int .i64 0, .int .i64 0, .int .i64 0, .int .i64 0, .int .i64 0, .int .i64 0]
        go_wp2_with fail
        refine (HWh.out _).mono ?_
        rintro e_ w1 ⟨rfl, hb1⟩
        replace K0 := K0.below hb1 (by simp)
        have hbw : Below w.heap.size w w1 := btrans (by (repeat' (first | exact Below.refl _ _ | exact Below.refl _ _ | refine balloc ?_ _ | refine Below.drew ?_ | refine below_drewN ?_ _ | refine bset ?_ (by first | omega | (simp <;> omega)) _))) hb1
        clear hb1
        have q0 := K0.cell 0
        have f0 := K0.frozen 0
        have q1 := K0.cell 1
        have f1 := K0.frozen 1
        have q2 := K0.cell 2
        have f2 := K0.frozen 2
        have q3 := K0.cell 3
        have f3 := K0.frozen 3
        have q4 := K0.cell 4
        have f4 := K0.frozen 4
        have q5 := K0.cell 5
        have f5 := K0.frozen 5
        simp only [List.getElem?_toArray, List.getElem?_cons_succ, List.getElem?_cons_zero] at q0 q1 q2 q3 q4 q5
        have HK := Lib.hid K0
        have HBW := Lib.hid hbw
        clear K0 hbw
        go_wp2_with fail
        have K := (((((HK.out.set_ 0 (.int .i64 (a * 65536))).set_ 1 (.int .i64 (b * 65536))).set_ 2 (.int .i64 (c * 65536))).set_ 3 (.int .i64 (d * 65536))).set_ 4 (.int .i64 0)).set_ 5 (.int .i64 0)
        refine ret_struct1 (g := w.heap.size) (t := 25) (cs := #[.int .i64 (a * 65536), .int .i64 (b * 65536), .int .i64 (c * 65536), .int .i64 (d * 65536), .int .i64 0, .int .i64 0]) rfl rfl ?_ Try.underlying25 rfl rfl rfl ?_
        · exact K
        · exact ⟨_, _, _, _, HUV.out, rfl, by omega, by omega, by omega, by omega, .inl HD.out, by (repeat' (first | refine bset ?_ (by first | omega | (simp <;> omega)) _ | refine balloc ?_ _ | refine Below.drew ?_ | refine below_drewN ?_ _ | exact HBW.out | exact Below.refl _ _))⟩
    · simp only [Int.reducePow, Nat.reducePow] at ha hb hc hd
      by_cases hlt : 1 < n
      · have c1 : decide ((1 : Int) < (n : Int)) = true := by simp; omega
        obtain ⟨b_, o_, rfl, hbl, hcl⟩ := HI.out.2 (by omega)
        have r0 := hcl 1 hlt
        have HPl := Lib.hid (fun W => place_any (ns 1) 5 W (by omega) (by omega))
        obtain ⟨v, hv⟩ : ∃ v, ns 1 = v := ⟨_, rfl⟩
        rw [hv] at r0 HPl
        obtain ⟨r, hr⟩ : ∃ r, v % 5 = r := ⟨_, rfl⟩
        rw [hr] at HPl
        have hr0 : 0 ≤ r ∧ r ≤ 4 := by omega
        obtain ⟨k, hk⟩ : ∃ k, r - 2 = k := ⟨_, rfl⟩
        have hk0 : -2 ≤ k ∧ k ≤ 2 := by omega
        have m1 := mul_two hk0 hc
        have m2 := mul_two hk0 hd
        have hdet := shear_r a b c d k
        rw [HD.out] at hdet
        have hU2 := uS_odd ns 1 HU.out (by decide)
        rw [hv, hr, hk] at hU2
        generalize hp1 : k * c = p1 at *
        generalize hp2 : k * d = p2 at *
        have HD2 := Lib.hid hdet
        have HU2 := Lib.hid hU2
        have HC := Lib.hid hcl
        have HVr := Lib.hid hr
        have HVv := Lib.hid hv
        clear hcl hdet hr hv HD hU2 HU
        obtain ⟨ha0, ha1⟩ := ha
        obtain ⟨hb0, hb1⟩ := hb
        obtain ⟨hc0, hc1⟩ := hc
        obtain ⟨hd0, hd1⟩ := hd
        obtain ⟨m10, m11⟩ := m1
        obtain ⟨m20, m21⟩ := m2
        obtain ⟨hr00, hr01⟩ := hr0
        go_wp2_with fail
        refine (HPl.out _).mono ?_
        rintro e_ w_ ⟨rfl, rfl⟩
        go_wp2_with fail
        go_round
        case rel => exact ⟨2, by omega, by omega, rfl, _, _, _, _, rfl, rfl, rfl, rfl, ⟨by omega, by omega, by omega, by omega, HD2.out⟩, HU2.out⟩
        case measure => simp [intOf]
      · have HUV := Lib.hid (show uV ns n = (a, b, c, d) by unfold uV; rw [if_neg (by omega), show min n 4 = 1 by omega]; exact HU.out)
        have c1 : decide ((1 : Int) < (n : Int)) = false := by simp; omega
        have c4 : decide ((4 : Int) < (n : Int)) = false := by simp; omega
        have HWh := Lib.hid (fun W => Whole_any a b c d 0 0 W (by omega) (by omega) (by omega) (by omega) (by omega) (by omega))
        have K0 := Blk.new w 25 #[.int .i64 0, .int .i64 0, .int .i64 0, .int .i64 0, .int .i64 0, .int .i64 0]
        go_wp2_with fail
        refine (HWh.out _).mono ?_
        rintro e_ w1 ⟨rfl, hb1⟩
        replace K0 := K0.below hb1 (by simp)
        have hbw : Below w.heap.size w w1 := btrans (by (repeat' (first | exact Below.refl _ _ | exact Below.refl _ _ | refine balloc ?_ _ | refine Below.drew ?_ | refine below_drewN ?_ _ | refine bset ?_ (by first | omega | (simp <;> omega)) _))) hb1
        clear hb1
        have q0 := K0.cell 0
        have f0 := K0.frozen 0
        have q1 := K0.cell 1
        have f1 := K0.frozen 1
        have q2 := K0.cell 2
        have f2 := K0.frozen 2
        have q3 := K0.cell 3
        have f3 := K0.frozen 3
        have q4 := K0.cell 4
        have f4 := K0.frozen 4
        have q5 := K0.cell 5
        have f5 := K0.frozen 5
        simp only [List.getElem?_toArray, List.getElem?_cons_succ, List.getElem?_cons_zero] at q0 q1 q2 q3 q4 q5
        have HK := Lib.hid K0
        have HBW := Lib.hid hbw
        clear K0 hbw
        go_wp2_with fail
        have K := (((((HK.out.set_ 0 (.int .i64 (a * 65536))).set_ 1 (.int .i64 (b * 65536))).set_ 2 (.int .i64 (c * 65536))).set_ 3 (.int .i64 (d * 65536))).set_ 4 (.int .i64 0)).set_ 5 (.int .i64 0)
        refine ret_struct1 (g := w.heap.size) (t := 25) (cs := #[.int .i64 (a * 65536), .int .i64 (b * 65536), .int .i64 (c * 65536), .int .i64 (d * 65536), .int .i64 0, .int .i64 0]) rfl rfl ?_ Try.underlying25 rfl rfl rfl ?_
        · exact K
        · exact ⟨_, _, _, _, HUV.out, rfl, by omega, by omega, by omega, by omega, .inl HD.out, by (repeat' (first | refine bset ?_ (by first | omega | (simp <;> omega)) _ | refine balloc ?_ _ | refine Below.drew ?_ | refine below_drewN ?_ _ | exact HBW.out | exact Below.refl _ _))⟩
    · simp only [Int.reducePow, Nat.reducePow] at ha hb hc hd
      by_cases hlt : 2 < n
      · have c1 : decide ((2 : Int) < (n : Int)) = true := by simp; omega
        obtain ⟨b_, o_, rfl, hbl, hcl⟩ := HI.out.2 (by omega)
        have r0 := hcl 2 hlt
        have HPl := Lib.hid (fun W => place_any (ns 2) 5 W (by omega) (by omega))
        obtain ⟨v, hv⟩ : ∃ v, ns 2 = v := ⟨_, rfl⟩
        rw [hv] at r0 HPl
        obtain ⟨r, hr⟩ : ∃ r, v % 5 = r := ⟨_, rfl⟩
        rw [hr] at HPl
        have hr0 : 0 ≤ r ∧ r ≤ 4 := by omega
        obtain ⟨k, hk⟩ : ∃ k, r - 2 = k := ⟨_, rfl⟩
        have hk0 : -2 ≤ k ∧ k ≤ 2 := by omega
        have m1 := mul_two hk0 ha
        have m2 := mul_two hk0 hb
        have hdet := shear_l a b c d k
        rw [HD.out] at hdet
        have hU2 := uS_even ns 2 HU.out (by decide)
        rw [hv, hr, hk] at hU2
        generalize hp1 : k * a = p1 at *
        generalize hp2 : k * b = p2 at *
        have HD2 := Lib.hid hdet
        have HU2 := Lib.hid hU2
        have HC := Lib.hid hcl
        have HVr := Lib.hid hr
        have HVv := Lib.hid hv
        clear hcl hdet hr hv HD hU2 HU
        obtain ⟨ha0, ha1⟩ := ha
        obtain ⟨hb0, hb1⟩ := hb
        obtain ⟨hc0, hc1⟩ := hc
        obtain ⟨hd0, hd1⟩ := hd
        obtain ⟨m10, m11⟩ := m1
        obtain ⟨m20, m21⟩ := m2
        obtain ⟨hr00, hr01⟩ := hr0
        go_wp2_with fail
        refine (HPl.out _).mono ?_
        rintro e_ w_ ⟨rfl, rfl⟩
        go_wp2_with fail
        go_round
        case rel => exact ⟨3, by omega, by omega, rfl, _, _, _, _, rfl, rfl, rfl, rfl, ⟨by omega, by omega, by omega, by omega, HD2.out⟩, HU2.out⟩
        case measure => simp [intOf]
      · have HUV := Lib.hid (show uV ns n = (a, b, c, d) by unfold uV; rw [if_neg (by omega), show min n 4 = 2 by omega]; exact HU.out)
        have c1 : decide ((2 : Int) < (n : Int)) = false := by simp; omega
        have c4 : decide ((4 : Int) < (n : Int)) = false := by simp; omega
        have HWh := Lib.hid (fun W => Whole_any a b c d 0 0 W (by omega) (by omega) (by omega) (by omega) (by omega) (by omega))
        have K0 := Blk.new w 25 #[.int .i64 0, .int .i64 0, .int .i64 0, .int .i64 0, .int .i64 0, .int .i64 0]
        go_wp2_with fail
        refine (HWh.out _).mono ?_
        rintro e_ w1 ⟨rfl, hb1⟩
        replace K0 := K0.below hb1 (by simp)
        have hbw : Below w.heap.size w w1 := btrans (by (repeat' (first | exact Below.refl _ _ | exact Below.refl _ _ | refine balloc ?_ _ | refine Below.drew ?_ | refine below_drewN ?_ _ | refine bset ?_ (by first | omega | (simp <;> omega)) _))) hb1
        clear hb1
        have q0 := K0.cell 0
        have f0 := K0.frozen 0
        have q1 := K0.cell 1
        have f1 := K0.frozen 1
        have q2 := K0.cell 2
        have f2 := K0.frozen 2
        have q3 := K0.cell 3
        have f3 := K0.frozen 3
        have q4 := K0.cell 4
        have f4 := K0.frozen 4
        have q5 := K0.cell 5
        have f5 := K0.frozen 5
        simp only [List.getElem?_toArray, List.getElem?_cons_succ, List.getElem?_cons_zero] at q0 q1 q2 q3 q4 q5
        have HK := Lib.hid K0
        have HBW := Lib.hid hbw
        clear K0 hbw
        go_wp2_with fail
        have K := (((((HK.out.set_ 0 (.int .i64 (a * 65536))).set_ 1 (.int .i64 (b * 65536))).set_ 2 (.int .i64 (c * 65536))).set_ 3 (.int .i64 (d * 65536))).set_ 4 (.int .i64 0)).set_ 5 (.int .i64 0)
        refine ret_struct1 (g := w.heap.size) (t := 25) (cs := #[.int .i64 (a * 65536), .int .i64 (b * 65536), .int .i64 (c * 65536), .int .i64 (d * 65536), .int .i64 0, .int .i64 0]) rfl rfl ?_ Try.underlying25 rfl rfl rfl ?_
        · exact K
        · exact ⟨_, _, _, _, HUV.out, rfl, by omega, by omega, by omega, by omega, .inl HD.out, by (repeat' (first | refine bset ?_ (by first | omega | (simp <;> omega)) _ | refine balloc ?_ _ | refine Below.drew ?_ | refine below_drewN ?_ _ | exact HBW.out | exact Below.refl _ _))⟩
    · simp only [Int.reducePow, Nat.reducePow] at ha hb hc hd
      by_cases hlt : 3 < n
      · have c1 : decide ((3 : Int) < (n : Int)) = true := by simp; omega
        obtain ⟨b_, o_, rfl, hbl, hcl⟩ := HI.out.2 (by omega)
        have r0 := hcl 3 hlt
        have HPl := Lib.hid (fun W => place_any (ns 3) 5 W (by omega) (by omega))
        obtain ⟨v, hv⟩ : ∃ v, ns 3 = v := ⟨_, rfl⟩
        rw [hv] at r0 HPl
        obtain ⟨r, hr⟩ : ∃ r, v % 5 = r := ⟨_, rfl⟩
        rw [hr] at HPl
        have hr0 : 0 ≤ r ∧ r ≤ 4 := by omega
        obtain ⟨k, hk⟩ : ∃ k, r - 2 = k := ⟨_, rfl⟩
        have hk0 : -2 ≤ k ∧ k ≤ 2 := by omega
        have m1 := mul_two hk0 hc
        have m2 := mul_two hk0 hd
        have hdet := shear_r a b c d k
        rw [HD.out] at hdet
        have hU2 := uS_odd ns 3 HU.out (by decide)
        rw [hv, hr, hk] at hU2
        generalize hp1 : k * c = p1 at *
        generalize hp2 : k * d = p2 at *
        have HD2 := Lib.hid hdet
        have HU2 := Lib.hid hU2
        have HC := Lib.hid hcl
        have HVr := Lib.hid hr
        have HVv := Lib.hid hv
        clear hcl hdet hr hv HD hU2 HU
        obtain ⟨ha0, ha1⟩ := ha
        obtain ⟨hb0, hb1⟩ := hb
        obtain ⟨hc0, hc1⟩ := hc
        obtain ⟨hd0, hd1⟩ := hd
        obtain ⟨m10, m11⟩ := m1
        obtain ⟨m20, m21⟩ := m2
        obtain ⟨hr00, hr01⟩ := hr0
        go_wp2_with fail
        refine (HPl.out _).mono ?_
        rintro e_ w_ ⟨rfl, rfl⟩
        go_wp2_with fail
        go_round
        case rel => exact ⟨4, by omega, by omega, rfl, _, _, _, _, rfl, rfl, rfl, rfl, ⟨by omega, by omega, by omega, by omega, HD2.out⟩, HU2.out⟩
        case measure => simp [intOf]
      · have HUV := Lib.hid (show uV ns n = (a, b, c, d) by unfold uV; rw [if_neg (by omega), show min n 4 = 3 by omega]; exact HU.out)
        have c1 : decide ((3 : Int) < (n : Int)) = false := by simp; omega
        have c4 : decide ((4 : Int) < (n : Int)) = false := by simp; omega
        have HWh := Lib.hid (fun W => Whole_any a b c d 0 0 W (by omega) (by omega) (by omega) (by omega) (by omega) (by omega))
        have K0 := Blk.new w 25 #[.int .i64 0, .int .i64 0, .int .i64 0, .int .i64 0, .int .i64 0, .int .i64 0]
        go_wp2_with fail
        refine (HWh.out _).mono ?_
        rintro e_ w1 ⟨rfl, hb1⟩
        replace K0 := K0.below hb1 (by simp)
        have hbw : Below w.heap.size w w1 := btrans (by (repeat' (first | exact Below.refl _ _ | exact Below.refl _ _ | refine balloc ?_ _ | refine Below.drew ?_ | refine below_drewN ?_ _ | refine bset ?_ (by first | omega | (simp <;> omega)) _))) hb1
        clear hb1
        have q0 := K0.cell 0
        have f0 := K0.frozen 0
        have q1 := K0.cell 1
        have f1 := K0.frozen 1
        have q2 := K0.cell 2
        have f2 := K0.frozen 2
        have q3 := K0.cell 3
        have f3 := K0.frozen 3
        have q4 := K0.cell 4
        have f4 := K0.frozen 4
        have q5 := K0.cell 5
        have f5 := K0.frozen 5
        simp only [List.getElem?_toArray, List.getElem?_cons_succ, List.getElem?_cons_zero] at q0 q1 q2 q3 q4 q5
        have HK := Lib.hid K0
        have HBW := Lib.hid hbw
        clear K0 hbw
        go_wp2_with fail
        have K := (((((HK.out.set_ 0 (.int .i64 (a * 65536))).set_ 1 (.int .i64 (b * 65536))).set_ 2 (.int .i64 (c * 65536))).set_ 3 (.int .i64 (d * 65536))).set_ 4 (.int .i64 0)).set_ 5 (.int .i64 0)
        refine ret_struct1 (g := w.heap.size) (t := 25) (cs := #[.int .i64 (a * 65536), .int .i64 (b * 65536), .int .i64 (c * 65536), .int .i64 (d * 65536), .int .i64 0, .int .i64 0]) rfl rfl ?_ Try.underlying25 rfl rfl rfl ?_
        · exact K
        · exact ⟨_, _, _, _, HUV.out, rfl, by omega, by omega, by omega, by omega, .inl HD.out, by (repeat' (first | refine bset ?_ (by first | omega | (simp <;> omega)) _ | refine balloc ?_ _ | refine Below.drew ?_ | refine below_drewN ?_ _ | exact HBW.out | exact Below.refl _ _))⟩
    · simp only [Int.reducePow, Nat.reducePow] at ha hb hc hd
      by_cases h4 : 4 < n
      · have c4 : decide ((4 : Int) < (n : Int)) = true := by simp; omega
        obtain ⟨b_, o_, rfl, hbl, hcl⟩ := HI.out.2 (by omega)
        have r4 := hcl 4 h4
        obtain ⟨v4, hv4⟩ : ∃ v, ns 4 = v := ⟨_, rfl⟩
        rw [hv4] at r4
        obtain ⟨t, ht⟩ : ∃ t, v4.tmod 2 = t := ⟨_, rfl⟩
        have HC := Lib.hid hcl
        have HV := Lib.hid hv4
        clear hcl hv4
        by_cases h0 : t = 0
        · have HUV := Lib.hid (show uV ns n = (a, b, c, d) by unfold uV; rw [if_neg (by rintro ⟨_, h⟩; exact h (by rw [HV.out]; exact ht.trans h0)), show min n 4 = 4 by omega]; exact HU.out)
          have c5 : (t == 0) = true := by simp [h0]
          have c6 : (t != 0) = false := by simp [h0]
          have HWh := Lib.hid (fun W => Whole_any a b c d 0 0 W (by omega) (by omega) (by omega) (by omega) (by omega) (by omega))
          have K0 := Blk.new w 25 #[.int .i64 0, .int .i64 0, .int .i64 0, .int .i64 0, .int .i64 0, .int .i64 0]
          go_wp2_with fail
          refine (HWh.out _).mono ?_
          rintro e_ w1 ⟨rfl, hb1⟩
          replace K0 := K0.below hb1 (by simp)
          have hbw : Below w.heap.size w w1 := btrans (by (repeat' (first | exact Below.refl _ _ | exact Below.refl _ _ | refine balloc ?_ _ | refine Below.drew ?_ | refine below_drewN ?_ _ | refine bset ?_ (by first | omega | (simp <;> omega)) _))) hb1
          clear hb1
          have q0 := K0.cell 0
          have f0 := K0.frozen 0
          have q1 := K0.cell 1
          have f1 := K0.frozen 1
          have q2 := K0.cell 2
          have f2 := K0.frozen 2
          have q3 := K0.cell 3
          have f3 := K0.frozen 3
          have q4 := K0.cell 4
          have f4 := K0.frozen 4
          have q5 := K0.cell 5
          have f5 := K0.frozen 5
          simp only [List.getElem?_toArray, List.getElem?_cons_succ, List.getElem?_cons_zero] at q0 q1 q2 q3 q4 q5
          have HK := Lib.hid K0
          have HBW := Lib.hid hbw
          clear K0 hbw
          go_wp2_with fail
          have K := (((((HK.out.set_ 0 (.int .i64 (a * 65536))).set_ 1 (.int .i64 (b * 65536))).set_ 2 (.int .i64 (c * 65536))).set_ 3 (.int .i64 (d * 65536))).set_ 4 (.int .i64 0)).set_ 5 (.int .i64 0)
          refine ret_struct1 (g := w.heap.size) (t := 25) (cs := #[.int .i64 (a * 65536), .int .i64 (b * 65536), .int .i64 (c * 65536), .int .i64 (d * 65536), .int .i64 0, .int .i64 0]) rfl rfl ?_ Try.underlying25 rfl rfl rfl ?_
          · exact K
          · exact ⟨_, _, _, _, HUV.out, rfl, by omega, by omega, by omega, by omega, .inl HD.out, by (repeat' (first | refine bset ?_ (by first | omega | (simp <;> omega)) _ | refine balloc ?_ _ | refine Below.drew ?_ | refine below_drewN ?_ _ | exact HBW.out | exact Below.refl _ _))⟩
        · have HUV := Lib.hid (show uV ns n = (c, d, a, b) by unfold uV; rw [if_pos ⟨h4, by rw [HV.out, ht]; exact h0⟩, HU.out])
          have c5 : (t == 0) = false := by simp [h0]
          have c6 : (t != 0) = true := by simp [h0]
          have HWh := Lib.hid (fun W => Whole_any c d a b 0 0 W (by omega) (by omega) (by omega) (by omega) (by omega) (by omega))
          have K0 := Blk.new w 25 #[.int .i64 0, .int .i64 0, .int .i64 0, .int .i64 0, .int .i64 0, .int .i64 0]
          go_wp2_with fail
          refine (HWh.out _).mono ?_
          rintro e_ w1 ⟨rfl, hb1⟩
          replace K0 := K0.below hb1 (by simp)
          have hbw : Below w.heap.size w w1 := btrans (by (repeat' (first | exact Below.refl _ _ | exact Below.refl _ _ | refine balloc ?_ _ | refine Below.drew ?_ | refine below_drewN ?_ _ | refine bset ?_ (by first | omega | (simp <;> omega)) _))) hb1
          clear hb1
          have q0 := K0.cell 0
          have f0 := K0.frozen 0
          have q1 := K0.cell 1
          have f1 := K0.frozen 1
          have q2 := K0.cell 2
          have f2 := K0.frozen 2
          have q3 := K0.cell 3
          have f3 := K0.frozen 3
          have q4 := K0.cell 4
          have f4 := K0.frozen 4
          have q5 := K0.cell 5
          have f5 := K0.frozen 5
          simp only [List.getElem?_toArray, List.getElem?_cons_succ, List.getElem?_cons_zero] at q0 q1 q2 q3 q4 q5
          have HK := Lib.hid K0
          have HBW := Lib.hid hbw
          clear K0 hbw
          go_wp2_with fail
          have K := (((((HK.out.set_ 0 (.int .i64 (c * 65536))).set_ 1 (.int .i64 (d * 65536))).set_ 2 (.int .i64 (a * 65536))).set_ 3 (.int .i64 (b * 65536))).set_ 4 (.int .i64 0)).set_ 5 (.int .i64 0)
          refine ret_struct1 (g := w.heap.size) (t := 25) (cs := #[.int .i64 (c * 65536), .int .i64 (d * 65536), .int .i64 (a * 65536), .int .i64 (b * 65536), .int .i64 0, .int .i64 0]) rfl rfl ?_ Try.underlying25 rfl rfl rfl ?_
          · exact K
          · exact ⟨_, _, _, _, HUV.out, rfl, by omega, by omega, by omega, by omega, .inr (by have := HD.out; have e1 := Int.mul_comm c b; have e2 := Int.mul_comm d a; omega), by (repeat' (first | refine bset ?_ (by first | omega | (simp <;> omega)) _ | refine balloc ?_ _ | refine Below.drew ?_ | refine below_drewN ?_ _ | exact HBW.out | exact Below.refl _ _))⟩
      · have HUV := Lib.hid (show uV ns n = (a, b, c, d) by unfold uV; rw [if_neg (by omega), show min n 4 = 4 by omega]; exact HU.out)
        have c4 : decide ((4 : Int) < (n : Int)) = false := by simp; omega
        have HWh := Lib.hid (fun W => Whole_any a b c d 0 0 W (by omega) (by omega) (by omega) (by omega) (by omega) (by omega))
        have K0 := Blk.new w 25 #[.int .i64 0, .int .i64 0, .int .i64 0, .int .i64 0, .int .i64 0, .int .i64 0]
        go_wp2_with fail
        refine (HWh.out _).mono ?_
        rintro e_ w1 ⟨rfl, hb1⟩
        replace K0 := K0.below hb1 (by simp)
        have hbw : Below w.heap.size w w1 := btrans (by (repeat' (first | exact Below.refl _ _ | exact Below.refl _ _ | refine balloc ?_ _ | refine Below.drew ?_ | refine below_drewN ?_ _ | refine bset ?_ (by first | omega | (simp <;> omega)) _))) hb1
        clear hb1
        have q0 := K0.cell 0
        have f0 := K0.frozen 0
        have q1 := K0.cell 1
        have f1 := K0.frozen 1
        have q2 := K0.cell 2
        have f2 := K0.frozen 2
        have q3 := K0.cell 3
        have f3 := K0.frozen 3
        have q4 := K0.cell 4
        have f4 := K0.frozen 4
        have q5 := K0.cell 5
        have f5 := K0.frozen 5
        simp only [List.getElem?_toArray, List.getElem?_cons_succ, List.getElem?_cons_zero] at q0 q1 q2 q3 q4 q5
        have HK := Lib.hid K0
        have HBW := Lib.hid hbw
        clear K0 hbw
        go_wp2_with fail
        have K := (((((HK.out.set_ 0 (.int .i64 (a * 65536))).set_ 1 (.int .i64 (b * 65536))).set_ 2 (.int .i64 (c * 65536))).set_ 3 (.int .i64 (d * 65536))).set_ 4 (.int .i64 0)).set_ 5 (.int .i64 0)
        refine ret_struct1 (g := w.heap.size) (t := 25) (cs := #[.int .i64 (a * 65536), .int .i64 (b * 65536), .int .i64 (c * 65536), .int .i64 (d * 65536), .int .i64 0, .int .i64 0]) rfl rfl ?_ Try.underlying25 rfl rfl rfl ?_
        · exact K
        · exact ⟨_, _, _, _, HUV.out, rfl, by omega, by omega, by omega, by omega, .inl HD.out, by (repeat' (first | refine bset ?_ (by first | omega | (simp <;> omega)) _ | refine balloc ?_ _ | refine Below.drew ?_ | refine below_drewN ?_ _ | exact HBW.out | exact Below.refl _ _))⟩

end Go.Proofs.Ytegpjjkbbdfggaa.mt
