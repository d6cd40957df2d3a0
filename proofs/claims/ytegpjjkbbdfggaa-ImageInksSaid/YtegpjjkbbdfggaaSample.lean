/-
  Layer 37: a sample, and the reference's.
-/
import Derived.Test.YtegpjjkbbdfggaaMayI
namespace Go.Proofs.Ytegpjjkbbdfggaa.im
set_option linter.unusedVariables false
set_option linter.unusedSimpArgs false
open Go.RowKit bs mt

def byteAt (s : ByteArray) (i : Int) : Int := (((s[i.toNat]?).getD 0).toNat : Int)
def bitsV (b k B : Int) : Int := bits .and .i64 (b / 2 ^ k.toNat) (wrap64 (wrap64 (2 ^ B.toNat) - 1))
def inB (W H x y : Int) : Bool := decide (0 ≤ x) && decide (x < W) && decide (0 ≤ y) && decide (y < H)
/-- the sample of an image that may be; -1: none -/
def sampV (W H B : Int) (s : ByteArray) (x y : Int) : Int :=
  if inB W H x y = true then bitsV (byteAt s (y * rowI W B + x * B / 8)) (8 - B - x * B % 8) B else -1
theorem inB_true {W H x y : Int} (h : inB W H x y = true) : (0 ≤ x ∧ x < W) ∧ 0 ≤ y ∧ y < H := by
  unfold inB at h
  simp only [Bool.and_eq_true, decide_eq_true_eq] at h
  omega

/-- where a sample lies -/
theorem place_in {W H B x y n : Int} (hm : mayI W H B n = true) (hx : 0 ≤ x ∧ x < W) (hy : 0 ≤ y ∧ y < H) :
    (0 ≤ x * B ∧ x * B ≤ 512) ∧ (0 ≤ y * rowI W B ∧ y * rowI W B ≤ 4096) ∧ (0 ≤ x * B / 8 ∧ x * B / 8 ≤ 64) ∧ (0 ≤ x * B % 8 ∧ x * B % 8 ≤ 7) ∧ 0 ≤ 8 - B - x * B % 8 ∧ (x * B).tdiv 8 = x * B / 8 ∧ (x * B).tmod 8 = x * B % 8 ∧ y * rowI W B + x * B / 8 < n := by
  obtain ⟨hB, hW, hH, hn⟩ := mayI_bd hm
  have hR := rowI_bd hW (show 1 ≤ B ∧ B ≤ 8 by omega)
  have h1 := Int.mul_le_mul_of_nonneg_right (show y ≤ H - 1 by omega) (show 0 ≤ rowI W B by omega)
  have h2 := Int.mul_nonneg hy.1 (show 0 ≤ rowI W B by omega)
  have h3 := area_bd hH hR.2.2
  rw [Int.sub_mul, Int.one_mul, ← hn] at h1
  rw [← hn] at h3
  have e : rowI W B = (W * B + 7) / 8 := rfl
  have h4 : (0 ≤ x * B ∧ x * B ≤ 512) ∧ x * B / 8 < rowI W B ∧ 0 ≤ 8 - B - x * B % 8 := by
    rw [e]
    clear h1 h2 h3 e hR hn
    rcases hB with rfl | rfl | rfl | rfl <;> omega
  have h5 := Int.tdiv_eq_ediv_of_nonneg (b := 8) h4.1.1
  have h6 := Int.tmod_eq_emod_of_nonneg (b := 8) h4.1.1
  refine ⟨h4.1, ⟨h2, by omega⟩, ⟨by omega, by omega⟩, ⟨by omega, by omega⟩, h4.2.2, h5, h6, by omega⟩
theorem byte_in (s : ByteArray) (i : Int) (h0 : 0 ≤ i) (h1 : i < s.size) : (0 ≤ byteAt s i ∧ byteAt s i ≤ 255) ∧
    ∀ w, (Instr.index 9 (.string s) (.int .i64 i)).run Try.prog w = .ok (.int .u8 (byteAt s i)) w := by
  have hl : i.toNat < s.size := by omega
  have e : s[i.toNat]? = some s[i.toNat] := ByteArray.getElem?_lt' s _ hl
  have hb : byteAt s i = (s[i.toNat].toNat : Int) := by unfold byteAt; rw [e]; rfl
  refine ⟨?_, fun w => ?_⟩
  · rw [hb]
    have := s[i.toNat].toNat_lt
    omega
  · rw [hb]
    simp [Instr.index, go_sem, h0, h1]

set_option maxRecDepth 100000 in
set_option maxHeartbeats 1600000 in
theorem sample_in (W H B x y : Int) (s : ByteArray) (w : World) (n R q d r b : Int) (hW : 1 ≤ W ∧ W ≤ 64) (hB0 : 1 ≤ B) (hB1 : B ≤ 8) (hx0 : 0 ≤ x) (hx1 : x < W) (hy0 : 0 ≤ y) (hy1 : y < H) (hn : x * B = n) (n0 : 0 ≤ n) (n1 : n ≤ 512) (hR : rowI W B = R) (hq : y * R = q) (q0 : 0 ≤ q) (q1 : q ≤ 4096) (hd : n.tdiv 8 = d) (d0 : 0 ≤ d) (d1 : d ≤ 64) (hr : n.tmod 8 = r) (r0 : 0 ≤ r) (r1 : r ≤ 7) (k0 : 0 ≤ 8 - B - r)
    (b0 : 0 ≤ b) (b1 : b ≤ 255) (JI : ∀ w, (Instr.index 9 (.string s) (.int .i64 (q + d))).run Try.prog w = .ok (.int .u8 b) w) : Calls Try.prog 57 #[.agg #[.int .i64 W, .int .i64 H, .int .i64 B, .string s], .int .i64 x, .int .i64 y] w fun e w' => e = .returned (.int .i64 (bitsV b (8 - B - r) B)) ∧ Below w.heap.size w w' := by
  have HR := Lib.hid (fun W' => show Calls Try.prog 55 #[.agg #[.int .i64 W, .int .i64 H, .int .i64 B, .string s]] W' fun e w' => e = .returned (.int .i64 R) ∧ Below W'.heap.size W' w' by have := row_any W H B s W' hW ⟨hB0, hB1⟩; rw [hR] at this; exact this)
  clear hR
  go_enter Try.func57, Try.ntmps57
  go_wp2_with fail
  have K := Blk.new w 23 #[.int .i64 W, .int .i64 H, .int .i64 B, .string s]
  have hbw : Below w.heap.size w (w.alloc (.cells #[.int .i64 W, .int .i64 H, .int .i64 B, .string s] 23)) := by (repeat' (first | exact Below.refl _ _ | exact Below.refl _ _ | refine balloc ?_ _ | refine Below.drew ?_ | refine below_drewN ?_ _ | refine bset ?_ (by first | omega | (simp <;> omega)) _))
  generalize hw2 : w.alloc (.cells #[.int .i64 W, .int .i64 H, .int .i64 B, .string s] 23) = w2 at *
  clear hw2
  have c0 := K.cell 0
  have c1 := K.cell 1
  have c2 := K.cell 2
  have c3 := K.cell 3
  have lK := K.lt
  simp only [List.getElem?_toArray, List.getElem?_cons_succ, List.getElem?_cons_zero] at c0 c1 c2 c3
  have u0 : ∀ u : Up w2, u.val.cell? ⟨w.heap.size, 0, none⟩ = some (.int .i64 W) := fun u => (u.cell lK).trans c0
  have u1 : ∀ u : Up w2, u.val.cell? ⟨w.heap.size, 1, none⟩ = some (.int .i64 H) := fun u => (u.cell lK).trans c1
  have u2 : ∀ u : Up w2, u.val.cell? ⟨w.heap.size, 2, none⟩ = some (.int .i64 B) := fun u => (u.cell lK).trans c2
  have u3 : ∀ u : Up w2, u.val.cell? ⟨w.heap.size, 3, none⟩ = some (.string s) := fun u => (u.cell lK).trans c3
  have HU := Lib.hid (fun u : Up w2 => up_of (u := u) (HR.out u.val))
  refine wp_region_up (by kernel_rfl) (by kernel_rfl) ?_
  repeat (go_big_quiet_step (fail))
  go_big_quiet_step (exact HU.out _)
  repeat (go_big_quiet_step (fail))
  refine wpQuiet_nil ?_
  rintro _ ⟨uq, rfl⟩
  replace K := K.below uq.ok lK
  replace hbw := btrans hbw uq.ok
  generalize hwx : uq.val = w3 at *
  clear hwx uq u0 u1 u2 u3 c0 c1 c2 c3 lK
  clear HU HR JI
  go_wp2_with fail
  have c0 := K.cell 0
  have c1 := K.cell 1
  have c2 := K.cell 2
  have c3 := K.cell 3
  have lK := K.lt
  simp only [List.getElem?_toArray, List.getElem?_cons_succ, List.getElem?_cons_zero] at c0 c1 c2 c3
  have u0 : ∀ u : Up w3, u.val.cell? ⟨w.heap.size, 0, none⟩ = some (.int .i64 W) := fun u => (u.cell lK).trans c0
  have u1 : ∀ u : Up w3, u.val.cell? ⟨w.heap.size, 1, none⟩ = some (.int .i64 H) := fun u => (u.cell lK).trans c1
  have u2 : ∀ u : Up w3, u.val.cell? ⟨w.heap.size, 2, none⟩ = some (.int .i64 B) := fun u => (u.cell lK).trans c2
  have u3 : ∀ u : Up w3, u.val.cell? ⟨w.heap.size, 3, none⟩ = some (.string s) := fun u => (u.cell lK).trans c3
  refine wp_region_up (by kernel_rfl) (by kernel_rfl) ?_
  repeat (go_big_quiet_step (fail))
  refine wpQuiet_nil ?_
  rintro _ ⟨uq, rfl⟩
  replace K := K.below uq.ok lK
  replace hbw := btrans hbw uq.ok
  generalize hwx : uq.val = w4 at *
  clear hwx uq u0 u1 u2 u3 c0 c1 c2 c3 lK
  go_wp2_with fail
  go_ret
  exact ⟨rfl, hbw⟩

set_option maxRecDepth 100000 in
set_option maxHeartbeats 1600000 in
theorem sample_may (W H B x y : Int) (s : ByteArray) (w : World) (hm : mayI W H B s.size = true) : Calls Try.prog 57 #[.agg #[.int .i64 W, .int .i64 H, .int .i64 B, .string s], .int .i64 x, .int .i64 y] w fun e w' => e = .returned (.int .i64 (sampV W H B s x y)) ∧ Below w.heap.size w w' := by
  by_cases g0 : x < 0
  · rw [show sampV W H B s x y = -1 by unfold sampV; rw [if_neg (by unfold inB; simp; omega)]]
    clear hm
    have K := Blk.new w 23 #[.int .i64 W, .int .i64 H, .int .i64 B, .string s]
    have hbw : Below w.heap.size w (w.alloc (.cells #[.int .i64 W, .int .i64 H, .int .i64 B, .string s] 23)) := by (repeat' (first | exact Below.refl _ _ | exact Below.refl _ _ | refine balloc ?_ _ | refine Below.drew ?_ | refine below_drewN ?_ _ | refine bset ?_ (by first | omega | (simp <;> omega)) _))
    go_enter Try.func57, Try.ntmps57
    go_wp2_with fail
    go_ret
    exact ⟨rfl, by (repeat' (first | exact hbw | exact Below.refl _ _ | refine balloc ?_ _ | refine Below.drew ?_ | refine below_drewN ?_ _ | refine bset ?_ (by first | omega | (simp <;> omega)) _))⟩
  by_cases g1 : W ≤ x
  · rw [show sampV W H B s x y = -1 by unfold sampV; rw [if_neg (by unfold inB; simp; omega)]]
    clear hm
    have K := Blk.new w 23 #[.int .i64 W, .int .i64 H, .int .i64 B, .string s]
    have hbw : Below w.heap.size w (w.alloc (.cells #[.int .i64 W, .int .i64 H, .int .i64 B, .string s] 23)) := by (repeat' (first | exact Below.refl _ _ | exact Below.refl _ _ | refine balloc ?_ _ | refine Below.drew ?_ | refine below_drewN ?_ _ | refine bset ?_ (by first | omega | (simp <;> omega)) _))
    go_enter Try.func57, Try.ntmps57
    go_wp2_with fail
    go_ret
    exact ⟨rfl, by (repeat' (first | exact hbw | exact Below.refl _ _ | refine balloc ?_ _ | refine Below.drew ?_ | refine below_drewN ?_ _ | refine bset ?_ (by first | omega | (simp <;> omega)) _))⟩
  by_cases g2 : y < 0
  · rw [show sampV W H B s x y = -1 by unfold sampV; rw [if_neg (by unfold inB; simp; omega)]]
    clear hm
    have K := Blk.new w 23 #[.int .i64 W, .int .i64 H, .int .i64 B, .string s]
    have hbw : Below w.heap.size w (w.alloc (.cells #[.int .i64 W, .int .i64 H, .int .i64 B, .string s] 23)) := by (repeat' (first | exact Below.refl _ _ | exact Below.refl _ _ | refine balloc ?_ _ | refine Below.drew ?_ | refine below_drewN ?_ _ | refine bset ?_ (by first | omega | (simp <;> omega)) _))
    go_enter Try.func57, Try.ntmps57
    go_wp2_with fail
    go_ret
    exact ⟨rfl, by (repeat' (first | exact hbw | exact Below.refl _ _ | refine balloc ?_ _ | refine Below.drew ?_ | refine below_drewN ?_ _ | refine bset ?_ (by first | omega | (simp <;> omega)) _))⟩
  by_cases g3 : H ≤ y
  · rw [show sampV W H B s x y = -1 by unfold sampV; rw [if_neg (by unfold inB; simp; omega)]]
    clear hm
    have K := Blk.new w 23 #[.int .i64 W, .int .i64 H, .int .i64 B, .string s]
    have hbw : Below w.heap.size w (w.alloc (.cells #[.int .i64 W, .int .i64 H, .int .i64 B, .string s] 23)) := by (repeat' (first | exact Below.refl _ _ | exact Below.refl _ _ | refine balloc ?_ _ | refine Below.drew ?_ | refine below_drewN ?_ _ | refine bset ?_ (by first | omega | (simp <;> omega)) _))
    go_enter Try.func57, Try.ntmps57
    go_wp2_with fail
    go_ret
    exact ⟨rfl, by (repeat' (first | exact hbw | exact Below.refl _ _ | refine balloc ?_ _ | refine Below.drew ?_ | refine below_drewN ?_ _ | refine bset ?_ (by first | omega | (simp <;> omega)) _))⟩
  have hx : 0 ≤ x ∧ x < W := ⟨by omega, by omega⟩
  have hy : 0 ≤ y ∧ y < H := ⟨by omega, by omega⟩
  obtain ⟨hB, hW, hH, hn⟩ := mayI_bd hm
  obtain ⟨p1, p2, p3, p4, p5, p6, p7, p8⟩ := place_in hm hx hy
  obtain ⟨p9, p10⟩ := byte_in s (y * rowI W B + x * B / 8) (by omega) p8
  rw [show sampV W H B s x y = bitsV (byteAt s (y * rowI W B + x * B / 8)) (8 - B - x * B % 8) B by unfold sampV; rw [if_pos (by unfold inB; simp; omega)]]
  exact sample_in W H B x y s w _ _ _ _ _ _ hW (by omega) (by omega) hx.1 hx.2 hy.1 hy.2 rfl p1.1 p1.2 rfl rfl p2.1 p2.2 p6 p3.1 p3.2 p7 p4.1 p4.2 p5 p9.1 p9.2 p10

set_option maxRecDepth 100000 in
set_option maxHeartbeats 1600000 in
theorem rsample_in (W H B x y : Int) (s : ByteArray) (w : World) (n R q d r b : Int) (hW : 1 ≤ W ∧ W ≤ 64) (hB0 : 1 ≤ B) (hB1 : B ≤ 8) (hx0 : 0 ≤ x) (hx1 : x < W) (hy0 : 0 ≤ y) (hy1 : y < H) (hn : x * B = n) (n0 : 0 ≤ n) (n1 : n ≤ 512) (hR : rowI W B = R) (hq : y * R = q) (q0 : 0 ≤ q) (q1 : q ≤ 4096) (hd : n.tdiv 8 = d) (d0 : 0 ≤ d) (d1 : d ≤ 64) (hr : n.tmod 8 = r) (r0 : 0 ≤ r) (r1 : r ≤ 7) (k0 : 0 ≤ 8 - B - r)
    (b0 : 0 ≤ b) (b1 : b ≤ 255) (JI : ∀ w, (Instr.index 9 (.string s) (.int .i64 (q + d))).run Try.prog w = .ok (.int .u8 b) w) (hm : mayI W H B s.size = true) (hs : (s.size : Int) ≤ 9223372036854775807) : Calls Try.prog 17 #[.agg #[.int .i64 W, .int .i64 H, .int .i64 B, .string s], .int .i64 x, .int .i64 y] w fun e w' => e = .returned (.int .i64 (bitsV b (8 - B - r) B)) ∧ Below w.heap.size w w' := by
  have HR := Lib.hid (fun W' => show Calls Try.prog 56 #[.agg #[.int .i64 W, .int .i64 H, .int .i64 B, .string s]] W' fun e w' => e = .returned (.int .i64 R) ∧ Below W'.heap.size W' w' by have := rrow_any W H B s W' hW ⟨hB0, hB1⟩; rw [hR] at this; exact this)
  have HM := Lib.hid (fun W' => show Calls Try.prog 15 #[.agg #[.int .i64 W, .int .i64 H, .int .i64 B, .string s]] W' fun e w' => e = .returned (.bool true) ∧ Below W'.heap.size W' w' by have := rmay37_any W H B s W' hs; rw [hm] at this; exact this)
  clear hm
  clear hR
  go_enter Try.func17, Try.ntmps17
  go_wp2_with fail
  have K := Blk.new w 23 #[.int .i64 W, .int .i64 H, .int .i64 B, .string s]
  have hbw : Below w.heap.size w (w.alloc (.cells #[.int .i64 W, .int .i64 H, .int .i64 B, .string s] 23)) := by (repeat' (first | exact Below.refl _ _ | exact Below.refl _ _ | refine balloc ?_ _ | refine Below.drew ?_ | refine below_drewN ?_ _ | refine bset ?_ (by first | omega | (simp <;> omega)) _))
  refine (HM.out _).mono ?_
  rintro e_ w2 ⟨rfl, hb1⟩
  replace K := K.below hb1 (by simp)
  replace hbw := btrans hbw hb1
  clear hb1 HM
  have c0 := K.cell 0
  have c1 := K.cell 1
  have c2 := K.cell 2
  have c3 := K.cell 3
  have lK := K.lt
  simp only [List.getElem?_toArray, List.getElem?_cons_succ, List.getElem?_cons_zero] at c0 c1 c2 c3
  go_wp2_with fail
  have u0 : ∀ u : Up w2, u.val.cell? ⟨w.heap.size, 0, none⟩ = some (.int .i64 W) := fun u => (u.cell lK).trans c0
  have u1 : ∀ u : Up w2, u.val.cell? ⟨w.heap.size, 1, none⟩ = some (.int .i64 H) := fun u => (u.cell lK).trans c1
  have u2 : ∀ u : Up w2, u.val.cell? ⟨w.heap.size, 2, none⟩ = some (.int .i64 B) := fun u => (u.cell lK).trans c2
  have u3 : ∀ u : Up w2, u.val.cell? ⟨w.heap.size, 3, none⟩ = some (.string s) := fun u => (u.cell lK).trans c3
  have HU := Lib.hid (fun u : Up w2 => up_of (u := u) (HR.out u.val))
  refine wp_region_up (by kernel_rfl) (by kernel_rfl) ?_
  repeat (go_big_quiet_step (fail))
  go_big_quiet_step (exact HU.out _)
  repeat (go_big_quiet_step (fail))
  refine wpQuiet_nil ?_
  rintro _ ⟨uq, rfl⟩
  replace K := K.below uq.ok lK
  replace hbw := btrans hbw uq.ok
  generalize hwx : uq.val = w3 at *
  clear hwx uq u0 u1 u2 u3 c0 c1 c2 c3 lK
  clear HU HR JI
  have c0 := K.cell 0
  have c1 := K.cell 1
  have c2 := K.cell 2
  have c3 := K.cell 3
  have lK := K.lt
  simp only [List.getElem?_toArray, List.getElem?_cons_succ, List.getElem?_cons_zero] at c0 c1 c2 c3
  go_wp2_with fail
  go_ret
  exact ⟨rfl, hbw⟩

set_option maxRecDepth 100000 in
set_option maxHeartbeats 1600000 in
theorem rsample_may (W H B x y : Int) (s : ByteArray) (w : World) (hm : mayI W H B s.size = true) (hs : (s.size : Int) ≤ 9223372036854775807) : Calls Try.prog 17 #[.agg #[.int .i64 W, .int .i64 H, .int .i64 B, .string s], .int .i64 x, .int .i64 y] w fun e w' => e = .returned (.int .i64 (sampV W H B s x y)) ∧ Below w.heap.size w w' := by
  have HM := Lib.hid (fun W' => show Calls Try.prog 15 #[.agg #[.int .i64 W, .int .i64 H, .int .i64 B, .string s]] W' fun e w' => e = .returned (.bool true) ∧ Below W'.heap.size W' w' by have := rmay37_any W H B s W' hs; rw [hm] at this; exact this)
  by_cases g0 : x < 0
  · rw [show sampV W H B s x y = -1 by unfold sampV; rw [if_neg (by unfold inB; simp; omega)]]
    clear hm
    have K := Blk.new w 23 #[.int .i64 W, .int .i64 H, .int .i64 B, .string s]
    have hbw : Below w.heap.size w (w.alloc (.cells #[.int .i64 W, .int .i64 H, .int .i64 B, .string s] 23)) := by (repeat' (first | exact Below.refl _ _ | exact Below.refl _ _ | refine balloc ?_ _ | refine Below.drew ?_ | refine below_drewN ?_ _ | refine bset ?_ (by first | omega | (simp <;> omega)) _))
    go_enter Try.func17, Try.ntmps17
    go_wp2_with fail
    refine (HM.out _).mono ?_
    rintro e_ w2 ⟨rfl, hb1⟩
    replace K := K.below hb1 (by simp)
    replace hbw := btrans hbw hb1
    clear hb1 HM
    have c0 := K.cell 0
    have c1 := K.cell 1
    have c2 := K.cell 2
    have c3 := K.cell 3
    have lK := K.lt
    simp only [List.getElem?_toArray, List.getElem?_cons_succ, List.getElem?_cons_zero] at c0 c1 c2 c3
    go_wp2_with fail
    go_ret
    exact ⟨rfl, by (repeat' (first | exact hbw | exact Below.refl _ _ | refine balloc ?_ _ | refine Below.drew ?_ | refine below_drewN ?_ _ | refine bset ?_ (by first | omega | (simp <;> omega)) _))⟩
  by_cases g1 : W ≤ x
  · rw [show sampV W H B s x y = -1 by unfold sampV; rw [if_neg (by unfold inB; simp; omega)]]
    clear hm
    have K := Blk.new w 23 #[.int .i64 W, .int .i64 H, .int .i64 B, .string s]
    have hbw : Below w.heap.size w (w.alloc (.cells #[.int .i64 W, .int .i64 H, .int .i64 B, .string s] 23)) := by (repeat' (first | exact Below.refl _ _ | exact Below.refl _ _ | refine balloc ?_ _ | refine Below.drew ?_ | refine below_drewN ?_ _ | refine bset ?_ (by first | omega | (simp <;> omega)) _))
    go_enter Try.func17, Try.ntmps17
    go_wp2_with fail
    refine (HM.out _).mono ?_
    rintro e_ w2 ⟨rfl, hb1⟩
    replace K := K.below hb1 (by simp)
    replace hbw := btrans hbw hb1
    clear hb1 HM
    have c0 := K.cell 0
    have c1 := K.cell 1
    have c2 := K.cell 2
    have c3 := K.cell 3
    have lK := K.lt
    simp only [List.getElem?_toArray, List.getElem?_cons_succ, List.getElem?_cons_zero] at c0 c1 c2 c3
    go_wp2_with fail
    go_ret
    exact ⟨rfl, by (repeat' (first | exact hbw | exact Below.refl _ _ | refine balloc ?_ _ | refine Below.drew ?_ | refine below_drewN ?_ _ | refine bset ?_ (by first | omega | (simp <;> omega)) _))⟩
  by_cases g2 : y < 0
  · rw [show sampV W H B s x y = -1 by unfold sampV; rw [if_neg (by unfold inB; simp; omega)]]
    clear hm
    have K := Blk.new w 23 #[.int .i64 W, .int .i64 H, .int .i64 B, .string s]
    have hbw : Below w.heap.size w (w.alloc (.cells #[.int .i64 W, .int .i64 H, .int .i64 B, .string s] 23)) := by (repeat' (first | exact Below.refl _ _ | exact Below.refl _ _ | refine balloc ?_ _ | refine Below.drew ?_ | refine below_drewN ?_ _ | refine bset ?_ (by first | omega | (simp <;> omega)) _))
    go_enter Try.func17, Try.ntmps17
    go_wp2_with fail
    refine (HM.out _).mono ?_
    rintro e_ w2 ⟨rfl, hb1⟩
    replace K := K.below hb1 (by simp)
    replace hbw := btrans hbw hb1
    clear hb1 HM
    have c0 := K.cell 0
    have c1 := K.cell 1
    have c2 := K.cell 2
    have c3 := K.cell 3
    have lK := K.lt
    simp only [List.getElem?_toArray, List.getElem?_cons_succ, List.getElem?_cons_zero] at c0 c1 c2 c3
    go_wp2_with fail
    go_ret
    exact ⟨rfl, by (repeat' (first | exact hbw | exact Below.refl _ _ | refine balloc ?_ _ | refine Below.drew ?_ | refine below_drewN ?_ _ | refine bset ?_ (by first | omega | (simp <;> omega)) _))⟩
  by_cases g3 : H ≤ y
  · rw [show sampV W H B s x y = -1 by unfold sampV; rw [if_neg (by unfold inB; simp; omega)]]
    clear hm
    have K := Blk.new w 23 #[.int .i64 W, .int .i64 H, .int .i64 B, .string s]
    have hbw : Below w.heap.size w (w.alloc (.cells #[.int .i64 W, .int .i64 H, .int .i64 B, .string s] 23)) := by (repeat' (first | exact Below.refl _ _ | exact Below.refl _ _ | refine balloc ?_ _ | refine Below.drew ?_ | refine below_drewN ?_ _ | refine bset ?_ (by first | omega | (simp <;> omega)) _))
    go_enter Try.func17, Try.ntmps17
    go_wp2_with fail
    refine (HM.out _).mono ?_
    rintro e_ w2 ⟨rfl, hb1⟩
    replace K := K.below hb1 (by simp)
    replace hbw := btrans hbw hb1
    clear hb1 HM
    have c0 := K.cell 0
    have c1 := K.cell 1
    have c2 := K.cell 2
    have c3 := K.cell 3
    have lK := K.lt
    simp only [List.getElem?_toArray, List.getElem?_cons_succ, List.getElem?_cons_zero] at c0 c1 c2 c3
    go_wp2_with fail
    go_ret
    exact ⟨rfl, by (repeat' (first | exact hbw | exact Below.refl _ _ | refine balloc ?_ _ | refine Below.drew ?_ | refine below_drewN ?_ _ | refine bset ?_ (by first | omega | (simp <;> omega)) _))⟩
  have hx : 0 ≤ x ∧ x < W := ⟨by omega, by omega⟩
  have hy : 0 ≤ y ∧ y < H := ⟨by omega, by omega⟩
  obtain ⟨hB, hW, hH, hn⟩ := mayI_bd hm
  obtain ⟨p1, p2, p3, p4, p5, p6, p7, p8⟩ := place_in hm hx hy
  obtain ⟨p9, p10⟩ := byte_in s (y * rowI W B + x * B / 8) (by omega) p8
  rw [show sampV W H B s x y = bitsV (byteAt s (y * rowI W B + x * B / 8)) (8 - B - x * B % 8) B by unfold sampV; rw [if_pos (by unfold inB; simp; omega)]]
  exact rsample_in W H B x y s w _ _ _ _ _ _ hW (by omega) (by omega) hx.1 hx.2 hy.1 hy.2 rfl p1.1 p1.2 rfl rfl p2.1 p2.2 p6 p3.1 p3.2 p7 p4.1 p4.2 p5 p9.1 p9.2 p10 hm hs

set_option maxRecDepth 100000 in
set_option maxHeartbeats 1600000 in
theorem Sample_any (W H B x y : Int) (s : ByteArray) (w : World) (hs : (s.size : Int) ≤ 9223372036854775807) : Calls Try.prog 16 #[.agg #[.int .i64 W, .int .i64 H, .int .i64 B, .string s], .int .i64 x, .int .i64 y] w fun e w' => e = .returned (.int .i64 (if mayI W H B s.size = true then sampV W H B s x y else -1)) ∧ Below w.heap.size w w' := by
  cases hm : mayI W H B s.size with
  | false =>
    have HM := Lib.hid (fun W' => show Calls Try.prog 14 #[.agg #[.int .i64 W, .int .i64 H, .int .i64 B, .string s]] W' fun e w' => e = .returned (.bool false) ∧ Below W'.heap.size W' w' by have := may37_any W H B s W' hs; rw [hm] at this; exact this)
    clear hm
    have K := Blk.new w 23 #[.int .i64 W, .int .i64 H, .int .i64 B, .string s]
    have hbw : Below w.heap.size w (w.alloc (.cells #[.int .i64 W, .int .i64 H, .int .i64 B, .string s] 23)) := by (repeat' (first | exact Below.refl _ _ | exact Below.refl _ _ | refine balloc ?_ _ | refine Below.drew ?_ | refine below_drewN ?_ _ | refine bset ?_ (by first | omega | (simp <;> omega)) _))
    rw [if_neg (by simp)]
    go_enter Try.func16, Try.ntmps16
    go_wp2_with fail
    refine (HM.out _).mono ?_
    rintro e_ w2 ⟨rfl, hb1⟩
    replace K := K.below hb1 (by simp)
    replace hbw := btrans hbw hb1
    clear hb1 HM
    have c0 := K.cell 0
    have c1 := K.cell 1
    have c2 := K.cell 2
    have c3 := K.cell 3
    have lK := K.lt
    simp only [List.getElem?_toArray, List.getElem?_cons_succ, List.getElem?_cons_zero] at c0 c1 c2 c3
    go_wp2_with fail
    go_ret
    exact ⟨rfl, hbw⟩
  | true =>
    have HM := Lib.hid (fun W' => show Calls Try.prog 14 #[.agg #[.int .i64 W, .int .i64 H, .int .i64 B, .string s]] W' fun e w' => e = .returned (.bool true) ∧ Below W'.heap.size W' w' by have := may37_any W H B s W' hs; rw [hm] at this; exact this)
    have HI := Lib.hid (fun W' => sample_may W H B x y s W' hm)
    clear hm
    have K := Blk.new w 23 #[.int .i64 W, .int .i64 H, .int .i64 B, .string s]
    have hbw : Below w.heap.size w (w.alloc (.cells #[.int .i64 W, .int .i64 H, .int .i64 B, .string s] 23)) := by (repeat' (first | exact Below.refl _ _ | exact Below.refl _ _ | refine balloc ?_ _ | refine Below.drew ?_ | refine below_drewN ?_ _ | refine bset ?_ (by first | omega | (simp <;> omega)) _))
    rw [if_pos rfl]
    go_enter Try.func16, Try.ntmps16
    go_wp2_with fail
    refine (HM.out _).mono ?_
    rintro e_ w2 ⟨rfl, hb1⟩
    replace K := K.below hb1 (by simp)
    replace hbw := btrans hbw hb1
    clear hb1 HM
    have c0 := K.cell 0
    have c1 := K.cell 1
    have c2 := K.cell 2
    have c3 := K.cell 3
    have lK := K.lt
    simp only [List.getElem?_toArray, List.getElem?_cons_succ, List.getElem?_cons_zero] at c0 c1 c2 c3
    go_wp2_with fail
    refine (HI.out _).mono ?_
    rintro e_ w3 ⟨rfl, hb1⟩
    replace hbw := btrans hbw hb1
    clear hb1 HI
    go_wp2_with fail
    go_ret
    exact ⟨rfl, hbw⟩

set_option maxRecDepth 100000 in
set_option maxHeartbeats 1600000 in
theorem rSample_any (W H B x y : Int) (s : ByteArray) (w : World) (hs : (s.size : Int) ≤ 9223372036854775807) : Calls Try.prog 17 #[.agg #[.int .i64 W, .int .i64 H, .int .i64 B, .string s], .int .i64 x, .int .i64 y] w fun e w' => e = .returned (.int .i64 (if mayI W H B s.size = true then sampV W H B s x y else -1)) ∧ Below w.heap.size w w' := by
  cases hm : mayI W H B s.size with
  | false =>
    have HM := Lib.hid (fun W' => show Calls Try.prog 15 #[.agg #[.int .i64 W, .int .i64 H, .int .i64 B, .string s]] W' fun e w' => e = .returned (.bool false) ∧ Below W'.heap.size W' w' by have := rmay37_any W H B s W' hs; rw [hm] at this; exact this)
    clear hm
    have K := Blk.new w 23 #[.int .i64 W, .int .i64 H, .int .i64 B, .string s]
    have hbw : Below w.heap.size w (w.alloc (.cells #[.int .i64 W, .int .i64 H, .int .i64 B, .string s] 23)) := by (repeat' (first | exact Below.refl _ _ | exact Below.refl _ _ | refine balloc ?_ _ | refine Below.drew ?_ | refine below_drewN ?_ _ | refine bset ?_ (by first | omega | (simp <;> omega)) _))
    rw [if_neg (by simp)]
    go_enter Try.func17, Try.ntmps17
    go_wp2_with fail
    refine (HM.out _).mono ?_
    rintro e_ w2 ⟨rfl, hb1⟩
    replace K := K.below hb1 (by simp)
    replace hbw := btrans hbw hb1
    clear hb1 HM
    have c0 := K.cell 0
    have c1 := K.cell 1
    have c2 := K.cell 2
    have c3 := K.cell 3
    have lK := K.lt
    simp only [List.getElem?_toArray, List.getElem?_cons_succ, List.getElem?_cons_zero] at c0 c1 c2 c3
    go_wp2_with fail
    go_ret
    exact ⟨rfl, hbw⟩
  | true =>
    have HM := Lib.hid (fun W' => show Calls Try.prog 15 #[.agg #[.int .i64 W, .int .i64 H, .int .i64 B, .string s]] W' fun e w' => e = .returned (.bool true) ∧ Below W'.heap.size W' w' by have := rmay37_any W H B s W' hs; rw [hm] at this; exact this)
    rw [if_pos rfl]
    exact rsample_may W H B x y s w hm hs

end Go.Proofs.Ytegpjjkbbdfggaa.im
