/-
  Layer 36: known() returns true; the law InkBlends. (PRUNE)
-/
import Derived.Test.YtmjpmeigfdgioaaNew
namespace Go.Proofs.Ytmjpmeigfdgioaa.ik
set_option linter.unusedVariables false
set_option linter.unusedSimpArgs false
open Go.RowKit bs

theorem new_any (V G : Int) (w : World) (v0 : 1 ≤ V) (v1 : V ≤ 64) (g0 : 1 ≤ G) (g1 : G ≤ 64) :
    Calls Try.prog 28 #[.int .i64 V, .int .i64 G] w fun e w' => ∃ A n c, e = .returned (.tuple #[.agg #[.int .i64 V, .int .i64 G, .slice A n c], .int .i64 0]) ∧
      Bytes w' A n c (List.replicate (3 * (V.toNat * G.toNat)) 255) ∧ Below w.heap.size w w' := by
  obtain ⟨v, rfl⟩ := Int.eq_ofNat_of_zero_le (show 0 ≤ V by omega)
  obtain ⟨g, rfl⟩ := Int.eq_ofNat_of_zero_le (show 0 ≤ G by omega)
  exact new_yes v g w (by omega) (by omega)

theorem at_any (W H : Int) (A : Option Addr) (n c : Nat) (bs : List UInt8) (i j : Int) (w : World) (hr : Bytes w A n c bs) (hm : mayB W H n = true) (i0 : 0 ≤ i) (hi : i < W) (j0 : 0 ≤ j) (hj : j < H) :
    Calls Try.prog 22 #[.agg #[.int .i64 W, .int .i64 H, .slice A n c], .int .i64 i, .int .i64 j] w fun e w' => ∃ r g b : UInt8,
      e = .returned (.tuple #[.agg #[.int .u8 (r.toNat : Int), .int .u8 (g.toNat : Int), .int .u8 (b.toNat : Int), .int .u8 255], .bool true]) ∧
      r = bs.getD (3 * (j.toNat * W.toNat + i.toNat)) 0 ∧ g = bs.getD (3 * (j.toNat * W.toNat + i.toNat) + 1) 0 ∧ b = bs.getD (3 * (j.toNat * W.toNat + i.toNat) + 2) 0 ∧ Below w.heap.size w w' := by
  obtain ⟨i, rfl⟩ := Int.eq_ofNat_of_zero_le i0
  obtain ⟨j, rfl⟩ := Int.eq_ofNat_of_zero_le j0
  exact (at_yes W H A n c bs i j w hr hm hi hj).mono fun e w' ⟨he, hb⟩ => ⟨_, _, _, he, rfl, rfl, rfl, hb⟩

set_option maxRecDepth 100000 in
set_option maxHeartbeats 800000 in
theorem known_any (w : World) : Calls Try.prog 8 #[] w fun e w' => e = .returned (.bool true) ∧ Below w.heap.size w w' := by
  have k1 : blend 255 0 128 = 127 := by decide
  have k2 : blend 0 255 128 = 128 := by decide
  have k3 : mayB 2 1 6 = true := by decide
  go_enter Try.func8, Try.ntmps8
  go_wp2_with fail
  refine (new_any _ _ _ (by omega) (by omega) (by omega) (by omega)).mono ?_
  rintro e w1 ⟨A, n, c, rfl, hp, hb1⟩
  obtain rfl : n = 6 := hp.1.symm.trans (by simp)
  go_wp2_with fail
  refine (at_any _ _ _ _ _ _ _ _ _ (hp.below (by (repeat' (first | exact Below.refl _ _ | exact Below.refl _ _ | refine balloc ?_ _ | refine Below.drew ?_ | refine below_drewN ?_ _ | refine bset ?_ (by first | omega | (simp <;> omega)) _)))) (by decide) (by omega) (by omega) (by omega) (by omega)).mono ?_
  rintro e w2 ⟨r, g, b, rfl, hr, hg, hb, hb2⟩
  obtain rfl : r = 255 := by rw [hr]; decide
  obtain rfl : g = 255 := by rw [hg]; decide
  obtain rfl : b = 255 := by rw [hb]; decide
  clear hr hg hb
  obtain ⟨hc2, hf2⟩ := bcell hb2
  have hz2 : w1.heap.size < w2.heap.size := by have := hb2.size; simp at this; omega
  go_wp2_with (first
    | (go_at_call 21; refine (may_any _ _ _ _ _ _ (by omega)).mono ?_; rintro e w3 ⟨rfl, hb3⟩)
    | (go_at_call 9; refine (blend_any _ _ _ _ (by omega) (by omega) (by omega)).mono ?_; rintro e w' ⟨rfl, rfl⟩))
  go_ret
  exact ⟨rfl, by (repeat' (first | exact btrans (balloc (btrans (balloc hb1 _) hb2) _) hb3 | exact Below.refl _ _ | refine balloc ?_ _ | refine Below.drew ?_ | refine below_drewN ?_ _ | refine bset ?_ (by first | omega | (simp <;> omega)) _))⟩

set_option maxRecDepth 100000 in
set_option maxHeartbeats 800000 in
theorem blends_law (u o a : Int) (hu : 0 ≤ u ∧ u ≤ 255) (ho : 0 ≤ o ∧ o ≤ 255) (ha : 0 ≤ a ∧ a ≤ 255) (w : World) :
    Calls Try.prog 3 #[.int .u8 u, .int .u8 o, .int .u8 a] w fun e w' => e = .returned (.bool true) ∧ Below w.heap.size w w' := by
  obtain ⟨p, q, hp, hq, p0, q0, p1, q1, pq, hb⟩ := blend_names u o a hu ho ha
  obtain ⟨lo, hlo, lo1, lo2⟩ : ∃ lo, (if o < u then o else u) = lo ∧ lo ≤ u ∧ lo ≤ o := ⟨_, rfl, by split <;> omega, by split <;> omega⟩
  obtain ⟨hi, hhi, hi1, hi2⟩ : ∃ hi, (if u < o then o else u) = hi ∧ u ≤ hi ∧ o ≤ hi := ⟨_, rfl, by split <;> omega, by split <;> omega⟩
  obtain ⟨e1, e2⟩ := blend_between u o a lo hi ha lo1 lo2 hi1 hi2
  have e3 := blend_all u o hu ho
  have e4 := blend_none u o hu ho
  have e5 := blend_same u a hu
  have e6 := blend_swap u o a
  obtain ⟨b0, b1⟩ := blend_bd u o a hu ho ha
  have l0 : 0 ≤ lo ∧ lo ≤ 255 ∧ 0 ≤ hi ∧ hi ≤ 255 := by rw [← hlo, ← hhi]; split <;> split <;> omega
  obtain ⟨l0, l1, l2, l3⟩ := l0
  have f1 : 2 * (255 * blend u o a - (p + q)) ≤ 255 := by omega
  have f2 : 2 * (p + q - 255 * blend u o a) ≤ 255 := by omega
  generalize hv : blend u o a = v at *
  clear hb
  have hu' := Lib.hid hu
  have ho' := Lib.hid ho
  have ha' := Lib.hid ha
  obtain ⟨u0, u1⟩ := hu
  obtain ⟨o0, o1⟩ := ho
  obtain ⟨a0, a1⟩ := ha
  go_enter Try.func3, Try.ntmps3
  go_wp2_with (first
    | (go_at_call 8; refine (known_any _).mono ?_; rintro e w1 ⟨rfl, hb1⟩)
    | (go_at_call 9; refine (blend_any _ _ _ _ (by omega) (by omega) (by omega)).mono ?_; rintro e w' ⟨rfl, rfl⟩))
  go_ret
  exact ⟨ret_bool (by simp), hb1⟩
end Go.Proofs.Ytmjpmeigfdgioaa.ik
