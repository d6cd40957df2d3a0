/-
  Layer 36: the contracts of May, New and At. (PRUNE)
-/
import Derived.Test.YtegpjjkbbdfggaaBlend
import Derived.Test.YtegpjjkbbdfggaaMem
namespace Go.Proofs.Ytegpjjkbbdfggaa.ik
set_option linter.unusedVariables false
set_option maxRecDepth 100000
set_option linter.unusedSimpArgs false
open Go.RowKit bs

def mayB (W H : Int) (n : Nat) : Bool := sideB W && sideB H && ((n : Int) == 3 * W * H)

theorem sideB_true {n : Int} (h0 : 1 ≤ n) (h1 : n ≤ 64) : sideB n = true := by unfold sideB; simp; omega
theorem sideB_false {n : Int} (h : n < 1 ∨ 64 < n) : sideB n = false := by unfold sideB; simp; omega

theorem may_any (W H : Int) (A : Option Addr) (n c : Nat) (w : World) (hn : n ≤ 9223372036854775807) :
    Calls Try.prog 71 #[.agg #[.int .i64 W, .int .i64 H, .slice A n c]] w fun e w' => e = .returned (.bool (mayB W H n)) ∧ Below w.heap.size w w' := by
  by_cases hW : 1 ≤ W ∧ W ≤ 64
  · have s1 := sideB_true hW.1 hW.2
    obtain ⟨w0, w1⟩ := hW
    by_cases hH : 1 ≤ H ∧ H ≤ 64
    · have s2 := sideB_true hH.1 hH.2
      obtain ⟨h0, h1⟩ := hH
      have hm : ∃ m, 3 * W * H = m ∧ 3 ≤ m ∧ m ≤ 12288 := by
        have a1 := Int.mul_le_mul (show 3 * W ≤ 192 by omega) h1 (by omega) (by omega)
        have a2 := Int.mul_le_mul (show 3 ≤ 3 * W by omega) h0 (by omega) (by omega)
        exact ⟨_, rfl, by omega, by omega⟩
      obtain ⟨m, hm, m0, m1⟩ := hm
      have he : mayB W H n = ((n : Int) == m) := by unfold mayB; rw [s1, s2, hm]; rfl
      rw [he]
      clear he
      go_enter Try.func71, Try.ntmps71
      go_wp2_with (go_at_call 73; refine (side_any _ _).mono ?_; rintro e w' ⟨rfl, rfl⟩)
      go_ret
      exact ⟨rfl, by (repeat' (first | exact Below.refl _ _ | exact Below.refl _ _ | refine balloc ?_ _ | refine Below.drew ?_ | refine below_drewN ?_ _ | refine bset ?_ (by first | omega | (simp <;> omega)) _))⟩
    · have s2 : sideB H = false := sideB_false (by omega)
      have he : mayB W H n = false := by unfold mayB; rw [s1, s2]; rfl
      rw [he]
      clear he
      go_enter Try.func71, Try.ntmps71
      go_wp2_with (go_at_call 73; refine (side_any _ _).mono ?_; rintro e w' ⟨rfl, rfl⟩)
      go_ret
      exact ⟨rfl, by (repeat' (first | exact Below.refl _ _ | exact Below.refl _ _ | refine balloc ?_ _ | refine Below.drew ?_ | refine below_drewN ?_ _ | refine bset ?_ (by first | omega | (simp <;> omega)) _))⟩
  · have s1 : sideB W = false := sideB_false (by omega)
    have he : mayB W H n = false := by unfold mayB; rw [s1]; rfl
    rw [he]
    clear he
    go_enter Try.func71, Try.ntmps71
    go_wp2_with (go_at_call 73; refine (side_any _ _).mono ?_; rintro e w' ⟨rfl, rfl⟩)
    go_ret
    exact ⟨rfl, by (repeat' (first | exact Below.refl _ _ | exact Below.refl _ _ | refine balloc ?_ _ | refine Below.drew ?_ | refine below_drewN ?_ _ | refine bset ?_ (by first | omega | (simp <;> omega)) _))⟩

set_option maxHeartbeats 800000 in
theorem at_yes (W H : Int) (A : Option Addr) (n c : Nat) (bs : List UInt8) (i j : Nat) (w : World) (hr : Bytes w A n c bs) (hm : mayB W H n = true) (hi : (i : Int) < W) (hj : (j : Int) < H) :
    Calls Try.prog 36 #[.agg #[.int .i64 W, .int .i64 H, .slice A n c], .int .i64 i, .int .i64 j] w fun e w' =>
      e = .returned (.tuple #[.agg #[.int .u8 ((bs.getD (3 * (j * W.toNat + i)) 0).toNat : Int), .int .u8 ((bs.getD (3 * (j * W.toNat + i) + 1) 0).toNat : Int), .int .u8 ((bs.getD (3 * (j * W.toNat + i) + 2) 0).toNat : Int), .int .u8 255], .bool true]) ∧ Below w.heap.size w w' := by
  have hmm := hm
  simp only [mayB, sideB, Bool.and_eq_true, decide_eq_true_eq, beq_iff_eq] at hmm
  obtain ⟨⟨⟨w0, w1⟩, h0, h1⟩, hn⟩ := hmm
  obtain ⟨V, rfl⟩ := Int.eq_ofNat_of_zero_le (show 0 ≤ W by omega)
  obtain ⟨G, rfl⟩ := Int.eq_ofNat_of_zero_le (show 0 ≤ H by omega)
  have hnn : n = 3 * V * G := by have h3 : ((3 * V * G : Nat) : Int) = 3 * (V : Int) * (G : Int) := by push_cast; rfl
                                 omega
  have hp : j * V + i < V * G := by
    have a1 : (j + 1) * V ≤ G * V := Nat.mul_le_mul_right _ (by omega)
    rw [Nat.add_mul, Nat.mul_comm G V] at a1
    omega
  have hq : V * G ≤ 4096 := Nat.mul_le_mul (show V ≤ 64 by omega) (show G ≤ 64 by omega)
  have hq3 : 3 * V * G = 3 * (V * G) := Nat.mul_assoc _ _ _
  obtain ⟨b, o, rfl, hb, hc⟩ := hr.at_ (by omega)
  simp only [Int.toNat_natCast]
  have hcell : ∀ t, t < 3 → w.cell? ⟨b, o + (3 * (j * V + i) + t), none⟩ = some (.int .u8 ((bs.getD (3 * (j * V + i) + t) 0).toNat : Int)) := fun t ht => hc _ (by omega)
  have c0 := hcell 0 (by omega)
  have c1 := hcell 1 (by omega)
  have c2 := hcell 2 (by omega)
  rw [Nat.add_zero] at c0
  have HC : Hid (n = 3 * V * G) := hnn
  have hn9 : n ≤ 12288 := by omega
  have hk9 : 3 * (j * V + i) + 2 < n := by omega
  clear hc hcell hn hr hnn hq3
  generalize hk : j * V + i = k at *
  have hk' : (j : Int) * (V : Int) + (i : Int) = (k : Int) := by rw [← hk]; push_cast; rfl
  have HK := Lib.hid hk
  clear hk
  go_enter Try.func36, Try.ntmps36
  go_wp2_with (go_at_call 71; refine (may_any _ _ _ _ _ _ (by omega)).mono ?_; rintro e w1 ⟨rfl, hb1⟩; obtain ⟨hcc, hff⟩ := bcell hb1)
  have hbw : Below w.heap.size w w1 := btrans (by (repeat' (first | exact Below.refl _ _ | exact Below.refl _ _ | refine balloc ?_ _ | refine Below.drew ?_ | refine below_drewN ?_ _ | refine bset ?_ (by first | omega | (simp <;> omega)) _))) hb1
  have d0 := (hbw.cell (p := ⟨b, o + 3 * k, none⟩) hb).trans c0
  have d1 := (hbw.cell (p := ⟨b, o + (3 * k + 1), none⟩) hb).trans c1
  have d2 := (hbw.cell (p := ⟨b, o + (3 * k + 2), none⟩) hb).trans c2
  clear c0 c1 c2
  go_region
  go_wp2
  have K := ((Blk.new (w.alloc (.cells #[.int .i64 V, .int .i64 G, .slice (some ⟨b, o, none⟩) n c] 46)) 62 #[.int .u8 0, .int .u8 0, .int .u8 0, .int .u8 0]).below hb1 (by simp))
  have hs1 : (w.alloc (.cells #[.int .i64 V, .int .i64 G, .slice (some ⟨b, o, none⟩) n c] 46)).heap.size = w.heap.size + 1 := by simp
  rw [hs1] at K
  have K4 := (((K.set_ 0 (.int .u8 ((bs.getD (3 * k) 0).toNat : Int))).set_ 1 (.int .u8 ((bs.getD (3 * k + 1) 0).toNat : Int))).set_ 2 (.int .u8 ((bs.getD (3 * k + 2) 0).toNat : Int))).set_ 3 (.int .u8 255)
  refine ret_struct2 (g := w.heap.size + 1) (t := 62) (cs := #[.int .u8 ((bs.getD (3 * k) 0).toNat : Int), .int .u8 ((bs.getD (3 * k + 1) 0).toNat : Int), .int .u8 ((bs.getD (3 * k + 2) 0).toNat : Int), .int .u8 255]) rfl rfl ?_ Try.underlying62 rfl rfl rfl ?_
  · first | exact K4 | exact K4.drew
  · exact ⟨rfl, by (repeat' (first | exact hbw | exact Below.refl _ _ | refine balloc ?_ _ | refine Below.drew ?_ | refine below_drewN ?_ _ | refine bset ?_ (by first | omega | (simp <;> omega)) _))⟩
end Go.Proofs.Ytegpjjkbbdfggaa.ik
