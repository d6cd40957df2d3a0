/-
  Layer 39: Put of a page that may not be; Take of too many bytes; any page, any bytes.
-/
import Derived.Test.YtfmkdccpgkbnoaaLeafT
namespace Go.Proofs.Ytfmkdccpgkbnoaa.lf
set_option linter.unusedVariables false
set_option linter.unusedSimpArgs false
open Go.RowKit bs rg

theorem mayB_inv {W H : Int} {n : Nat} (h : ik.mayB W H n = true) : ∃ V G : Nat, W = (V : Int) ∧ H = (G : Int) ∧ (1 ≤ V ∧ V ≤ 64) ∧ (1 ≤ G ∧ G ≤ 64) ∧ n = 3 * (V * G) := by
  unfold ik.mayB ik.sideB at h
  simp only [Bool.and_eq_true, decide_eq_true_eq] at h
  obtain ⟨⟨⟨w0, w1⟩, h0, h1⟩, h2⟩ := h
  have h2' : (n : Int) = 3 * W * H := by simpa using h2
  clear h2
  obtain ⟨V, rfl⟩ : ∃ V : Nat, W = (V : Int) := ⟨W.toNat, by omega⟩
  obtain ⟨G, rfl⟩ : ∃ G : Nat, H = (G : Int) := ⟨H.toNat, by omega⟩
  refine ⟨V, G, rfl, rfl, by omega, by omega, ?_⟩
  have : (3 * (V : Int) * (G : Int)) = ((3 * (V * G) : Nat) : Int) := by push_cast; rw [Int.mul_assoc]
  rw [this] at h2'
  exact Int.ofNat_inj.mp h2'

set_option maxRecDepth 100000 in
set_option maxHeartbeats 800000 in
theorem lput_no (W H : Int) (A : Option Addr) (n c : Nat) (w : World) (hn : n ≤ 9223372036854775807) (hm : ik.mayB W H n = false) :
    Calls Try.prog 13 #[.agg #[.int .i64 W, .int .i64 H, .slice A n c]] w fun e w' => e = .returned (.tuple #[.slice none 0 0, .int .i64 1]) ∧ Below w.heap.size w w' := by
  have HM := Lib.hid (fun W' => ik.may_any W H A n c W' hn)
  rw [hm] at HM
  clear hm
  go_enter Try.func13, Try.ntmps13
  go_wp2_with fail
  refine (HM.out _).mono ?_
  rintro e_ w1 ⟨rfl, hb⟩
  have HB := Lib.hid (btrans (balloc (Below.refl _ _) _) hb)
  clear hb
  go_wp2_with fail
  go_ret2
  exact ⟨rfl, HB.out⟩
set_option maxRecDepth 100000 in
set_option maxHeartbeats 800000 in
theorem ltake_long (A : Option Addr) (n c : Nat) (w : World) (hn : 12356 < n) :
    Calls Try.prog 15 #[.slice A n c] w fun e w' => e = .returned (.tuple #[.agg #[.int .i64 0, .int .i64 0, .slice none 0 0], .int .i64 5]) ∧ Below w.heap.size w w' := by
  have h1 : decide ((12356 : Int) < (n : Int)) = true := by simp; omega
  go_enter Try.func15, Try.ntmps15
  go_wp2_with fail
  have K := Blk.new w 24 #[.int .i64 0, .int .i64 0, .slice none 0 0]
  refine ret_struct2 (g := w.heap.size) (t := 24) (cs := #[.int .i64 0, .int .i64 0, .slice none 0 0]) rfl rfl ?_ Try.underlying24 rfl rfl rfl ?_
  · exact K
  · exact ⟨rfl, by (repeat' (first | exact Below.refl _ _ | exact Below.refl _ _ | refine balloc ?_ _ | refine Below.drew ?_ | refine below_drewN ?_ _ | refine bset ?_ (by first | omega | (simp <;> omega)) _))⟩
/-- any bytes that the function can take -/
theorem ltake_cases (l : List UInt8) : (∃ V G pix, (1 ≤ V ∧ V ≤ 64) ∧ (1 ≤ G ∧ G ≤ 64) ∧ pix.length = 3 * (V * G) ∧ takeB l = (V, G, pix, ([], 0)) ∧ putL V G pix = l) ∨ (takeB l).2.2.2.2 = 3 ∨ (takeB l).2.2.2.2 = 4 := by
  obtain ⟨V, G, pix, sf, ht⟩ : ∃ V G pix sf, takeB l = (V, G, pix, sf) := ⟨_, _, _, _, rfl⟩
  by_cases h0 : sf.2 = 0
  · left
    obtain ⟨hV, hG, hpl, hcp⟩ := takeB_inv ht h0
    have ht2 := takeB_put hV hG pix hpl
    rw [← hcp] at ht2
    exact ⟨V, G, pix, hV, hG, by rw [hpl, three_mul], ht2, hcp.symm⟩
  · right
    have he := takeB_er l
    rw [ht] at he ⊢
    rcases he with he | he
    · exact absurd he h0
    · exact he
/-- Take of bytes that are no page's, of any length -/
theorem ltake_none (A : Option Addr) (n c : Nat) (l : List UInt8) (w : World) (hb : LB w A n c l) (er : Int) (he : (12356 < n ∧ er = 5) ∨ (n ≤ 12356 ∧ er ≠ 0 ∧ (takeB l).2.2.2.2 = er)) :
    Calls Try.prog 15 #[.slice A n c] w fun e w' => e = .returned (.tuple #[.agg #[.int .i64 0, .int .i64 0, .slice none 0 0], .int .i64 er]) ∧ Below w.heap.size w w' := by
  rcases he with ⟨h1, rfl⟩ | ⟨h1, h2, h3⟩
  · exact ltake_long A n c w h1
  · exact ltake_bad A n c l w h1 hb er h2 h3
end Go.Proofs.Ytfmkdccpgkbnoaa.lf
