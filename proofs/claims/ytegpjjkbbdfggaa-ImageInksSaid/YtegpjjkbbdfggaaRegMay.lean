/-
  Regions: side, May. (PRUNE)
-/
import Derived.Test.YtegpjjkbbdfggaaReg
import Derived.Test.YtegpjjkbbdfggaaInk
import Derived.BigRegion
namespace Go.Proofs.Ytegpjjkbbdfggaa.rg
set_option linter.unusedVariables false
set_option linter.unusedSimpArgs false
open Go.RowKit bs sp ik

theorem rside_any (n : Int) (w : World) :
    Calls Try.prog 111 #[.int .i64 n] w fun e w' => e = .returned (.bool (sideB n)) ∧ w = w' := by
  by_cases h1 : 1 ≤ n
  · go_enter Try.func111, Try.ntmps111
    go_wp2_with fail
    go_ret
    exact ⟨ret_bool (by unfold sideB; simp; omega), rfl⟩
  · go_enter Try.func111, Try.ntmps111
    go_wp2_with fail
    go_ret
    exact ⟨ret_bool (by unfold sideB; simp; omega), rfl⟩
theorem rside_yes (n : Nat) (h : 1 ≤ n ∧ n ≤ 64) (w : World) : Calls Try.prog 111 #[.int .i64 (n : Int)] w fun e w' => e = .returned (.bool true) ∧ w = w' := by
  have := rside_any (n : Int) w
  rw [sideB_true (by omega) (by omega)] at this
  exact this

set_option maxRecDepth 100000 in
set_option maxHeartbeats 1600000 in
theorem rmay_yes (W H c : Nat) (A : Option Addr) (L : Nat → List (Int × Int)) (w : World) (hW : 1 ≤ W ∧ W ≤ 64) (hH : 1 ≤ H ∧ H ≤ 64) (hL : ∀ j, j < H → mayB (L j) W = true) (hr : Rows w A H c L) :
    Calls Try.prog 72 #[.agg #[.int .i64 (W : Int), .int .i64 (H : Int), .slice A H c]] w fun e w' => e = .returned (.bool true) ∧ Below w.heap.size w w' := by
  have K := Blk.new w 51 #[.int .i64 (W : Int), .int .i64 (H : Int), .slice A H c]
  have hbw : Below w.heap.size w (w.alloc (.cells #[.int .i64 (W : Int), .int .i64 (H : Int), .slice A H c] 51)) := balloc (Below.refl _ _) _
  have HS1 := Lib.hid (rside_yes W hW)
  have HS2 := Lib.hid (rside_yes H hH)
  have HL := Lib.hid hL
  have HR := Lib.hid hr
  have HK := Lib.hid K
  have HBW := Lib.hid hbw
  clear hW hL hr K hbw
  go_enter Try.func72, Try.ntmps72
  go_wp2_with (go_at_call 111; first | (refine (HS1.out _).mono ?_; rintro e w' ⟨rfl, rfl⟩) | (refine (HS2.out _).mono ?_; rintro e w' ⟨rfl, rfl⟩))
  go_loopw [4, 26] (fun lv kv wr => ∃ k : Nat, k ≤ H ∧ kv = .int .i64 (k : Int) ∧ Blk wr w.heap.size 51 #[.int .i64 (W : Int), .int .i64 (H : Int), .slice A H c] ∧ Below w.heap.size w wr) (fun _ kv _ => H - (intOf kv).toNat)
  case atStart => exact ⟨0, by omega, rfl, HK.out, HBW.out⟩
  case round =>
    clear HK HBW
    obtain ⟨k, hk, rfl, K, hbw⟩ := hrel
    by_cases hlt : k < H
    · have d1 : decide ((k : Int) < (H : Int)) = true := by simp; omega
      obtain ⟨hcc, hat⟩ := HR.out.below hbw
      obtain ⟨b, o, rfl, hb, hat⟩ := hat (by omega)
      obtain ⟨hlen, Aj, cj, q1, q2⟩ := hat k hlt
      have c0 := K.cell 0
      have lK := K.lt
      simp only [List.getElem?_toArray, List.getElem?_cons_succ, List.getElem?_cons_zero] at c0
      have HM := Lib.hid (fun W' (hW' : Below wr.heap.size wr W') => may_any Aj _ cj (L k) W W' (q2.below hW') hlen)
      rw [HL.out k hlt] at HM
      generalize (L k).length = nj at *
      have HK := Lib.hid K
      have HBW := Lib.hid hbw
      clear K hbw hat hcc hlen
      go_wp2_with fail
      refine (HM.out _ (by (repeat' (first | exact Below.refl _ _ | exact Below.refl _ _ | refine balloc ?_ _ | refine Below.drew ?_ | refine below_drewN ?_ _ | refine bset ?_ (by first | omega | (simp <;> omega)) _)))).mono ?_
      rintro e w1 ⟨rfl, hb1⟩
      have K := HK.out.below hb1 lK
      have hbw := btrans HBW.out hb1
      clear HK HBW HM q1 q2 c0
      go_wp2_with fail
      go_roundw
      case rel => exact ⟨k + 1, by omega, by go_num, K, hbw⟩
      case measure => simp [intOf]; omega
    · obtain rfl : k = H := by omega
      have d1 : decide ((k : Int) < (k : Int)) = false := by simp
      go_wp2_with fail
      go_ret
      exact ⟨rfl, hbw⟩
end Go.Proofs.Ytegpjjkbbdfggaa.rg
