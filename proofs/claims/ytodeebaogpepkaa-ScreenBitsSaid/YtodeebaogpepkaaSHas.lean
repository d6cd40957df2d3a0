/-
  cover.Has of a mask; ink.At of a page given as a function. (PRUNE)
-/
import Derived.Test.YtodeebaogpepkaaSBits
import Derived.Test.YtodeebaogpepkaaMaskOf
import Derived.Test.YtodeebaogpepkaaPut
namespace Go.Proofs.Ytodeebaogpepkaa.rg
set_option linter.unusedVariables false
set_option linter.unusedSimpArgs false
open Go.RowKit bs sp ik

set_option maxRecDepth 100000 in
set_option maxHeartbeats 1600000 in
theorem chas_yes (W H q c i j : Nat) (A : Option Addr) (B : Nat → Int) (w : World) (hW : 1 ≤ W ∧ W ≤ 64) (hH : 1 ≤ H ∧ H ≤ 64) (hq : q = W * H) (hp : Pg w A q c B) (hB : ∀ j, j < q → B j = 0 ∨ B j = 1) (hi : i < W) (hj : j < H) :
    Calls Try.prog 36 #[.agg #[.int .i64 (W : Int), .int .i64 (H : Int), .slice A q c], .int .i64 (i : Int), .int .i64 (j : Int)] w fun e w' => e = .returned (.bool (B (j * W + i) == 1)) ∧ Below w.heap.size w w' := by
  have hpx := pix_in hj hi
  obtain ⟨m, hm⟩ : ∃ m, j * W = m := ⟨_, rfl⟩
  have hm3 : (j : Int) * (W : Int) = (m : Int) := by rw [← hm]; push_cast; rfl
  rw [hm] at hpx ⊢
  have hs := page_size hW hH
  rw [← hq] at hs hpx
  obtain ⟨hqc, b, o, rfl, hbl, hbc⟩ := id hp
  have HM1 := Lib.hid (fun W' (hW' : Below w.heap.size w W') => cmay_yes W H q c (some ⟨b, o, none⟩) B W' hW hH hq (hp.below hW') (fun j hj => by rcases hB j hj with h | h <;> omega))
  have K := Blk.new w 36 #[.int .i64 (W : Int), .int .i64 (H : Int), .slice (some ⟨b, o, none⟩) q c]
  obtain ⟨c1, _, _⟩ := hbc (m + i) (by omega)
  obtain ⟨y, hy⟩ : ∃ y, B (m + i) = y := ⟨_, rfl⟩
  rw [hy] at c1 ⊢
  have HC := Lib.hid c1
  have d1 : decide ((0 : Int) ≤ (i : Int)) = true := by simp
  have d2 : decide ((i : Int) < (W : Int)) = true := by simp; omega
  have d3 : decide ((0 : Int) ≤ (j : Int)) = true := by simp
  have d4 : decide ((j : Int) < (H : Int)) = true := by simp; omega
  have j2 : ((m : Int) + (i : Int)).toNat = m + i := by omega
  have j3 : (m : Int) + (i : Int) < (q : Int) := by omega
  clear hp hB hW hH hq hbc c1 hy hm
  go_enter Try.func36, Try.ntmps36
  go_wp2_with fail
  refine (HM1.out _ (by (repeat' (first | exact Below.refl _ _ | exact Below.refl _ _ | refine balloc ?_ _ | refine Below.drew ?_ | refine below_drewN ?_ _ | refine bset ?_ (by first | omega | (simp <;> omega)) _)))).mono ?_
  rintro e_ w1 ⟨rfl, hb1⟩
  have hbw : Below w.heap.size w w1 := btrans (by (repeat' (first | exact Below.refl _ _ | exact Below.refl _ _ | refine balloc ?_ _ | refine Below.drew ?_ | refine below_drewN ?_ _ | refine bset ?_ (by first | omega | (simp <;> omega)) _))) hb1
  replace K := K.below hb1 (by first | (simp; done) | (simp; omega))
  have a0 := K.cell 0
  have a1 := K.cell 1
  have a2 := K.cell 2
  simp only [List.getElem?_toArray, List.getElem?_cons_succ, List.getElem?_cons_zero] at a0 a1 a2
  have x1 := (hbw.cell (p := ⟨b, o + (m + i), none⟩) hbl).trans HC.out
  have HBW := Lib.hid hbw
  clear K hbw hb1 HM1
  go_wp2_with fail
  go_ret
  exact ⟨rfl, HBW.out⟩

theorem at_pg (W H N c i j : Nat) (A : Option Addr) (B : Nat → Int) (w : World) (hW : 1 ≤ W ∧ W ≤ 64) (hH : 1 ≤ H ∧ H ≤ 64) (hN : N = 3 * (W * H)) (hp : Pg w A N c B) (hi : i < W) (hj : j < H) :
    Calls Try.prog 35 #[.agg #[.int .i64 (W : Int), .int .i64 (H : Int), .slice A N c], .int .i64 (i : Int), .int .i64 (j : Int)] w fun e w' =>
      e = .returned (.tuple #[.agg #[.int .u8 (B (3 * (j * W + i))), .int .u8 (B (3 * (j * W + i) + 1)), .int .u8 (B (3 * (j * W + i) + 2)), .int .u8 255], .bool true]) ∧ Below w.heap.size w w' := by
  have hpx := pix_in hj hi
  rw [← hN] at hpx
  have hm := pmay_yes hW hH
  rw [← hN] at hm
  refine (at_yes (W : Int) (H : Int) A N c (listB N B) i j w hp.bytes hm (by omega) (by omega)).mono ?_
  rintro e w' ⟨he, hb⟩
  refine ⟨?_, hb⟩
  rw [he, Int.toNat_natCast, listB_getD N B _ (by omega) (hp.bd _ (by omega)), listB_getD N B _ (by omega) (hp.bd _ (by omega)), listB_getD N B _ (by omega) (hp.bd _ (by omega))]
end Go.Proofs.Ytodeebaogpepkaa.rg
