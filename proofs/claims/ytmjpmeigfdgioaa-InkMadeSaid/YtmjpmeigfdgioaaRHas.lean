/-
  region.Has of a pixel of the page. (PRUNE)
-/
import Derived.Test.YtmjpmeigfdgioaaRegMay
namespace Go.Proofs.Ytmjpmeigfdgioaa.rg
set_option linter.unusedVariables false
set_option linter.unusedSimpArgs false
open Go.RowKit bs sp ik

set_option maxRecDepth 100000 in
set_option maxHeartbeats 1600000 in
theorem rhas_in (W H d i j : Nat) (D : Option Addr) (R : Nat → Nat → Bool) (w : World) (hW : 1 ≤ W ∧ W ≤ 64) (hH : 1 ≤ H ∧ H ≤ 64) (hr : Rows w D H d (rowsOf W R)) (hi : i < W) (hj : j < H)
    (hhas : ∀ (A : Option Addr) (n c : Nat) (l : List (Int × Int)) (W' : World), Runs W' A n c l → n ≤ 9223372036854775807 → Calls Try.prog 45 #[.slice A n c, .int .i64 (i : Int)] W' fun e w' => e = .returned (.bool (inRuns l i)) ∧ Below W'.heap.size W' w') :
    Calls Try.prog 23 #[.agg #[.int .i64 (W : Int), .int .i64 (H : Int), .slice D H d], .int .i64 (i : Int), .int .i64 (j : Int)] w fun e w' => e = .returned (.bool (R j i)) ∧ Below w.heap.size w w' := by
  have HM1 := Lib.hid (fun W' (hW' : Below w.heap.size w W') => rmay_yes W H d D _ W' hW hH (fun j _ => rowsOf_mayB W R j hW.2) (hr.below hW'))
  obtain ⟨hd, hc⟩ := hr
  obtain ⟨b, o, rfl, hbl, hc⟩ := hc (by omega)
  obtain ⟨hl, Aj, cj, q1, q2⟩ := hc j hj
  have hin : inRuns (rowsOf W R j) i = R j i := by rw [rowsOf_in]; simp [hi]
  have HH := Lib.hid (fun W' (hW' : Below w.heap.size w W') => hin ▸ hhas Aj _ cj (rowsOf W R j) W' (q2.below hW') hl)
  generalize (rowsOf W R j).length = nj at *
  have K := Blk.new w 35 #[.int .i64 (W : Int), .int .i64 (H : Int), .slice (some ⟨b, o, none⟩) H d]
  have HQ := Lib.hid q1
  have d1 : decide ((0 : Int) ≤ (j : Int)) = true := by simp
  have d2 : decide ((j : Int) < (H : Int)) = true := by simp; omega
  have d3 : (j : Int) < (H : Int) := by omega
  clear hc hl q1 q2 hin hhas hW hH
  go_enter Try.func23, Try.ntmps23
  go_wp2_with fail
  refine (HM1.out _ (by (repeat' (first | exact Below.refl _ _ | exact Below.refl _ _ | refine balloc ?_ _ | refine Below.drew ?_ | refine below_drewN ?_ _ | refine bset ?_ (by first | omega | (simp <;> omega)) _)))).mono ?_
  rintro e_ w1 ⟨rfl, hb1⟩
  have hbw : Below w.heap.size w w1 := btrans (by (repeat' (first | exact Below.refl _ _ | exact Below.refl _ _ | refine balloc ?_ _ | refine Below.drew ?_ | refine below_drewN ?_ _ | refine bset ?_ (by first | omega | (simp <;> omega)) _))) hb1
  replace K := K.below hb1 (by first | (simp; done) | (simp; omega))
  have a1 := K.cell 1
  have a2 := K.cell 2
  simp only [List.getElem?_toArray, List.getElem?_cons_succ, List.getElem?_cons_zero] at a1 a2
  have x1 := (hbw.cell (p := ⟨b, o + j, none⟩) hbl).trans HQ.out
  have HBW := Lib.hid hbw
  clear K hbw hb1 HM1
  go_wp2_with fail
  refine (HH.out _ HBW.out).mono ?_
  rintro e_ w2 ⟨rfl, hb2⟩
  have hbw := btrans HBW.out hb2
  have HB2 := Lib.hid hbw
  clear hbw hb2 HBW a1 a2 x1 HH
  go_wp2_with fail
  go_ret
  exact ⟨rfl, HB2.out⟩
end Go.Proofs.Ytmjpmeigfdgioaa.rg
