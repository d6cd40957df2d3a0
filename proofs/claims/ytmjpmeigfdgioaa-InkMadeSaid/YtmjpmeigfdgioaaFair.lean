/-
  The reference's fair. (PRUNE)
-/
import Derived.Test.YtmjpmeigfdgioaaRefMay30
namespace Go.Proofs.Ytmjpmeigfdgioaa.rg
set_option linter.unusedVariables false
set_option linter.unusedSimpArgs false
open Go.RowKit bs sp ik

set_option maxRecDepth 100000 in
set_option maxHeartbeats 1600000 in
theorem fair_yes (W H n c d : Nat) (A D : Option Addr) (R : Nat → Nat → Bool) (w : World) (hW : 1 ≤ W ∧ W ≤ 64) (hH : 1 ≤ H ∧ H ≤ 64) (hn : n = 3 * (W * H)) (hr : Rows w D H d (rowsOf W R)) :
    Calls Try.prog 38 #[.agg #[.int .i64 (W : Int), .int .i64 (H : Int), .slice A n c], .agg #[.int .i64 (W : Int), .int .i64 (H : Int), .slice D H d]] w fun e w' => e = .returned (.bool true) ∧ Below w.heap.size w w' := by
  have HM1 := Lib.hid (fun W' => may36_yes W H n c A W' hW hH hn)
  have HM2 := Lib.hid (fun W' (hW' : Below w.heap.size w W') => mayreg_yes W H d D R W' hW hH (hr.below hW'))
  have Kp := (Blk.new w 30 #[.int .i64 (W : Int), .int .i64 (H : Int), .slice A n c]).alloc (.cells #[.int .i64 (W : Int), .int .i64 (H : Int), .slice D H d] 35)
  have Kr := Blk.new (w.alloc (.cells #[.int .i64 (W : Int), .int .i64 (H : Int), .slice A n c] 30)) 35 #[.int .i64 (W : Int), .int .i64 (H : Int), .slice D H d]
  have s1 : ∀ (u : World) (o : Obj), (u.alloc o).heap.size = u.heap.size + 1 := fun u o => by simp
  simp only [s1] at Kr
  clear s1 hn hr hW hH
  go_enter Try.func38, Try.ntmps38
  go_wp2_with fail
  refine (HM1.out _).mono ?_
  rintro e_ w1 ⟨rfl, hb1⟩
  have hbw : Below w.heap.size w w1 := btrans (by (repeat' (first | exact Below.refl _ _ | exact Below.refl _ _ | refine balloc ?_ _ | refine Below.drew ?_ | refine below_drewN ?_ _ | refine bset ?_ (by first | omega | (simp <;> omega)) _))) hb1
  replace Kp := Kp.below hb1 (by first | (simp; done) | (simp; omega))
  replace Kr := Kr.below hb1 (by simp)
  have lp := Kp.lt
  have lr := Kr.lt
  have b0 := Kr.cell 0
  have b1 := Kr.cell 1
  have b2 := Kr.cell 2
  simp only [List.getElem?_toArray, List.getElem?_cons_succ, List.getElem?_cons_zero] at b0 b1 b2
  have HKp := Lib.hid Kp
  have HKr := Lib.hid Kr
  have HBW := Lib.hid hbw
  clear Kp Kr hbw hb1 HM1
  go_wp2_with fail
  refine (HM2.out _ HBW.out).mono ?_
  rintro e_ w2 ⟨rfl, hb1⟩
  have hbw := btrans HBW.out hb1
  have Kp := HKp.out.below hb1 lp
  have Kr := HKr.out.below hb1 lr
  clear HKp HKr HBW hb1 b0 b1 b2 lp lr HM2
  have a0 := Kp.cell 0
  have a1 := Kp.cell 1
  have b0 := Kr.cell 0
  have b1 := Kr.cell 1
  simp only [List.getElem?_toArray, List.getElem?_cons_succ, List.getElem?_cons_zero] at a0 a1 b0 b1
  have HBW := Lib.hid hbw
  clear Kp Kr hbw
  go_wp2_with fail
  go_ret
  exact ⟨rfl, HBW.out⟩

end Go.Proofs.Ytmjpmeigfdgioaa.rg
