/-
  Regions: Less, Join, Rect, All, one, Band. (PRUNE)
-/
import Derived.Test.YtfmkdccpgkbnoaaRegOps
namespace Go.Proofs.Ytfmkdccpgkbnoaa.rg
set_option linter.unusedVariables false
set_option linter.unusedSimpArgs false
open Go.RowKit bs sp ik
theorem Runs.litR (w : World) (l : List (Int × Int)) (t : TypeId) (c : Nat) (hc : l.length ≤ c) : Runs (w.alloc (.cells (flat l).toArray t)) (some ⟨w.heap.size, 0, none⟩) l.length c l := by
  have K := Blk.new w t (flat l).toArray
  refine ⟨rfl, hc, fun _ => ⟨w.heap.size, 0, rfl, K.lt, fun j hj => ?_⟩⟩
  obtain ⟨e1, e2⟩ := flat_get l j hj
  rw [K.cell, K.cell]
  simp only [Nat.zero_add, List.getElem?_toArray]
  exact ⟨e1, e2⟩
/-- a row of a rectangle -/
def rectRow (x0 y0 x1 y1 : Int) (j : Nat) : List (Int × Int) := if (j : Int) < y0 ∨ y1 ≤ (j : Int) then [] else [(x0, x1)]
theorem rectRow_out {x0 y0 x1 y1 : Int} {j : Nat} (h : (j : Int) < y0 ∨ y1 ≤ (j : Int)) : rectRow x0 y0 x1 y1 j = [] := if_pos h
theorem rectRow_in {x0 y0 x1 y1 : Int} {j : Nat} (h : ¬ ((j : Int) < y0 ∨ y1 ≤ (j : Int))) : rectRow x0 y0 x1 y1 j = [(x0, x1)] := if_neg h
/-- a rectangle's pixels -/
def rectSet (x0 y0 x1 y1 : Int) (j i : Nat) : Bool := decide (y0 ≤ (j : Int)) && decide ((j : Int) < y1) && (decide (x0 ≤ (i : Int)) && decide ((i : Int) < x1))
theorem norm_rect (W : Nat) (x0 y0 x1 y1 : Int) (j : Nat) (hW : W ≤ 64) : norm (rectRow x0 y0 x1 y1 j) W = rowsOf W (rectSet x0 y0 x1 y1) j := by
  unfold norm rowsOf
  rw [show (max 0 (min (W : Int) 64)).toNat = W by omega]
  refine rl_ext W fun i hi => ?_
  unfold rectSet
  by_cases h : (j : Int) < y0 ∨ y1 ≤ (j : Int)
  · rw [rectRow_out h]
    have e : (decide (y0 ≤ (j : Int)) && decide ((j : Int) < y1)) = false := by simp; omega
    rw [e]
    simp [inRuns]
  · rw [rectRow_in h]
    have e : (decide (y0 ≤ (j : Int)) && decide ((j : Int) < y1)) = true := by simp; omega
    rw [e]
    simp [inRuns]
set_option maxRecDepth 100000 in
set_option maxHeartbeats 3200000 in
theorem rect1_any (H xB zB yB tB j : Nat) (x0 y0 x1 y1 : Int) (w : World) (hj : j < H) (hH : H ≤ 64)
    (Kx : Blk w xB 3 #[.int .i64 x0]) (Kz : Blk w zB 3 #[.int .i64 y0]) (Ky : Blk w yB 3 #[.int .i64 x1]) (Kt : Blk w tB 3 #[.int .i64 y1]) :
    Calls Try.prog 52 #[.int .i64 (j : Int), .pointer (some ⟨zB, 0, none⟩), .pointer (some ⟨tB, 0, none⟩), .pointer (some ⟨xB, 0, none⟩), .pointer (some ⟨yB, 0, none⟩)] w fun e w' => ∃ A n c, e = .returned (.slice A n c) ∧ n ≤ 9223372036854775807 ∧ Runs w' A n c (rectRow x0 y0 x1 y1 j) ∧ Below w.heap.size w w' := by
  have e1 := Kx.cell 0
  have e2 := Kz.cell 0
  have e3 := Ky.cell 0
  have e4 := Kt.cell 0
  simp only [List.getElem?_toArray, List.getElem?_cons_succ, List.getElem?_cons_zero] at e1 e2 e3 e4
  clear Kx Kz Ky Kt
  by_cases h1 : (j : Int) < y0
  · have d1 : decide ((j : Int) < y0) = true := by simp; omega
    go_enter Try.func52, Try.ntmps52
    go_wp2_with fail
    go_ret
    rw [rectRow_out (Or.inl h1)]
    exact ⟨_, _, _, rfl, by omega, ⟨rfl, Nat.le_refl _, fun h => absurd h (by simp)⟩, by (repeat' (first | exact Below.refl _ _ | exact Below.refl _ _ | refine balloc ?_ _ | refine Below.drew ?_ | refine below_drewN ?_ _ | refine bset ?_ (by first | omega | (simp <;> omega)) _))⟩
  · have d1 : decide ((j : Int) < y0) = false := by simp; omega
    by_cases h2 : y1 ≤ (j : Int)
    · have d2 : decide (y1 ≤ (j : Int)) = true := by simp; omega
      go_enter Try.func52, Try.ntmps52
      go_wp2_with fail
      go_ret
      rw [rectRow_out (Or.inr h2)]
      exact ⟨_, _, _, rfl, by omega, ⟨rfl, Nat.le_refl _, fun h => absurd h (by simp)⟩, by (repeat' (first | exact Below.refl _ _ | exact Below.refl _ _ | refine balloc ?_ _ | refine Below.drew ?_ | refine below_drewN ?_ _ | refine bset ?_ (by first | omega | (simp <;> omega)) _))⟩
    · have d2 : decide (y1 ≤ (j : Int)) = false := by simp; omega
      go_enter Try.func52, Try.ntmps52
      go_wp2_with fail
      go_ret
      rw [rectRow_in (by omega)]
      refine ⟨_, _, _, rfl, by omega, by simpa [flat] using Runs.litR _ [(x0, x1)] 90 1 (Nat.le_refl _), by (repeat' (first | exact Below.refl _ _ | exact Below.refl _ _ | refine balloc ?_ _ | refine Below.drew ?_ | refine below_drewN ?_ _ | refine bset ?_ (by first | omega | (simp <;> omega)) _))⟩
set_option maxRecDepth 100000 in
set_option maxHeartbeats 3200000 in
theorem rrect_any (W H : Nat) (x0 y0 x1 y1 : Int) (w : World) (hW : 1 ≤ W ∧ W ≤ 64) (hH : 1 ≤ H ∧ H ≤ 64) :
    Calls Try.prog 29 #[.int .i64 (W : Int), .int .i64 (H : Int), .int .i64 x0, .int .i64 y0, .int .i64 x1, .int .i64 y1] w fun e w' =>
      ∃ g, w.heap.size ≤ g ∧ e = .returned (.tuple #[.agg #[.int .i64 (W : Int), .int .i64 (H : Int), .slice (some ⟨g, 0, none⟩) H H], .int .i64 0]) ∧ Rows w' (some ⟨g, 0, none⟩) H H (rowsOf W (rectSet x0 y0 x1 y1)) ∧ Below w.heap.size w w' := by
  have hmf := mkfunc
  have s1 : ∀ (u : World) (o : Obj), (u.alloc o).heap.size = u.heap.size + 1 := fun u o => by simp
  have KX := ((((Blk.new (w) 3 #[.int .i64 x0]).alloc (.cells #[.int .i64 y0] 3)).alloc (.cells #[.int .i64 x1] 3)).alloc (.cells #[.int .i64 y1] 3)).alloc (.cells #[.int .i64 0, .int .i64 0, .slice none 0 0] 49)
  have KZ := (((Blk.new ((w.alloc (.cells #[.int .i64 x0] 3))) 3 #[.int .i64 y0]).alloc (.cells #[.int .i64 x1] 3)).alloc (.cells #[.int .i64 y1] 3)).alloc (.cells #[.int .i64 0, .int .i64 0, .slice none 0 0] 49)
  have KY := ((Blk.new (((w.alloc (.cells #[.int .i64 x0] 3)).alloc (.cells #[.int .i64 y0] 3))) 3 #[.int .i64 x1]).alloc (.cells #[.int .i64 y1] 3)).alloc (.cells #[.int .i64 0, .int .i64 0, .slice none 0 0] 49)
  have KT := (Blk.new ((((w.alloc (.cells #[.int .i64 x0] 3)).alloc (.cells #[.int .i64 y0] 3)).alloc (.cells #[.int .i64 x1] 3))) 3 #[.int .i64 y1]).alloc (.cells #[.int .i64 0, .int .i64 0, .slice none 0 0] 49)
  have Kr := zreg (((((w.alloc (.cells #[.int .i64 x0] 3)).alloc (.cells #[.int .i64 y0] 3)).alloc (.cells #[.int .i64 x1] 3)).alloc (.cells #[.int .i64 y1] 3)))
  simp only [s1] at KX KZ KY KT Kr
  have HW := Lib.hid hW
  have HH := Lib.hid hH
  have lX := KX.lt
  have lZ := KZ.lt
  have lY := KY.lt
  have lT := KT.lt
  have HX := Lib.hid KX
  have HZ := Lib.hid KZ
  have HY := Lib.hid KY
  have HT := Lib.hid KT
  clear s1 hW hH KX KZ KY KT
  have HMD := Lib.hid (fun W' hrow => made_any W H 52 #[.pointer (some ⟨w.heap.size + 1, 0, none⟩), .pointer (some ⟨w.heap.size + 1 + 1 + 1, 0, none⟩), .pointer (some ⟨w.heap.size, 0, none⟩), .pointer (some ⟨w.heap.size + 1 + 1, 0, none⟩)] (fun j => rectRow x0 y0 x1 y1 j) W' HW.out HH.out (fun args W => by kernel_rfl) hrow)
  go_enter Try.func29, Try.ntmps29
  go_wp2_with fail
  refine (HMD.out _ (fun j W' hj hW' => rect1_any H (w.heap.size) (w.heap.size + 1) (w.heap.size + 1 + 1) (w.heap.size + 1 + 1 + 1) j x0 y0 x1 y1 W' hj HH.out.2 (HX.out.below hW' lX) (HZ.out.below hW' lZ) (HY.out.below hW' lY) (HT.out.below hW' lT))).mono ?_
  rintro e_ w3 ⟨g, hg, rfl, hr3, hb1⟩
  have hr4 : Rows w3 (some ⟨g, 0, none⟩) H H (rowsOf W (rectSet x0 y0 x1 y1)) := hr3.ext fun j _ => norm_rect W x0 y0 x1 y1 j HW.out.2
  have hgne : g ≠ w.heap.size + 1 + 1 + 1 + 1 := by simp at hg; omega
  have hg2 : w.heap.size ≤ g := by simp at hg; omega
  have hbw : Below w.heap.size w w3 := btrans (by (repeat' (first | exact Below.refl _ _ | exact Below.refl _ _ | refine balloc ?_ _ | refine Below.drew ?_ | refine below_drewN ?_ _ | refine bset ?_ (by first | omega | (simp <;> omega)) _))) hb1
  replace Kr := Kr.below hb1 (by first | (simp; done) | (simp; omega))
  clear hg hb1 HMD hr3 HX HZ HY HT lX lZ lY lT
  have g0 := Kr.cell 0
  have g1 := Kr.cell 1
  have g2 := Kr.cell 2
  have f0 := Kr.frozen 0
  have f1 := Kr.frozen 1
  have f2 := Kr.frozen 2
  simp only [List.getElem?_toArray, List.getElem?_cons_succ, List.getElem?_cons_zero] at g0 g1 g2
  have HKr := Lib.hid Kr
  have HBW := Lib.hid hbw
  have HR4 := Lib.hid hr4
  clear Kr hbw hr4
  go_wp2_with fail
  have K := ((HKr.out.set_ 0 (.int .i64 (W : Int))).set_ 1 (.int .i64 (H : Int))).set_ 2 (.slice (some ⟨g, 0, none⟩) H H)
  refine ret_struct2 (g := w.heap.size + 1 + 1 + 1 + 1) (t := 49) (cs := #[.int .i64 (W : Int), .int .i64 (H : Int), .slice (some ⟨g, 0, none⟩) H H]) rfl rfl ?_ Try.underlying49 rfl rfl rfl ?_
  · exact K
  · exact ⟨g, by omega, rfl, Rows.setBox HR4.out hgne HKr.out _ _ _, by (repeat' (first | refine bset ?_ (by first | omega | (simp <;> omega)) _ | refine balloc ?_ _ | refine Below.drew ?_ | refine below_drewN ?_ _ | exact HBW.out | exact Below.refl _ _))⟩
set_option maxRecDepth 100000 in
set_option maxHeartbeats 3200000 in
theorem rall_any (W H : Nat) (w : World) (hW : 1 ≤ W ∧ W ≤ 64) (hH : 1 ≤ H ∧ H ≤ 64) :
    Calls Try.prog 27 #[.int .i64 (W : Int), .int .i64 (H : Int)] w fun e w' =>
      ∃ g, w.heap.size ≤ g ∧ e = .returned (.tuple #[.agg #[.int .i64 (W : Int), .int .i64 (H : Int), .slice (some ⟨g, 0, none⟩) H H], .int .i64 0]) ∧ Rows w' (some ⟨g, 0, none⟩) H H (rowsOf W (fun _ _ => true)) ∧ Below w.heap.size w w' := by
  have HRC := Lib.hid (fun W' => rrect_any W H 0 0 W H W' hW hH)
  have Kr := zreg w
  clear hW hH
  go_enter Try.func27, Try.ntmps27
  go_wp2_with fail
  refine (HRC.out _).mono ?_
  rintro e_ w3 ⟨g, hg, rfl, hr4, hb1⟩
  replace hr4 : Rows w3 (some ⟨g, 0, none⟩) H H (rowsOf W (fun _ _ => true)) := hr4.ext fun j hj => rowsOf_ext fun i hi => by unfold rectSet; simp; omega
  have hgne : g ≠ w.heap.size := by simp at hg; omega
  have hg2 : w.heap.size ≤ g := by simp at hg; omega
  have hbw : Below w.heap.size w w3 := btrans (by (repeat' (first | exact Below.refl _ _ | exact Below.refl _ _ | refine balloc ?_ _ | refine Below.drew ?_ | refine below_drewN ?_ _ | refine bset ?_ (by first | omega | (simp <;> omega)) _))) hb1
  replace Kr := Kr.below hb1 (by first | (simp; done) | (simp; omega))
  clear hg hb1 HRC
  have g0 := Kr.cell 0
  have g1 := Kr.cell 1
  have g2 := Kr.cell 2
  have f0 := Kr.frozen 0
  have f1 := Kr.frozen 1
  have f2 := Kr.frozen 2
  simp only [List.getElem?_toArray, List.getElem?_cons_succ, List.getElem?_cons_zero] at g0 g1 g2
  have HKr := Lib.hid Kr
  have HBW := Lib.hid hbw
  have HR4 := Lib.hid hr4
  clear Kr hbw hr4
  go_wp2_with fail
  have K := ((HKr.out.set_ 0 (.int .i64 (W : Int))).set_ 1 (.int .i64 (H : Int))).set_ 2 (.slice (some ⟨g, 0, none⟩) H H)
  refine ret_struct2 (g := w.heap.size) (t := 49) (cs := #[.int .i64 (W : Int), .int .i64 (H : Int), .slice (some ⟨g, 0, none⟩) H H]) rfl rfl ?_ Try.underlying49 rfl rfl rfl ?_
  · exact K
  · exact ⟨g, by omega, rfl, Rows.setBox HR4.out hgne HKr.out _ _ _, by (repeat' (first | refine bset ?_ (by first | omega | (simp <;> omega)) _ | refine balloc ?_ _ | refine Below.drew ?_ | refine below_drewN ?_ _ | exact HBW.out | exact Below.refl _ _))⟩
theorem norm_band (W : Nat) (lo hi : Int) (R : Nat → Nat → Bool) (j : Nat) (hW : W ≤ 64) : norm (if (j : Int) < lo ∨ hi ≤ (j : Int) then [] else rowsOf W R j) W = rowsOf W (fun j i => decide (lo ≤ (j : Int)) && decide ((j : Int) < hi) && R j i) j := by
  by_cases h : (j : Int) < lo ∨ hi ≤ (j : Int)
  · rw [if_pos h]
    unfold norm rowsOf
    rw [show (max 0 (min (W : Int) 64)).toNat = W by omega]
    refine rl_ext W fun i hi0 => ?_
    have e : (decide (lo ≤ (j : Int)) && decide ((j : Int) < hi)) = false := by simp; omega
    simp only [e]
    simp only [Bool.false_and]
    rfl
  · rw [if_neg h, norm_row W R j hW]
    refine rowsOf_ext fun i hi0 => ?_
    have e : (decide (lo ≤ (j : Int)) && decide ((j : Int) < hi)) = true := by simp; omega
    simp only [e, Bool.true_and]
end Go.Proofs.Ytfmkdccpgkbnoaa.rg
