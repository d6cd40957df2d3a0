/-
  Regions: Less, Join, Rect, All, one, Band. (PRUNE)
-/
import Derived.Test.YtegpjjkbbdfggaaRegOps
namespace Go.Proofs.Ytegpjjkbbdfggaa.rg
set_option linter.unusedVariables false
set_option linter.unusedSimpArgs false
open Go.RowKit bs sp ik

set_option maxRecDepth 100000 in
set_option maxHeartbeats 3200000 in
theorem rless_any (W H c d : Nat) (A B : Option Addr) (R S : Nat → Nat → Bool) (w : World) (hW : 1 ≤ W ∧ W ≤ 64) (hH : 1 ≤ H ∧ H ≤ 64) (ha : Rows w A H c (rowsOf W R)) (hb : Rows w B H d (rowsOf W S)) :
    Calls Try.prog 51 #[.agg #[.int .i64 (W : Int), .int .i64 (H : Int), .slice A H c], .agg #[.int .i64 (W : Int), .int .i64 (H : Int), .slice B H d]] w fun e w' =>
      ∃ g, w.heap.size ≤ g ∧ e = .returned (.tuple #[.agg #[.int .i64 (W : Int), .int .i64 (H : Int), .slice (some ⟨g, 0, none⟩) H H], .int .i64 0]) ∧ Rows w' (some ⟨g, 0, none⟩) H H (rowsOf W (fun j i => R j i && !S j i)) ∧ Below w.heap.size w w' := by
  have HB2 := Lib.hid (fun W' (hW' : Below w.heap.size w W') => rboth_any 98 (fun x y => x && !y) (fun args W => by kernel_rfl) (fun A B n c m d l k w hl hk hn hm => less_any A B n c m d l k w hl hk hn hm) W H c d A B R S W' hW hH (ha.below hW') (hb.below hW'))
  have Kr := zreg ((w.alloc (.cells #[.int .i64 (W : Int), .int .i64 (H : Int), .slice A H c] 51)).alloc (.cells #[.int .i64 (W : Int), .int .i64 (H : Int), .slice B H d] 51))
  have s1 : ∀ (u : World) (o : Obj), (u.alloc o).heap.size = u.heap.size + 1 := fun u o => by simp
  simp only [s1] at Kr
  clear s1 ha hb hW hH
  go_enter Try.func51, Try.ntmps51
  go_wp2_with fail
  refine (HB2.out _ (by (repeat' (first | exact Below.refl _ _ | exact Below.refl _ _ | refine balloc ?_ _ | refine Below.drew ?_ | refine below_drewN ?_ _ | refine bset ?_ (by first | omega | (simp <;> omega)) _)))).mono ?_
  rintro e_ w3 ⟨g, hg, rfl, hr4, hb1⟩
  have hgne : g ≠ w.heap.size + 1 + 1 := by simp at hg; omega
  have hg2 : w.heap.size ≤ g := by simp at hg; omega
  have hbw : Below w.heap.size w w3 := btrans (by (repeat' (first | exact Below.refl _ _ | exact Below.refl _ _ | refine balloc ?_ _ | refine Below.drew ?_ | refine below_drewN ?_ _ | refine bset ?_ (by first | omega | (simp <;> omega)) _))) hb1
  replace Kr := Kr.below hb1 (by first | (simp; done) | (simp; omega))
  clear hg hb1 HB2
  have g0 := Kr.cell 0
  have g1 := Kr.cell 1
  have g2 := Kr.cell 2
  have f0 := Kr.frozen 0
  have f1 := Kr.frozen 1
  have f2 := Kr.frozen 2
  simp only [List.getElem?_toArray, List.getElem?_cons_succ, List.getElem?_cons_zero] at g0 g1 g2
  have HKr := Lib.hid Kr
  have HBW := Lib.hid hbw
  have HR4 := Lib.hid hr4
  clear Kr hbw hr4
  go_wp2_with fail
  have K := ((HKr.out.set_ 0 (.int .i64 (W : Int))).set_ 1 (.int .i64 (H : Int))).set_ 2 (.slice (some ⟨g, 0, none⟩) H H)
  refine ret_struct2 (g := w.heap.size + 1 + 1) (t := 51) (cs := #[.int .i64 (W : Int), .int .i64 (H : Int), .slice (some ⟨g, 0, none⟩) H H]) rfl rfl ?_ Try.underlying51 rfl rfl rfl ?_
  · exact K
  · exact ⟨g, by omega, rfl, Rows.setBox HR4.out hgne HKr.out _ _ _, by (repeat' (first | refine bset ?_ (by first | omega | (simp <;> omega)) _ | refine balloc ?_ _ | refine Below.drew ?_ | refine below_drewN ?_ _ | exact HBW.out | exact Below.refl _ _))⟩
theorem Runs.litR (w : World) (l : List (Int × Int)) (t : TypeId) (c : Nat) (hc : l.length ≤ c) : Runs (w.alloc (.cells (flat l).toArray t)) (some ⟨w.heap.size, 0, none⟩) l.length c l := by
  have K := Blk.new w t (flat l).toArray
  refine ⟨rfl, hc, fun _ => ⟨w.heap.size, 0, rfl, K.lt, fun j hj => ?_⟩⟩
  obtain ⟨e1, e2⟩ := flat_get l j hj
  rw [K.cell, K.cell]
  simp only [Nat.zero_add, List.getElem?_toArray]
  exact ⟨e1, e2⟩
/-- a row of a rectangle -/
def rectRow (x0 y0 x1 y1 : Int) (j : Nat) : List (Int × Int) := if (j : Int) < y0 ∨ y1 ≤ (j : Int) then [] else [(x0, x1)]
theorem rectRow_out {x0 y0 x1 y1 : Int} {j : Nat} (h : (j : Int) < y0 ∨ y1 ≤ (j : Int)) : rectRow x0 y0 x1 y1 j = [] := if_pos h
theorem rectRow_in {x0 y0 x1 y1 : Int} {j : Nat} (h : ¬ ((j : Int) < y0 ∨ y1 ≤ (j : Int))) : rectRow x0 y0 x1 y1 j = [(x0, x1)] := if_neg h
/-- a rectangle's pixels -/
def rectSet (x0 y0 x1 y1 : Int) (j i : Nat) : Bool := decide (y0 ≤ (j : Int)) && decide ((j : Int) < y1) && (decide (x0 ≤ (i : Int)) && decide ((i : Int) < x1))
theorem norm_rect (W : Nat) (x0 y0 x1 y1 : Int) (j : Nat) (hW : W ≤ 64) : norm (rectRow x0 y0 x1 y1 j) W = rowsOf W (rectSet x0 y0 x1 y1) j := by
  unfold norm rowsOf
  rw [show (max 0 (min (W : Int) 64)).toNat = W by omega]
  refine rl_ext W fun i hi => ?_
  unfold rectSet
  by_cases h : (j : Int) < y0 ∨ y1 ≤ (j : Int)
  · rw [rectRow_out h]
    have e : (decide (y0 ≤ (j : Int)) && decide ((j : Int) < y1)) = false := by simp; omega
    rw [e]
    simp [inRuns]
  · rw [rectRow_in h]
    have e : (decide (y0 ≤ (j : Int)) && decide ((j : Int) < y1)) = true := by simp; omega
    rw [e]
    simp [inRuns]
set_option maxRecDepth 100000 in
set_option maxHeartbeats 3200000 in
theorem rect1_any (H xB zB yB tB j : Nat) (x0 y0 x1 y1 : Int) (w : World) (hj : j < H) (hH : H ≤ 64)
    (Kx : Blk w xB 3 #[.int .i64 x0]) (Kz : Blk w zB 3 #[.int .i64 y0]) (Ky : Blk w yB 3 #[.int .i64 x1]) (Kt : Blk w tB 3 #[.int .i64 y1]) :
    Calls Try.prog 110 #[.int .i64 (j : Int), .pointer (some ⟨zB, 0, none⟩), .pointer (some ⟨tB, 0, none⟩), .pointer (some ⟨xB, 0, none⟩), .pointer (some ⟨yB, 0, none⟩)] w fun e w' => ∃ A n c, e = .returned (.slice A n c) ∧ n ≤ 9223372036854775807 ∧ Runs w' A n c (rectRow x0 y0 x1 y1 j) ∧ Below w.heap.size w w' := by
  have e1 := Kx.cell 0
  have e2 := Kz.cell 0
  have e3 := Ky.cell 0
  have e4 := Kt.cell 0
  simp only [List.getElem?_toArray, List.getElem?_cons_succ, List.getElem?_cons_zero] at e1 e2 e3 e4
  clear Kx Kz Ky Kt
  by_cases h1 : (j : Int) < y0
  · have d1 : decide ((j : Int) < y0) = true := by simp; omega
    go_enter Try.func110, Try.ntmps110
    go_wp2_with fail
    go_ret
    rw [rectRow_out (Or.inl h1)]
    exact ⟨_, _, _, rfl, by omega, ⟨rfl, Nat.le_refl _, fun h => absurd h (by simp)⟩, by (repeat' (first | exact Below.refl _ _ | exact Below.refl _ _ | refine balloc ?_ _ | refine Below.drew ?_ | refine below_drewN ?_ _ | refine bset ?_ (by first | omega | (simp <;> omega)) _))⟩
  · have d1 : decide ((j : Int) < y0) = false := by simp; omega
    by_cases h2 : y1 ≤ (j : Int)
    · have d2 : decide (y1 ≤ (j : Int)) = true := by simp; omega
      go_enter Try.func110, Try.ntmps110
      go_wp2_with fail
      go_ret
      rw [rectRow_out (Or.inr h2)]
      exact ⟨_, _, _, rfl, by omega, ⟨rfl, Nat.le_refl _, fun h => absurd h (by simp)⟩, by (repeat' (first | exact Below.refl _ _ | exact Below.refl _ _ | refine balloc ?_ _ | refine Below.drew ?_ | refine below_drewN ?_ _ | refine bset ?_ (by first | omega | (simp <;> omega)) _))⟩
    · have d2 : decide (y1 ≤ (j : Int)) = false := by simp; omega
      go_enter Try.func110, Try.ntmps110
      go_wp2_with fail
      go_ret
      rw [rectRow_in (by omega)]
      refine ⟨_, _, _, rfl, by omega, by simpa [flat] using Runs.litR _ [(x0, x1)] 109 1 (Nat.le_refl _), by (repeat' (first | exact Below.refl _ _ | exact Below.refl _ _ | refine balloc ?_ _ | refine Below.drew ?_ | refine below_drewN ?_ _ | refine bset ?_ (by first | omega | (simp <;> omega)) _))⟩
set_option maxRecDepth 100000 in
set_option maxHeartbeats 3200000 in
theorem rrect_any (W H : Nat) (x0 y0 x1 y1 : Int) (w : World) (hW : 1 ≤ W ∧ W ≤ 64) (hH : 1 ≤ H ∧ H ≤ 64) :
    Calls Try.prog 70 #[.int .i64 (W : Int), .int .i64 (H : Int), .int .i64 x0, .int .i64 y0, .int .i64 x1, .int .i64 y1] w fun e w' =>
      ∃ g, w.heap.size ≤ g ∧ e = .returned (.tuple #[.agg #[.int .i64 (W : Int), .int .i64 (H : Int), .slice (some ⟨g, 0, none⟩) H H], .int .i64 0]) ∧ Rows w' (some ⟨g, 0, none⟩) H H (rowsOf W (rectSet x0 y0 x1 y1)) ∧ Below w.heap.size w w' := by
  have hmf := mkfunc
  have s1 : ∀ (u : World) (o : Obj), (u.alloc o).heap.size = u.heap.size + 1 := fun u o => by simp
  have KX := ((((Blk.new (w) 3 #[.int .i64 x0]).alloc (.cells #[.int .i64 y0] 3)).alloc (.cells #[.int .i64 x1] 3)).alloc (.cells #[.int .i64 y1] 3)).alloc (.cells #[.int .i64 0, .int .i64 0, .slice none 0 0] 51)
  have KZ := (((Blk.new ((w.alloc (.cells #[.int .i64 x0] 3))) 3 #[.int .i64 y0]).alloc (.cells #[.int .i64 x1] 3)).alloc (.cells #[.int .i64 y1] 3)).alloc (.cells #[.int .i64 0, .int .i64 0, .slice none 0 0] 51)
  have KY := ((Blk.new (((w.alloc (.cells #[.int .i64 x0] 3)).alloc (.cells #[.int .i64 y0] 3))) 3 #[.int .i64 x1]).alloc (.cells #[.int .i64 y1] 3)).alloc (.cells #[.int .i64 0, .int .i64 0, .slice none 0 0] 51)
  have KT := (Blk.new ((((w.alloc (.cells #[.int .i64 x0] 3)).alloc (.cells #[.int .i64 y0] 3)).alloc (.cells #[.int .i64 x1] 3))) 3 #[.int .i64 y1]).alloc (.cells #[.int .i64 0, .int .i64 0, .slice none 0 0] 51)
  have Kr := zreg (((((w.alloc (.cells #[.int .i64 x0] 3)).alloc (.cells #[.int .i64 y0] 3)).alloc (.cells #[.int .i64 x1] 3)).alloc (.cells #[.int .i64 y1] 3)))
  simp only [s1] at KX KZ KY KT Kr
  have HW := Lib.hid hW
  have HH := Lib.hid hH
  have lX := KX.lt
  have lZ := KZ.lt
  have lY := KY.lt
  have lT := KT.lt
  have HX := Lib.hid KX
  have HZ := Lib.hid KZ
  have HY := Lib.hid KY
  have HT := Lib.hid KT
  clear s1 hW hH KX KZ KY KT
  have HMD := Lib.hid (fun W' hrow => made_any W H 110 #[.pointer (some ⟨w.heap.size + 1, 0, none⟩), .pointer (some ⟨w.heap.size + 1 + 1 + 1, 0, none⟩), .pointer (some ⟨w.heap.size, 0, none⟩), .pointer (some ⟨w.heap.size + 1 + 1, 0, none⟩)] (fun j => rectRow x0 y0 x1 y1 j) W' HW.out HH.out (fun args W => by kernel_rfl) hrow)
  go_enter Try.func70, Try.ntmps70
  go_wp2_with fail
  refine (HMD.out _ (fun j W' hj hW' => rect1_any H (w.heap.size) (w.heap.size + 1) (w.heap.size + 1 + 1) (w.heap.size + 1 + 1 + 1) j x0 y0 x1 y1 W' hj HH.out.2 (HX.out.below hW' lX) (HZ.out.below hW' lZ) (HY.out.below hW' lY) (HT.out.below hW' lT))).mono ?_
  rintro e_ w3 ⟨g, hg, rfl, hr3, hb1⟩
  have hr4 : Rows w3 (some ⟨g, 0, none⟩) H H (rowsOf W (rectSet x0 y0 x1 y1)) := hr3.ext fun j _ => norm_rect W x0 y0 x1 y1 j HW.out.2
  have hgne : g ≠ w.heap.size + 1 + 1 + 1 + 1 := by simp at hg; omega
  have hg2 : w.heap.size ≤ g := by simp at hg; omega
  have hbw : Below w.heap.size w w3 := btrans (by (repeat' (first | exact Below.refl _ _ | exact Below.refl _ _ | refine balloc ?_ _ | refine Below.drew ?_ | refine below_drewN ?_ _ | refine bset ?_ (by first | omega | (simp <;> omega)) _))) hb1
  replace Kr := Kr.below hb1 (by first | (simp; done) | (simp; omega))
  clear hg hb1 HMD hr3 HX HZ HY HT lX lZ lY lT
  have g0 := Kr.cell 0
  have g1 := Kr.cell 1
  have g2 := Kr.cell 2
  have f0 := Kr.frozen 0
  have f1 := Kr.frozen 1
  have f2 := Kr.frozen 2
  simp only [List.getElem?_toArray, List.getElem?_cons_succ, List.getElem?_cons_zero] at g0 g1 g2
  have HKr := Lib.hid Kr
  have HBW := Lib.hid hbw
  have HR4 := Lib.hid hr4
  clear Kr hbw hr4
  go_wp2_with fail
  have K := ((HKr.out.set_ 0 (.int .i64 (W : Int))).set_ 1 (.int .i64 (H : Int))).set_ 2 (.slice (some ⟨g, 0, none⟩) H H)
  refine ret_struct2 (g := w.heap.size + 1 + 1 + 1 + 1) (t := 51) (cs := #[.int .i64 (W : Int), .int .i64 (H : Int), .slice (some ⟨g, 0, none⟩) H H]) rfl rfl ?_ Try.underlying51 rfl rfl rfl ?_
  · exact K
  · exact ⟨g, by omega, rfl, Rows.setBox HR4.out hgne HKr.out _ _ _, by (repeat' (first | refine bset ?_ (by first | omega | (simp <;> omega)) _ | refine balloc ?_ _ | refine Below.drew ?_ | refine below_drewN ?_ _ | exact HBW.out | exact Below.refl _ _))⟩
set_option maxRecDepth 100000 in
set_option maxHeartbeats 3200000 in
theorem rall_any (W H : Nat) (w : World) (hW : 1 ≤ W ∧ W ≤ 64) (hH : 1 ≤ H ∧ H ≤ 64) :
    Calls Try.prog 30 #[.int .i64 (W : Int), .int .i64 (H : Int)] w fun e w' =>
      ∃ g, w.heap.size ≤ g ∧ e = .returned (.tuple #[.agg #[.int .i64 (W : Int), .int .i64 (H : Int), .slice (some ⟨g, 0, none⟩) H H], .int .i64 0]) ∧ Rows w' (some ⟨g, 0, none⟩) H H (rowsOf W (fun _ _ => true)) ∧ Below w.heap.size w w' := by
  have HRC := Lib.hid (fun W' => rrect_any W H 0 0 W H W' hW hH)
  have Kr := zreg w
  clear hW hH
  go_enter Try.func30, Try.ntmps30
  go_wp2_with fail
  refine (HRC.out _).mono ?_
  rintro e_ w3 ⟨g, hg, rfl, hr4, hb1⟩
  replace hr4 : Rows w3 (some ⟨g, 0, none⟩) H H (rowsOf W (fun _ _ => true)) := hr4.ext fun j hj => rowsOf_ext fun i hi => by unfold rectSet; simp; omega
  have hgne : g ≠ w.heap.size := by simp at hg; omega
  have hg2 : w.heap.size ≤ g := by simp at hg; omega
  have hbw : Below w.heap.size w w3 := btrans (by (repeat' (first | exact Below.refl _ _ | exact Below.refl _ _ | refine balloc ?_ _ | refine Below.drew ?_ | refine below_drewN ?_ _ | refine bset ?_ (by first | omega | (simp <;> omega)) _))) hb1
  replace Kr := Kr.below hb1 (by first | (simp; done) | (simp; omega))
  clear hg hb1 HRC
  have g0 := Kr.cell 0
  have g1 := Kr.cell 1
  have g2 := Kr.cell 2
  have f0 := Kr.frozen 0
  have f1 := Kr.frozen 1
  have f2 := Kr.frozen 2
  simp only [List.getElem?_toArray, List.getElem?_cons_succ, List.getElem?_cons_zero] at g0 g1 g2
  have HKr := Lib.hid Kr
  have HBW := Lib.hid hbw
  have HR4 := Lib.hid hr4
  clear Kr hbw hr4
  go_wp2_with fail
  have K := ((HKr.out.set_ 0 (.int .i64 (W : Int))).set_ 1 (.int .i64 (H : Int))).set_ 2 (.slice (some ⟨g, 0, none⟩) H H)
  refine ret_struct2 (g := w.heap.size) (t := 51) (cs := #[.int .i64 (W : Int), .int .i64 (H : Int), .slice (some ⟨g, 0, none⟩) H H]) rfl rfl ?_ Try.underlying51 rfl rfl rfl ?_
  · exact K
  · exact ⟨g, by omega, rfl, Rows.setBox HR4.out hgne HKr.out _ _ _, by (repeat' (first | refine bset ?_ (by first | omega | (simp <;> omega)) _ | refine balloc ?_ _ | refine Below.drew ?_ | refine below_drewN ?_ _ | exact HBW.out | exact Below.refl _ _))⟩
set_option maxRecDepth 100000 in
set_option maxHeartbeats 3200000 in
theorem band1_any (W H fB oB rB c j : Nat) (lo hi : Int) (A : Option Addr) (R : Nat → Nat → Bool) (w : World) (hj : j < H) (hH : H ≤ 64)
    (Kf : Blk w fB 3 #[.int .i64 lo]) (Kt : Blk w oB 3 #[.int .i64 hi]) (Kr : Blk w rB 51 #[.int .i64 (W : Int), .int .i64 (H : Int), .slice A H c]) (hr : Rows w A H c (rowsOf W R)) :
    Calls Try.prog 90 #[.int .i64 (j : Int), .pointer (some ⟨fB, 0, none⟩), .pointer (some ⟨oB, 0, none⟩), .pointer (some ⟨rB, 0, none⟩)] w fun e w' => ∃ A n c, e = .returned (.slice A n c) ∧ n ≤ 9223372036854775807 ∧ Runs w' A n c (if (j : Int) < lo ∨ hi ≤ (j : Int) then [] else rowsOf W R j) ∧ Below w.heap.size w w' := by
  have e1 := Kf.cell 0
  have e2 := Kt.cell 0
  have e3 := Kr.cell 2
  simp only [List.getElem?_toArray, List.getElem?_cons_succ, List.getElem?_cons_zero] at e1 e2 e3
  clear Kf Kt Kr
  generalize hif : (if (j : Int) < lo ∨ hi ≤ (j : Int) then [] else rowsOf W R j) = L
  by_cases h1 : (j : Int) < lo
  · have d1 : decide ((j : Int) < lo) = true := by simp; omega
    rw [if_pos (Or.inl h1)] at hif
    subst hif
    go_enter Try.func90, Try.ntmps90
    go_wp2_with fail
    go_ret
    exact ⟨_, _, _, rfl, by omega, ⟨rfl, Nat.le_refl _, fun h => absurd h (by simp)⟩, by (repeat' (first | exact Below.refl _ _ | exact Below.refl _ _ | refine balloc ?_ _ | refine Below.drew ?_ | refine below_drewN ?_ _ | refine bset ?_ (by first | omega | (simp <;> omega)) _))⟩
  · have d1 : decide ((j : Int) < lo) = false := by simp; omega
    by_cases h2 : hi ≤ (j : Int)
    · have d2 : decide (hi ≤ (j : Int)) = true := by simp; omega
      rw [if_pos (Or.inr h2)] at hif
      subst hif
      go_enter Try.func90, Try.ntmps90
      go_wp2_with fail
      go_ret
      exact ⟨_, _, _, rfl, by omega, ⟨rfl, Nat.le_refl _, fun h => absurd h (by simp)⟩, by (repeat' (first | exact Below.refl _ _ | exact Below.refl _ _ | refine balloc ?_ _ | refine Below.drew ?_ | refine below_drewN ?_ _ | refine bset ?_ (by first | omega | (simp <;> omega)) _))⟩
    · have d2 : decide (hi ≤ (j : Int)) = false := by simp; omega
      rw [if_neg (by omega)] at hif
      subst hif
      obtain ⟨a1, ha⟩ := hr
      obtain ⟨x, o, rfl, hx, ha⟩ := ha (by omega)
      obtain ⟨l1, A1, c1, q1, r1⟩ := ha j hj
      have d5 : (0 : Int) ≤ (j : Int) ∧ (j : Int) < (H : Int) := by omega
      obtain ⟨d3, d4⟩ := d5
      have HR1 := Lib.hid r1
      have HL1 := Lib.hid l1
      clear ha a1 r1 l1
      go_enter Try.func90, Try.ntmps90
      go_wp2_with fail
      go_ret
      exact ⟨_, _, _, rfl, HL1.out, HR1.out, by (repeat' (first | exact Below.refl _ _ | exact Below.refl _ _ | refine balloc ?_ _ | refine Below.drew ?_ | refine below_drewN ?_ _ | refine bset ?_ (by first | omega | (simp <;> omega)) _))⟩
theorem norm_band (W : Nat) (lo hi : Int) (R : Nat → Nat → Bool) (j : Nat) (hW : W ≤ 64) : norm (if (j : Int) < lo ∨ hi ≤ (j : Int) then [] else rowsOf W R j) W = rowsOf W (fun j i => decide (lo ≤ (j : Int)) && decide ((j : Int) < hi) && R j i) j := by
  by_cases h : (j : Int) < lo ∨ hi ≤ (j : Int)
  · rw [if_pos h]
    unfold norm rowsOf
    rw [show (max 0 (min (W : Int) 64)).toNat = W by omega]
    refine rl_ext W fun i hi0 => ?_
    have e : (decide (lo ≤ (j : Int)) && decide ((j : Int) < hi)) = false := by simp; omega
    simp only [e]
    simp only [Bool.false_and]
    rfl
  · rw [if_neg h, norm_row W R j hW]
    refine rowsOf_ext fun i hi0 => ?_
    have e : (decide (lo ≤ (j : Int)) && decide ((j : Int) < hi)) = true := by simp; omega
    simp only [e, Bool.true_and]
set_option maxRecDepth 100000 in
set_option maxHeartbeats 3200000 in
theorem rone_any (f : FuncId) (cap : Array Value) (W H c : Nat) (A : Option Addr) (R : Nat → Nat → Bool) (L : Nat → List (Int × Int)) (S : Nat → Nat → Bool) (w : World) (hW : 1 ≤ W ∧ W ≤ 64) (hH : 1 ≤ H ∧ H ≤ 64) (hr : Rows w A H c (rowsOf W R)) (hcf : ∀ (args : Array Value) (W : World), (callFunc f args).run Try.prog W = .ok (.enter f args) W)
    (hrow : ∀ (j : Nat) (W' : World), j < H → Below w.heap.size w W' → Calls Try.prog f (#[.int .i64 (j : Int)] ++ cap) W' fun e w' => ∃ A n c, e = .returned (.slice A n c) ∧ n ≤ 9223372036854775807 ∧ Runs w' A n c (L j) ∧ Below W'.heap.size W' w') (hL : ∀ j, norm (L j) W = rowsOf W S j) :
    Calls Try.prog 89 #[.agg #[.int .i64 (W : Int), .int .i64 (H : Int), .slice A H c], .func (.func f) #[] cap] w fun e w' =>
      ∃ g, w.heap.size ≤ g ∧ e = .returned (.tuple #[.agg #[.int .i64 (W : Int), .int .i64 (H : Int), .slice (some ⟨g, 0, none⟩) H H], .int .i64 0]) ∧ Rows w' (some ⟨g, 0, none⟩) H H (rowsOf W S) ∧ Below w.heap.size w w' := by
  have HM1 := Lib.hid (fun W' (hW' : Below w.heap.size w W') => rmay_yes W H c A _ W' hW hH (rowsOf_mayAll W H R hW.2) (hr.below hW'))
  have HMD := Lib.hid (fun W' hrow => made_any W H f cap L W' hW hH hcf hrow)
  have HROW := Lib.hid hrow
  have HL := Lib.hid hL
  have Ka := (Blk.new w 51 #[.int .i64 (W : Int), .int .i64 (H : Int), .slice A H c]).alloc (.cells #[.int .i64 0, .int .i64 0, .slice none 0 0] 51)
  have Kr := zreg (w.alloc (.cells #[.int .i64 (W : Int), .int .i64 (H : Int), .slice A H c] 51))
  have s1 : ∀ (u : World) (o : Obj), (u.alloc o).heap.size = u.heap.size + 1 := fun u o => by simp
  simp only [s1] at Kr
  clear s1 hr hW hH hrow hcf hL
  go_enter Try.func89, Try.ntmps89
  go_wp2_with fail
  refine (HM1.out _ (by (repeat' (first | exact Below.refl _ _ | exact Below.refl _ _ | refine balloc ?_ _ | refine Below.drew ?_ | refine below_drewN ?_ _ | refine bset ?_ (by first | omega | (simp <;> omega)) _)))).mono ?_
  rintro e_ w1 ⟨rfl, hb1⟩
  have hbw : Below w.heap.size w w1 := btrans (by (repeat' (first | exact Below.refl _ _ | exact Below.refl _ _ | refine balloc ?_ _ | refine Below.drew ?_ | refine below_drewN ?_ _ | refine bset ?_ (by first | omega | (simp <;> omega)) _))) hb1
  replace Ka := Ka.below hb1 (by first | (simp; done) | (simp; omega))
  replace Kr := Kr.below hb1 (by first | (simp; done) | (simp; omega))
  have lr := Kr.lt
  have a0 := Ka.cell 0
  have a1 := Ka.cell 1
  simp only [List.getElem?_toArray, List.getElem?_cons_succ, List.getElem?_cons_zero] at a0 a1
  have HKr := Lib.hid Kr
  have HBW := Lib.hid hbw
  clear Ka Kr hbw hb1 HM1
  go_wp2_with fail
  refine (HMD.out _ (fun j W' hj hW' => HROW.out j W' hj (btrans HBW.out hW'))).mono ?_
  rintro e_ w3 ⟨g, hg, rfl, hr3, hb1⟩
  have hr4 : Rows w3 (some ⟨g, 0, none⟩) H H (rowsOf W S) := hr3.ext fun j _ => HL.out j
  have hgne : g ≠ w.heap.size + 1 := by omega
  have hg2 : w.heap.size ≤ g := by omega
  have hbw : Below w.heap.size w w3 := btrans HBW.out hb1
  have Kr := HKr.out.below hb1 lr
  clear hg hb1 HMD hr3 HROW HL lr HKr HBW
  have g0 := Kr.cell 0
  have g1 := Kr.cell 1
  have g2 := Kr.cell 2
  have f0 := Kr.frozen 0
  have f1 := Kr.frozen 1
  have f2 := Kr.frozen 2
  simp only [List.getElem?_toArray, List.getElem?_cons_succ, List.getElem?_cons_zero] at g0 g1 g2
  have HKr := Lib.hid Kr
  have HBW := Lib.hid hbw
  have HR4 := Lib.hid hr4
  clear Kr hbw hr4
  go_wp2_with fail
  have K := ((HKr.out.set_ 0 (.int .i64 (W : Int))).set_ 1 (.int .i64 (H : Int))).set_ 2 (.slice (some ⟨g, 0, none⟩) H H)
  refine ret_struct2 (g := w.heap.size + 1) (t := 51) (cs := #[.int .i64 (W : Int), .int .i64 (H : Int), .slice (some ⟨g, 0, none⟩) H H]) rfl rfl ?_ Try.underlying51 rfl rfl rfl ?_
  · exact K
  · exact ⟨g, by omega, rfl, Rows.setBox HR4.out hgne HKr.out _ _ _, by (repeat' (first | refine bset ?_ (by first | omega | (simp <;> omega)) _ | refine balloc ?_ _ | refine Below.drew ?_ | refine below_drewN ?_ _ | exact HBW.out | exact Below.refl _ _))⟩
set_option maxRecDepth 100000 in
set_option maxHeartbeats 3200000 in
theorem rband_any (W H c : Nat) (A : Option Addr) (R : Nat → Nat → Bool) (lo hi : Int) (w : World) (hW : 1 ≤ W ∧ W ≤ 64) (hH : 1 ≤ H ∧ H ≤ 64) (hr : Rows w A H c (rowsOf W R)) :
    Calls Try.prog 47 #[.agg #[.int .i64 (W : Int), .int .i64 (H : Int), .slice A H c], .int .i64 lo, .int .i64 hi] w fun e w' =>
      ∃ g, w.heap.size ≤ g ∧ e = .returned (.tuple #[.agg #[.int .i64 (W : Int), .int .i64 (H : Int), .slice (some ⟨g, 0, none⟩) H H], .int .i64 0]) ∧ Rows w' (some ⟨g, 0, none⟩) H H (rowsOf W (fun j i => decide (lo ≤ (j : Int)) && decide ((j : Int) < hi) && R j i)) ∧ Below w.heap.size w w' := by
  have hmf := mkfunc
  have s1 : ∀ (u : World) (o : Obj), (u.alloc o).heap.size = u.heap.size + 1 := fun u o => by simp
  have KA := (((Blk.new (w) 51 #[.int .i64 (W : Int), .int .i64 (H : Int), .slice A H c]).alloc (.cells #[.int .i64 lo] 3)).alloc (.cells #[.int .i64 hi] 3)).alloc (.cells #[.int .i64 0, .int .i64 0, .slice none 0 0] 51)
  have KX := ((Blk.new ((w.alloc (.cells #[.int .i64 (W : Int), .int .i64 (H : Int), .slice A H c] 51))) 3 #[.int .i64 lo]).alloc (.cells #[.int .i64 hi] 3)).alloc (.cells #[.int .i64 0, .int .i64 0, .slice none 0 0] 51)
  have KY := (Blk.new (((w.alloc (.cells #[.int .i64 (W : Int), .int .i64 (H : Int), .slice A H c] 51)).alloc (.cells #[.int .i64 lo] 3))) 3 #[.int .i64 hi]).alloc (.cells #[.int .i64 0, .int .i64 0, .slice none 0 0] 51)
  have Kr := zreg ((((w.alloc (.cells #[.int .i64 (W : Int), .int .i64 (H : Int), .slice A H c] 51)).alloc (.cells #[.int .i64 lo] 3)).alloc (.cells #[.int .i64 hi] 3)))
  simp only [s1] at KX KY Kr
  have HW := Lib.hid hW
  have HH := Lib.hid hH
  have HR := Lib.hid hr
  have lA := KA.lt
  have lX := KX.lt
  have lY := KY.lt
  have HA := Lib.hid KA
  have HX := Lib.hid KX
  have HY := Lib.hid KY
  clear s1 hW hH KA KX KY hr
  have HMD := Lib.hid (fun W' hr hrow hL => rone_any 90 #[.pointer (some ⟨w.heap.size + 1, 0, none⟩), .pointer (some ⟨w.heap.size + 1 + 1, 0, none⟩), .pointer (some ⟨w.heap.size, 0, none⟩)] W H c A R (fun j => if (j : Int) < lo ∨ hi ≤ (j : Int) then [] else rowsOf W R j) (fun j i => decide (lo ≤ (j : Int)) && decide ((j : Int) < hi) && R j i) W' HW.out HH.out hr (fun args W => by kernel_rfl) hrow hL)
  go_enter Try.func47, Try.ntmps47
  go_wp2_with fail
  refine (HMD.out _ (HR.out.below (by (repeat' (first | exact Below.refl _ _ | exact Below.refl _ _ | refine balloc ?_ _ | refine Below.drew ?_ | refine below_drewN ?_ _ | refine bset ?_ (by first | omega | (simp <;> omega)) _)))) (fun j W' hj hW' => band1_any W H (w.heap.size + 1) (w.heap.size + 1 + 1) (w.heap.size) c j lo hi A R W' hj HH.out.2 (HX.out.below hW' lX) (HY.out.below hW' lY) (HA.out.below hW' lA) (HR.out.below (btrans (by (repeat' (first | exact Below.refl _ _ | exact Below.refl _ _ | refine balloc ?_ _ | refine Below.drew ?_ | refine below_drewN ?_ _ | refine bset ?_ (by first | omega | (simp <;> omega)) _))) hW'))) (fun j => norm_band W lo hi R j HW.out.2)).mono ?_
  rintro e_ w3 ⟨g, hg, rfl, hr4, hb1⟩
  have hgne : g ≠ w.heap.size + 1 + 1 + 1 := by simp at hg; omega
  have hg2 : w.heap.size ≤ g := by simp at hg; omega
  have hbw : Below w.heap.size w w3 := btrans (by (repeat' (first | exact Below.refl _ _ | exact Below.refl _ _ | refine balloc ?_ _ | refine Below.drew ?_ | refine below_drewN ?_ _ | refine bset ?_ (by first | omega | (simp <;> omega)) _))) hb1
  replace Kr := Kr.below hb1 (by first | (simp; done) | (simp; omega))
  clear hg hb1 HMD HA HX HY lA lX lY
  have g0 := Kr.cell 0
  have g1 := Kr.cell 1
  have g2 := Kr.cell 2
  have f0 := Kr.frozen 0
  have f1 := Kr.frozen 1
  have f2 := Kr.frozen 2
  simp only [List.getElem?_toArray, List.getElem?_cons_succ, List.getElem?_cons_zero] at g0 g1 g2
  have HKr := Lib.hid Kr
  have HBW := Lib.hid hbw
  have HR4 := Lib.hid hr4
  clear Kr hbw hr4
  go_wp2_with fail
  have K := ((HKr.out.set_ 0 (.int .i64 (W : Int))).set_ 1 (.int .i64 (H : Int))).set_ 2 (.slice (some ⟨g, 0, none⟩) H H)
  refine ret_struct2 (g := w.heap.size + 1 + 1 + 1) (t := 51) (cs := #[.int .i64 (W : Int), .int .i64 (H : Int), .slice (some ⟨g, 0, none⟩) H H]) rfl rfl ?_ Try.underlying51 rfl rfl rfl ?_
  · exact K
  · exact ⟨g, by omega, rfl, Rows.setBox HR4.out hgne HKr.out _ _ _, by (repeat' (first | refine bset ?_ (by first | omega | (simp <;> omega)) _ | refine balloc ?_ _ | refine Below.drew ?_ | refine below_drewN ?_ _ | exact HBW.out | exact Below.refl _ _))⟩
end Go.Proofs.Ytegpjjkbbdfggaa.rg
