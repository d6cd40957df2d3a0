/-
  Masks: cover.Less, Meet, Join; Count, Same. (PRUNE)
-/
import Derived.Test.YtodeebaogpepkaaCover
namespace Go.Proofs.Ytodeebaogpepkaa.rg
set_option linter.unusedVariables false
set_option linter.unusedSimpArgs false
open Go.RowKit bs sp ik

theorem Pg.farM {w : World} {b o n c g k : Nat} {B : Nat → Int} (h : Pg w (some ⟨b, o, none⟩) n c B) (hb : b ≠ g) (u : Value) : Pg (w.setCell ⟨g, k, none⟩ u) (some ⟨b, o, none⟩) n c B := by
  obtain ⟨h1, b', o', e, hlt, hx⟩ := h
  cases e
  refine ⟨h1, b, o, rfl, by simpa using hlt, fun j hj => ⟨?_, (hx j hj).2⟩⟩
  rw [World.cell?_setCell_other (h := fun e => hb (Addr.mk.inj e).1.symm)]
  exact (hx j hj).1
/-- Less of two bits -/
def lessI (x y : Int) : Int := if y = 1 then 0 else x
theorem lessI_two (x y : Int) (hx : x = 0 ∨ x = 1) (hy : y = 0 ∨ y = 1) : lessI x y = 0 ∨ lessI x y = 1 := by
  rcases hx with rfl | rfl <;> rcases hy with rfl | rfl <;> simp [lessI]
theorem lessI_fn : BitC 48 lessI := by
  rintro x y w (rfl | rfl) (rfl | rfl)
  all_goals
    go_enter Try.func48, Try.ntmps48
    go_wp2_with fail
    go_ret
    exact ⟨ret_int (by decide), rfl⟩
set_option maxRecDepth 100000 in
set_option maxHeartbeats 1600000 in
theorem cless_any (W H q c d : Nat) (A D : Option Addr) (B C : Nat → Int) (w : World) (hW : 1 ≤ W ∧ W ≤ 64) (hH : 1 ≤ H ∧ H ≤ 64) (hq : q = W * H) (hp : Pg w A q c B) (hB : ∀ j, j < q → B j = 0 ∨ B j = 1) (hr : Pg w D q d C) (hC : ∀ j, j < q → C j = 0 ∨ C j = 1) :
    Calls Try.prog 25 #[.agg #[.int .i64 (W : Int), .int .i64 (H : Int), .slice A q c], .agg #[.int .i64 (W : Int), .int .i64 (H : Int), .slice D q d]] w fun e w' => ∃ g, w.heap.size ≤ g ∧ e = .returned (.tuple #[.agg #[.int .i64 (W : Int), .int .i64 (H : Int), .slice (some ⟨g, 0, none⟩) q q], .int .i64 0]) ∧ Pg w' (some ⟨g, 0, none⟩) q q (fun j => lessI (B j) (C j)) ∧ Below w.heap.size w w' := by
  have HB2 := Lib.hid (fun W' (hW' : Below w.heap.size w W') => cboth_any 48 lessI (fun args W => by kernel_rfl) lessI_fn lessI_two W H q c d A D B C W' hW hH hq (hp.below hW') hB (hr.below hW') hC)
  have Kr := Blk.new ((w.alloc (.cells #[.int .i64 (W : Int), .int .i64 (H : Int), .slice A q c] 36)).alloc (.cells #[.int .i64 (W : Int), .int .i64 (H : Int), .slice D q d] 36)) 36 #[.int .i64 0, .int .i64 0, .slice none 0 0]
  have s1 : ∀ (u : World) (o : Obj), (u.alloc o).heap.size = u.heap.size + 1 := fun u o => by simp
  simp only [s1] at Kr
  clear s1 hp hr hB hC hW hH hq
  go_enter Try.func25, Try.ntmps25
  go_wp2_with fail
  refine (HB2.out _ (by (repeat' (first | exact Below.refl _ _ | exact Below.refl _ _ | refine balloc ?_ _ | refine Below.drew ?_ | refine below_drewN ?_ _ | refine bset ?_ (by first | omega | (simp <;> omega)) _)))).mono ?_
  rintro e_ w3 ⟨g, hg, rfl, hr4, hb1⟩
  have hgne : w.heap.size + 1 + 1 ≠ g := by simp at hg; omega
  have hg2 : w.heap.size ≤ g := by simp at hg; omega
  have hbw : Below w.heap.size w w3 := btrans (by (repeat' (first | exact Below.refl _ _ | exact Below.refl _ _ | refine balloc ?_ _ | refine Below.drew ?_ | refine below_drewN ?_ _ | refine bset ?_ (by first | omega | (simp <;> omega)) _))) hb1
  replace Kr := Kr.below hb1 (by first | (simp; done) | (simp; omega))
  clear hg hb1 HB2
  have g0 := Kr.cell 0
  have g1 := Kr.cell 1
  have g2 := Kr.cell 2
  have f0 := Kr.frozen 0
  have f1 := Kr.frozen 1
  have f2 := Kr.frozen 2
  simp only [List.getElem?_toArray, List.getElem?_cons_succ, List.getElem?_cons_zero] at g0 g1 g2
  have HKr := Lib.hid Kr
  have HBW := Lib.hid hbw
  have HR4 := Lib.hid hr4
  clear Kr hbw hr4
  go_wp2_with fail
  have K := ((HKr.out.set_ 0 (.int .i64 (W : Int))).set_ 1 (.int .i64 (H : Int))).set_ 2 (.slice (some ⟨g, 0, none⟩) q q)
  refine ret_struct2 (g := w.heap.size + 1 + 1) (t := 36) (cs := #[.int .i64 (W : Int), .int .i64 (H : Int), .slice (some ⟨g, 0, none⟩) q q]) rfl rfl ?_ Try.underlying36 rfl rfl rfl ?_
  · exact K
  · exact ⟨g, hg2, rfl, Pg.farM (Pg.farM (Pg.farM HR4.out hgne.symm _) hgne.symm _) hgne.symm _, by (repeat' (first | refine bset ?_ (by first | omega | (simp <;> omega)) _ | refine balloc ?_ _ | refine Below.drew ?_ | refine below_drewN ?_ _ | exact HBW.out | exact Below.refl _ _))⟩
/-- Meet of two bits -/
def meetI (x y : Int) : Int := if y = 1 then x else 0
theorem meetI_two (x y : Int) (hx : x = 0 ∨ x = 1) (hy : y = 0 ∨ y = 1) : meetI x y = 0 ∨ meetI x y = 1 := by
  rcases hx with rfl | rfl <;> rcases hy with rfl | rfl <;> simp [meetI]
theorem meetI_fn : BitC 51 meetI := by
  rintro x y w (rfl | rfl) (rfl | rfl)
  all_goals
    go_enter Try.func51, Try.ntmps51
    go_wp2_with fail
    go_ret
    exact ⟨ret_int (by decide), rfl⟩
set_option maxRecDepth 100000 in
set_option maxHeartbeats 1600000 in
theorem cmeet_any (W H q c d : Nat) (A D : Option Addr) (B C : Nat → Int) (w : World) (hW : 1 ≤ W ∧ W ≤ 64) (hH : 1 ≤ H ∧ H ≤ 64) (hq : q = W * H) (hp : Pg w A q c B) (hB : ∀ j, j < q → B j = 0 ∨ B j = 1) (hr : Pg w D q d C) (hC : ∀ j, j < q → C j = 0 ∨ C j = 1) :
    Calls Try.prog 29 #[.agg #[.int .i64 (W : Int), .int .i64 (H : Int), .slice A q c], .agg #[.int .i64 (W : Int), .int .i64 (H : Int), .slice D q d]] w fun e w' => ∃ g, w.heap.size ≤ g ∧ e = .returned (.tuple #[.agg #[.int .i64 (W : Int), .int .i64 (H : Int), .slice (some ⟨g, 0, none⟩) q q], .int .i64 0]) ∧ Pg w' (some ⟨g, 0, none⟩) q q (fun j => meetI (B j) (C j)) ∧ Below w.heap.size w w' := by
  have HB2 := Lib.hid (fun W' (hW' : Below w.heap.size w W') => cboth_any 51 meetI (fun args W => by kernel_rfl) meetI_fn meetI_two W H q c d A D B C W' hW hH hq (hp.below hW') hB (hr.below hW') hC)
  have Kr := Blk.new ((w.alloc (.cells #[.int .i64 (W : Int), .int .i64 (H : Int), .slice A q c] 36)).alloc (.cells #[.int .i64 (W : Int), .int .i64 (H : Int), .slice D q d] 36)) 36 #[.int .i64 0, .int .i64 0, .slice none 0 0]
  have s1 : ∀ (u : World) (o : Obj), (u.alloc o).heap.size = u.heap.size + 1 := fun u o => by simp
  simp only [s1] at Kr
  clear s1 hp hr hB hC hW hH hq
  go_enter Try.func29, Try.ntmps29
  go_wp2_with fail
  refine (HB2.out _ (by (repeat' (first | exact Below.refl _ _ | exact Below.refl _ _ | refine balloc ?_ _ | refine Below.drew ?_ | refine below_drewN ?_ _ | refine bset ?_ (by first | omega | (simp <;> omega)) _)))).mono ?_
  rintro e_ w3 ⟨g, hg, rfl, hr4, hb1⟩
  have hgne : w.heap.size + 1 + 1 ≠ g := by simp at hg; omega
  have hg2 : w.heap.size ≤ g := by simp at hg; omega
  have hbw : Below w.heap.size w w3 := btrans (by (repeat' (first | exact Below.refl _ _ | exact Below.refl _ _ | refine balloc ?_ _ | refine Below.drew ?_ | refine below_drewN ?_ _ | refine bset ?_ (by first | omega | (simp <;> omega)) _))) hb1
  replace Kr := Kr.below hb1 (by first | (simp; done) | (simp; omega))
  clear hg hb1 HB2
  have g0 := Kr.cell 0
  have g1 := Kr.cell 1
  have g2 := Kr.cell 2
  have f0 := Kr.frozen 0
  have f1 := Kr.frozen 1
  have f2 := Kr.frozen 2
  simp only [List.getElem?_toArray, List.getElem?_cons_succ, List.getElem?_cons_zero] at g0 g1 g2
  have HKr := Lib.hid Kr
  have HBW := Lib.hid hbw
  have HR4 := Lib.hid hr4
  clear Kr hbw hr4
  go_wp2_with fail
  have K := ((HKr.out.set_ 0 (.int .i64 (W : Int))).set_ 1 (.int .i64 (H : Int))).set_ 2 (.slice (some ⟨g, 0, none⟩) q q)
  refine ret_struct2 (g := w.heap.size + 1 + 1) (t := 36) (cs := #[.int .i64 (W : Int), .int .i64 (H : Int), .slice (some ⟨g, 0, none⟩) q q]) rfl rfl ?_ Try.underlying36 rfl rfl rfl ?_
  · exact K
  · exact ⟨g, hg2, rfl, Pg.farM (Pg.farM (Pg.farM HR4.out hgne.symm _) hgne.symm _) hgne.symm _, by (repeat' (first | refine bset ?_ (by first | omega | (simp <;> omega)) _ | refine balloc ?_ _ | refine Below.drew ?_ | refine below_drewN ?_ _ | exact HBW.out | exact Below.refl _ _))⟩
/-- Join of two bits -/
def joinI (x y : Int) : Int := if y = 1 then 1 else x
theorem joinI_two (x y : Int) (hx : x = 0 ∨ x = 1) (hy : y = 0 ∨ y = 1) : joinI x y = 0 ∨ joinI x y = 1 := by
  rcases hx with rfl | rfl <;> rcases hy with rfl | rfl <;> simp [joinI]
theorem joinI_fn : BitC 52 joinI := by
  rintro x y w (rfl | rfl) (rfl | rfl)
  all_goals
    go_enter Try.func52, Try.ntmps52
    go_wp2_with fail
    go_ret
    exact ⟨ret_int (by decide), rfl⟩
set_option maxRecDepth 100000 in
set_option maxHeartbeats 1600000 in
theorem cjoin_any (W H q c d : Nat) (A D : Option Addr) (B C : Nat → Int) (w : World) (hW : 1 ≤ W ∧ W ≤ 64) (hH : 1 ≤ H ∧ H ≤ 64) (hq : q = W * H) (hp : Pg w A q c B) (hB : ∀ j, j < q → B j = 0 ∨ B j = 1) (hr : Pg w D q d C) (hC : ∀ j, j < q → C j = 0 ∨ C j = 1) :
    Calls Try.prog 30 #[.agg #[.int .i64 (W : Int), .int .i64 (H : Int), .slice A q c], .agg #[.int .i64 (W : Int), .int .i64 (H : Int), .slice D q d]] w fun e w' => ∃ g, w.heap.size ≤ g ∧ e = .returned (.tuple #[.agg #[.int .i64 (W : Int), .int .i64 (H : Int), .slice (some ⟨g, 0, none⟩) q q], .int .i64 0]) ∧ Pg w' (some ⟨g, 0, none⟩) q q (fun j => joinI (B j) (C j)) ∧ Below w.heap.size w w' := by
  have HB2 := Lib.hid (fun W' (hW' : Below w.heap.size w W') => cboth_any 52 joinI (fun args W => by kernel_rfl) joinI_fn joinI_two W H q c d A D B C W' hW hH hq (hp.below hW') hB (hr.below hW') hC)
  have Kr := Blk.new ((w.alloc (.cells #[.int .i64 (W : Int), .int .i64 (H : Int), .slice A q c] 36)).alloc (.cells #[.int .i64 (W : Int), .int .i64 (H : Int), .slice D q d] 36)) 36 #[.int .i64 0, .int .i64 0, .slice none 0 0]
  have s1 : ∀ (u : World) (o : Obj), (u.alloc o).heap.size = u.heap.size + 1 := fun u o => by simp
  simp only [s1] at Kr
  clear s1 hp hr hB hC hW hH hq
  go_enter Try.func30, Try.ntmps30
  go_wp2_with fail
  refine (HB2.out _ (by (repeat' (first | exact Below.refl _ _ | exact Below.refl _ _ | refine balloc ?_ _ | refine Below.drew ?_ | refine below_drewN ?_ _ | refine bset ?_ (by first | omega | (simp <;> omega)) _)))).mono ?_
  rintro e_ w3 ⟨g, hg, rfl, hr4, hb1⟩
  have hgne : w.heap.size + 1 + 1 ≠ g := by simp at hg; omega
  have hg2 : w.heap.size ≤ g := by simp at hg; omega
  have hbw : Below w.heap.size w w3 := btrans (by (repeat' (first | exact Below.refl _ _ | exact Below.refl _ _ | refine balloc ?_ _ | refine Below.drew ?_ | refine below_drewN ?_ _ | refine bset ?_ (by first | omega | (simp <;> omega)) _))) hb1
  replace Kr := Kr.below hb1 (by first | (simp; done) | (simp; omega))
  clear hg hb1 HB2
  have g0 := Kr.cell 0
  have g1 := Kr.cell 1
  have g2 := Kr.cell 2
  have f0 := Kr.frozen 0
  have f1 := Kr.frozen 1
  have f2 := Kr.frozen 2
  simp only [List.getElem?_toArray, List.getElem?_cons_succ, List.getElem?_cons_zero] at g0 g1 g2
  have HKr := Lib.hid Kr
  have HBW := Lib.hid hbw
  have HR4 := Lib.hid hr4
  clear Kr hbw hr4
  go_wp2_with fail
  have K := ((HKr.out.set_ 0 (.int .i64 (W : Int))).set_ 1 (.int .i64 (H : Int))).set_ 2 (.slice (some ⟨g, 0, none⟩) q q)
  refine ret_struct2 (g := w.heap.size + 1 + 1) (t := 36) (cs := #[.int .i64 (W : Int), .int .i64 (H : Int), .slice (some ⟨g, 0, none⟩) q q]) rfl rfl ?_ Try.underlying36 rfl rfl rfl ?_
  · exact K
  · exact ⟨g, hg2, rfl, Pg.farM (Pg.farM (Pg.farM HR4.out hgne.symm _) hgne.symm _) hgne.symm _, by (repeat' (first | refine bset ?_ (by first | omega | (simp <;> omega)) _ | refine balloc ?_ _ | refine Below.drew ?_ | refine below_drewN ?_ _ | exact HBW.out | exact Below.refl _ _))⟩
/-- how many bits of the first k are set -/
def csum (B : Nat → Int) : Nat → Int
  | 0 => 0
  | k + 1 => csum B k + B k
theorem csum_bd (B : Nat → Int) (q : Nat) (hB : ∀ j, j < q → B j = 0 ∨ B j = 1) (k : Nat) (hk : k ≤ q) : 0 ≤ csum B k ∧ csum B k ≤ k := by
  induction k with
  | zero => exact ⟨Int.le_refl _, Int.le_refl _⟩
  | succ k ih =>
    have h1 := ih (by omega)
    have h2 := hB k (by omega)
    show 0 ≤ csum B k + B k ∧ csum B k + B k ≤ ((k + 1 : Nat) : Int)
    omega
theorem csum_zero (B : Nat → Int) (q : Nat) (hB : ∀ j, j < q → B j = 0) : csum B q = 0 := by
  have : ∀ k, k ≤ q → csum B k = 0 := fun k => by
    induction k with
    | zero => intro _; rfl
    | succ k ih => intro hk; show csum B k + B k = 0; rw [ih (by omega), hB k (by omega)]; rfl
  exact this q (Nat.le_refl _)

set_option maxRecDepth 100000 in
set_option maxHeartbeats 1600000 in
theorem ccount_any (W H q c : Nat) (A : Option Addr) (B : Nat → Int) (w : World) (hW : 1 ≤ W ∧ W ≤ 64) (hH : 1 ≤ H ∧ H ≤ 64) (hq : q = W * H) (hp : Pg w A q c B) (hB : ∀ j, j < q → B j = 0 ∨ B j = 1) :
    Calls Try.prog 26 #[.agg #[.int .i64 (W : Int), .int .i64 (H : Int), .slice A q c]] w fun e w' => e = .returned (.int .i64 (csum B q)) ∧ Below w.heap.size w w' := by
  have hs := page_size hW hH
  rw [← hq] at hs
  obtain ⟨hqc, b, o, rfl, hbl, hbc⟩ := id hp
  have HM1 := Lib.hid (fun W' (hW' : Below w.heap.size w W') => cmay_yes W H q c (some ⟨b, o, none⟩) B W' hW hH hq (hp.below hW') (fun j hj => by rcases hB j hj with h | h <;> omega))
  have HB := Lib.hid hB
  have HSB := Lib.hid (fun k hk => csum_bd B q hB k hk)
  have HC := Lib.hid hbc
  have K := Blk.new w 36 #[.int .i64 (W : Int), .int .i64 (H : Int), .slice (some ⟨b, o, none⟩) q c]
  clear hp hB hW hH hq hbc
  go_enter Try.func26, Try.ntmps26
  go_wp2_with fail
  refine (HM1.out _ (by (repeat' (first | exact Below.refl _ _ | exact Below.refl _ _ | refine balloc ?_ _ | refine Below.drew ?_ | refine below_drewN ?_ _ | refine bset ?_ (by first | omega | (simp <;> omega)) _)))).mono ?_
  rintro e_ w1 ⟨rfl, hb1⟩
  have hbw : Below w.heap.size w w1 := btrans (by (repeat' (first | exact Below.refl _ _ | exact Below.refl _ _ | refine balloc ?_ _ | refine Below.drew ?_ | refine below_drewN ?_ _ | refine bset ?_ (by first | omega | (simp <;> omega)) _))) hb1
  replace K := K.below hb1 (by first | (simp; done) | (simp; omega))
  have a2 := K.cell 2
  simp only [List.getElem?_toArray, List.getElem?_cons_succ, List.getElem?_cons_zero] at a2
  have HBW := Lib.hid hbw
  clear K hbw hb1 HM1
  go_wp2_with fail
  go_loopw [3, 11] (fun nv kv wr => ∃ k : Nat, k ≤ q ∧ kv = .int .i64 (k : Int) ∧ nv = .int .i64 (csum B k) ∧ Below w.heap.size w wr) (fun _ kv _ => q - (intOf kv).toNat)
  case atStart => exact ⟨0, by omega, rfl, rfl, HBW.out⟩
  case round =>
    clear HBW a2
    obtain ⟨k, hk, rfl, rfl, hbw⟩ := hrel
    by_cases hlt : k < q
    · have d1 : decide ((k : Int) < (q : Int)) = true := by simp; omega
      have d3 : (k : Int) < (q : Int) := by omega
      obtain ⟨c1, c1a, c1b⟩ := HC.out k hlt
      have x1 := (hbw.cell (p := ⟨b, o + k, none⟩) hbl).trans c1
      have hs1 := HSB.out k (by omega)
      have hsu : csum B (k + 1) = csum B k + B k := rfl
      have HSU := Lib.hid hsu
      clear hsu c1
      obtain ⟨s, hs2⟩ : ∃ s, csum B k = s := ⟨_, rfl⟩
      obtain ⟨y, hy⟩ : ∃ y, B k = y := ⟨_, rfl⟩
      rw [hs2] at hs1
      rw [hy] at x1 c1a c1b
      have HE := Lib.hid (show csum B (k + 1) = s + y by rw [← hs2, ← hy]; rfl)
      rw [hs2]
      clear hs2 hy HSU
      obtain ⟨hs10, hs11⟩ := hs1
      go_wp2_with fail
      go_roundw
      case rel => exact ⟨k + 1, by omega, by go_num, by rw [HE.out], hbw⟩
      case measure => simp [intOf]; omega
    · obtain rfl : k = q := by omega
      have d1 : decide ((k : Int) < (k : Int)) = false := by simp
      have HBW := Lib.hid hbw
      clear hbw
      go_wp2_with fail
      go_ret
      exact ⟨rfl, HBW.out⟩

set_option maxRecDepth 100000 in
set_option maxHeartbeats 1600000 in
theorem csame_yes (W H : Int) (n c d : Nat) (A D : Option Addr) (B C : Nat → Int) (w : World) (hp : Pg w A n c B) (hq : Pg w D n d C) (hBC : ∀ j, j < n → B j = C j) :
    Calls Try.prog 31 #[.agg #[.int .i64 W, .int .i64 H, .slice A n c], .agg #[.int .i64 W, .int .i64 H, .slice D n d]] w fun e w' => e = .returned (.bool true) ∧ Below w.heap.size w w' := by
  have hq2 := hq.ext fun j hj => (hBC j hj).symm
  have S1 := (hp.below (w' := (w.alloc (.cells #[.int .i64 W, .int .i64 H, .slice A n c] 36)).alloc (.cells #[.int .i64 W, .int .i64 H, .slice D n d] 36)) (by (repeat' (first | exact Below.refl _ _ | exact Below.refl _ _ | refine balloc ?_ _ | refine Below.drew ?_ | refine below_drewN ?_ _ | refine bset ?_ (by first | omega | (simp <;> omega)) _)))).str
  have S2 := (hq2.below (w' := (w.alloc (.cells #[.int .i64 W, .int .i64 H, .slice A n c] 36)).alloc (.cells #[.int .i64 W, .int .i64 H, .slice D n d] 36)) (by (repeat' (first | exact Below.refl _ _ | exact Below.refl _ _ | refine balloc ?_ _ | refine Below.drew ?_ | refine below_drewN ?_ _ | refine bset ?_ (by first | omega | (simp <;> omega)) _)))).str
  obtain ⟨s, hs⟩ : ∃ s : ByteArray, ⟨(listB n B).toArray⟩ = s := ⟨_, rfl⟩
  rw [hs] at S1 S2
  clear hq2 hs hBC hp hq
  go_enter Try.func31, Try.ntmps31
  go_wp2_with fail
  go_ret
  exact ⟨by simp, by (repeat' (first | exact Below.refl _ _ | exact Below.refl _ _ | refine balloc ?_ _ | refine Below.drew ?_ | refine below_drewN ?_ _ | refine bset ?_ (by first | omega | (simp <;> omega)) _))⟩
end Go.Proofs.Ytodeebaogpepkaa.rg
