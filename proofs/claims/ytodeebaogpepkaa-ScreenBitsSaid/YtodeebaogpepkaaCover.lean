/-
  Masks, two by two: cover.both with any function, Less, Meet, Join; Count, Same. (PRUNE)
-/
import Derived.Test.YtodeebaogpepkaaMaskOf
import Derived.Test.YtodeebaogpepkaaSameP
import Derived.Test.YtodeebaogpepkaaUpTail
import Derived.BigQuiet
import Derived.Deep.CutRange
namespace Go.Proofs.Ytodeebaogpepkaa.rg
set_option linter.unusedVariables false
set_option linter.unusedSimpArgs false
open Go.RowKit bs sp ik

/-- a function of two bits: its contract -/
def BitC (f : FuncId) (h : Int → Int → Int) : Prop := ∀ (x y : Int) (w : World), (x = 0 ∨ x = 1) → (y = 0 ∨ y = 1) → Calls Try.prog f #[.int .u8 x, .int .u8 y] w fun e w' => e = .returned (.int .u8 (h x y)) ∧ w = w'
/-- both's loop: the new mask's bytes, the boxes -/
def CRel (w : World) (mg mb W H q c d : Nat) (A D : Option Addr) (f : Nat → Int) (k : Nat) (wr : World) : Prop :=
  ∃ cs, Blk wr mg 5 cs ∧ Holds cs q (fun j => if j < k then f j else 0) ∧ Blk wr mb 36 #[.int .i64 (W : Int), .int .i64 (H : Int), .slice (some ⟨mg, 0, none⟩) q q] ∧
    Blk wr w.heap.size 36 #[.int .i64 (W : Int), .int .i64 (H : Int), .slice A q c] ∧ Blk wr (w.heap.size + 1) 36 #[.int .i64 (W : Int), .int .i64 (H : Int), .slice D q d] ∧ Blk wr (w.heap.size + 1 + 1) 36 #[.int .i64 0, .int .i64 0, .slice none 0 0] ∧
    w.heap.size + 1 + 1 < mg ∧ w.heap.size + 1 + 1 < mb ∧ mb ≠ mg ∧ Below w.heap.size w wr
theorem CRel.below {w wr w' : World} {mg mb W H q c d : Nat} {A D : Option Addr} {f : Nat → Int} {k : Nat} (h : CRel w mg mb W H q c d A D f k wr) (hb : Below wr.heap.size wr w') : CRel w mg mb W H q c d A D f k w' := by
  obtain ⟨cs, h1, h2, h3, h4, h5, h6, h7, h8, h9, hx⟩ := h
  exact ⟨cs, h1.below hb h1.lt, h2, h3.below hb h3.lt, h4.below hb h4.lt, h5.below hb h5.lt, h6.below hb h6.lt, h7, h8, h9, btrans hx hb⟩
theorem CRel.put {w wr : World} {mg mb W H q c d : Nat} {A D : Option Addr} {f : Nat → Int} {k : Nat} (h : CRel w mg mb W H q c d A D f k wr) (v : Int) (hv : v = f k) (hf : 0 ≤ v ∧ v ≤ 255) : CRel w mg mb W H q c d A D f (k + 1) (wr.setCell ⟨mg, k, none⟩ (.int .u8 v)) := by
  obtain ⟨cs, h1, h2, h3, h4, h5, h6, h7, h8, h9, hx⟩ := h
  refine ⟨_, h1.set_ k _, (h2.put k v hf.1 hf.2).ext fun j hj => ?_, h3.far h9 _, h4.far (by simp; omega) _, h5.far (by simp; omega) _, h6.far (by simp; omega) _, h7, h8, h9, bset hx (by simp; omega) _⟩
  by_cases e : j = k
  · subst e; simp [hv]
  · have : j < k + 1 ↔ j < k := by omega
    simp only [this, if_neg e]
theorem CRel.start1 {w w1 : World} {W H q c d : Nat} {A D : Option Addr} (f : Nat → Int) (hb : Below w.heap.size w w1) (K1 : Blk w1 w.heap.size 36 #[.int .i64 (W : Int), .int .i64 (H : Int), .slice A q c]) (K2 : Blk w1 (w.heap.size + 1) 36 #[.int .i64 (W : Int), .int .i64 (H : Int), .slice D q d]) (K3 : Blk w1 (w.heap.size + 1 + 1) 36 #[.int .i64 0, .int .i64 0, .slice none 0 0]) :
    CRel w w1.heap.size (w1.heap.size + 1) W H q c d A D f 0 ((w1.alloc (.cells (madeCells #[.int .u8 0] q) 5)).alloc (.cells #[.int .i64 (W : Int), .int .i64 (H : Int), .slice (some ⟨w1.heap.size, 0, none⟩) q q] 36)) := by
  have b2 := Blk.new (w1.alloc (.cells (madeCells #[.int .u8 0] q) 5)) 36 #[.int .i64 (W : Int), .int .i64 (H : Int), .slice (some ⟨w1.heap.size, 0, none⟩) q q]
  have s1 : ∀ (u : World) (o : Obj), (u.alloc o).heap.size = u.heap.size + 1 := fun u o => by simp
  simp only [s1] at b2
  exact ⟨_, (Blk.new _ _ _).alloc _, ⟨by rw [size_madeCells]; omega, fun j hj => ⟨by simp [madeCells, hj, Nat.mod_one], by simp, by simp⟩⟩, b2, (K1.alloc _).alloc _, (K2.alloc _).alloc _, (K3.alloc _).alloc _, K3.lt, by have := K3.lt; omega, by omega, balloc (balloc hb _) _⟩
theorem CRel.start2 {w w1 : World} {W H q c d : Nat} {A D : Option Addr} (f : Nat → Int) (hb : Below w.heap.size w w1) (K1 : Blk w1 w.heap.size 36 #[.int .i64 (W : Int), .int .i64 (H : Int), .slice A q c]) (K2 : Blk w1 (w.heap.size + 1) 36 #[.int .i64 (W : Int), .int .i64 (H : Int), .slice D q d]) (K3 : Blk w1 (w.heap.size + 1 + 1) 36 #[.int .i64 0, .int .i64 0, .slice none 0 0]) :
    CRel w (w1.heap.size + 1) w1.heap.size W H q c d A D f 0 ((w1.alloc (.cells #[.int .i64 (W : Int), .int .i64 (H : Int), .slice (some ⟨w1.heap.size + 1, 0, none⟩) q q] 36)).alloc (.cells (madeCells #[.int .u8 0] q) 5)) := by
  have b2 := Blk.new (w1.alloc (.cells #[.int .i64 (W : Int), .int .i64 (H : Int), .slice (some ⟨w1.heap.size + 1, 0, none⟩) q q] 36)) 5 (madeCells #[.int .u8 0] q)
  have s1 : ∀ (u : World) (o : Obj), (u.alloc o).heap.size = u.heap.size + 1 := fun u o => by simp
  simp only [s1] at b2
  exact ⟨_, b2, ⟨by rw [size_madeCells]; omega, fun j hj => ⟨by simp [madeCells, hj, Nat.mod_one], by simp, by simp⟩⟩, (Blk.new _ _ _).alloc _, (K1.alloc _).alloc _, (K2.alloc _).alloc _, (K3.alloc _).alloc _, by have := K3.lt; omega, K3.lt, by omega, balloc (balloc hb _) _⟩

set_option maxRecDepth 100000 in
set_option maxHeartbeats 3200000 in
theorem cboth_any (fn : FuncId) (h : Int → Int → Int) (hcf : ∀ (args : Array Value) (W : World), (callFunc fn args).run Try.prog W = .ok (.enter fn args) W) (hfn : BitC fn h) (hh : ∀ x y, (x = 0 ∨ x = 1) → (y = 0 ∨ y = 1) → h x y = 0 ∨ h x y = 1)
    (W H q c d : Nat) (A D : Option Addr) (B C : Nat → Int) (w : World) (hW : 1 ≤ W ∧ W ≤ 64) (hH : 1 ≤ H ∧ H ≤ 64) (hq : q = W * H) (hp : Pg w A q c B) (hB : ∀ j, j < q → B j = 0 ∨ B j = 1) (hr : Pg w D q d C) (hC : ∀ j, j < q → C j = 0 ∨ C j = 1) :
    Calls Try.prog 47 #[.agg #[.int .i64 (W : Int), .int .i64 (H : Int), .slice A q c], .agg #[.int .i64 (W : Int), .int .i64 (H : Int), .slice D q d], .func (.func fn) #[] #[]] w fun e w' => ∃ g, w.heap.size ≤ g ∧ e = .returned (.tuple #[.agg #[.int .i64 (W : Int), .int .i64 (H : Int), .slice (some ⟨g, 0, none⟩) q q], .int .i64 0]) ∧ Pg w' (some ⟨g, 0, none⟩) q q (fun j => h (B j) (C j)) ∧ Below w.heap.size w w' := by
  have hs := page_size hW hH
  rw [← hq] at hs
  obtain ⟨hnc, b, o, rfl, hbl, hbc⟩ := id hp
  obtain ⟨hnd, b', o', rfl, hbl', hbc'⟩ := id hr
  obtain ⟨i0, hi, hz0, hz1, hz2⟩ := info_parts (show (Try.prog.info? 5).map (fun i => (i.zero, i.size, i.bytes)) = some (some (.int .u8 0), 1, 1) by kernel_rfl)
  have hmk := fun W => run_make_rowN (P := Try.prog) 32 5 i0 (.int .u8 0) Try.underlying32 hi hz0 .i64 .i64 q q (Nat.le_refl _) (by rw [hz2]; omega) (by omega) W
  simp only [hz1, Nat.mul_one] at hmk
  have HM1 := Lib.hid (fun W' (hW' : Below w.heap.size w W') => cmay_yes W H q c (some ⟨b, o, none⟩) B W' hW hH hq (hp.below hW') (fun j hj => by rcases hB j hj with h | h <;> omega))
  have HM2 := Lib.hid (fun W' (hW' : Below w.heap.size w W') => cmay_yes W H q d (some ⟨b', o', none⟩) C W' hW hH hq (hr.below hW') (fun j hj => by rcases hC j hj with h | h <;> omega))
  have HF := Lib.hid (fun (k : Nat) (hk : k < q) (W' : World) => hfn (B k) (C k) W' (hB k hk) (hC k hk))
  have HV := Lib.hid (fun (k : Nat) (hk : k < q) => hh (B k) (C k) (hB k hk) (hC k hk))
  have HBC := Lib.hid hbc
  have HBC2 := Lib.hid hbc'
  have HMK := Lib.hid hmk
  have hwq : IntKind.i64.wrap (q : Int) = (q : Int) := by simp only [IntKind.wrap, IntKind.signed, IntKind.bits]; simp; omega
  have K1 := ((Blk.new w 36 #[.int .i64 (W : Int), .int .i64 (H : Int), .slice (some ⟨b, o, none⟩) q c]).alloc (.cells #[.int .i64 (W : Int), .int .i64 (H : Int), .slice (some ⟨b', o', none⟩) q d] 36)).alloc (.cells #[.int .i64 0, .int .i64 0, .slice none 0 0] 36)
  have K2 := (Blk.new (w.alloc (.cells #[.int .i64 (W : Int), .int .i64 (H : Int), .slice (some ⟨b, o, none⟩) q c] 36)) 36 #[.int .i64 (W : Int), .int .i64 (H : Int), .slice (some ⟨b', o', none⟩) q d]).alloc (.cells #[.int .i64 0, .int .i64 0, .slice none 0 0] 36)
  have K3 := Blk.new ((w.alloc (.cells #[.int .i64 (W : Int), .int .i64 (H : Int), .slice (some ⟨b, o, none⟩) q c] 36)).alloc (.cells #[.int .i64 (W : Int), .int .i64 (H : Int), .slice (some ⟨b', o', none⟩) q d] 36)) 36 #[.int .i64 0, .int .i64 0, .slice none 0 0]
  have s1 : ∀ (u : World) (o : Obj), (u.alloc o).heap.size = u.heap.size + 1 := fun u o => by simp
  simp only [s1] at K2 K3
  clear s1 hp hr hq hbc hbc' hmk hfn hh hB hC hW hH
  go_enter Try.func47, Try.ntmps47
  go_wp2_with fail
  refine (HM1.out _ (by (repeat' (first | exact Below.refl _ _ | exact Below.refl _ _ | refine balloc ?_ _ | refine Below.drew ?_ | refine below_drewN ?_ _ | refine bset ?_ (by first | omega | (simp <;> omega)) _)))).mono ?_
  rintro e_ w1 ⟨rfl, hb1⟩
  have hbw : Below w.heap.size w w1 := btrans (by (repeat' (first | exact Below.refl _ _ | exact Below.refl _ _ | refine balloc ?_ _ | refine Below.drew ?_ | refine below_drewN ?_ _ | refine bset ?_ (by first | omega | (simp <;> omega)) _))) hb1
  replace K1 := K1.below hb1 (by first | (simp; done) | (simp; omega))
  replace K2 := K2.below hb1 (by first | (simp; done) | (simp; omega))
  replace K3 := K3.below hb1 (by first | (simp; done) | (simp; omega))
  have l1 := K1.lt
  have l2 := K2.lt
  have l3 := K3.lt
  have b0 := K2.cell 0
  have b1 := K2.cell 1
  have b2 := K2.cell 2
  simp only [List.getElem?_toArray, List.getElem?_cons_succ, List.getElem?_cons_zero] at b0 b1 b2
  have H1 := Lib.hid K1
  have H2 := Lib.hid K2
  have H3 := Lib.hid K3
  have HBW := Lib.hid hbw
  clear K1 K2 K3 hbw hb1 HM1
  go_wp2_with fail
  refine (HM2.out _ HBW.out).mono ?_
  rintro e_ w2 ⟨rfl, hb1⟩
  have hbw := btrans HBW.out hb1
  have K1 := H1.out.below hb1 l1
  have K2 := H2.out.below hb1 l2
  have K3 := H3.out.below hb1 l3
  clear H1 H2 H3 HBW hb1 b0 b1 b2 l1 l2 l3 HM2
  have a0 := K1.cell 0
  have a1 := K1.cell 1
  have a2 := K1.cell 2
  have b0 := K2.cell 0
  have b1 := K2.cell 1
  simp only [List.getElem?_toArray, List.getElem?_cons_succ, List.getElem?_cons_zero] at a0 a1 a2 b0 b1
  have l1 := K1.lt
  have hne0 : ¬ w.heap.size = w2.heap.size := by omega
  have HS1 := Lib.hid (CRel.start1 (q := q) (fun j => h (B j) (C j)) hbw K1 K2 K3)
  have HS2 := Lib.hid (CRel.start2 (q := q) (fun j => h (B j) (C j)) hbw K1 K2 K3)
  clear K1 K2 K3 hbw
  have hmk := HMK.out
  go_upto_region 3 with fail
  go_cut [8] from 33 to 41 (fun s8 wx => ∃ mg mb : Nat, s8 = .pointer (some ⟨mb, 0, none⟩) ∧ CRel w mg mb W H q c d (some ⟨b, o, none⟩) (some ⟨b', o', none⟩) (fun j => h (B j) (C j)) 0 wx)
  case first =>
    go_region
    all_goals (go_wp2_with fail; go_meet)
    · exact ⟨_, _, rfl, HS1.out.below (Below.drew (Below.refl _ _))⟩
    · exact ⟨_, _, rfl, HS2.out.below (Below.drew (Below.refl _ _))⟩
  case rest =>
    obtain ⟨mg, mb, rfl, hU⟩ := hcut
    clear HS1 HS2 HMK hmk hne0 l1 hwq a0 a1 a2 b0 b1 hi hz0 hz1 hz2
    obtain ⟨cs, u1, u2, u3, u4, u5, u6, u7, u8, u9, ux⟩ := id hU
    have m2 := u3.cell 2
    simp only [List.getElem?_toArray, List.getElem?_cons_succ, List.getElem?_cons_zero] at m2
    clear u1 u2 u3 u4 u5 u6 u7 u8 u9 ux
    go_wp2_with fail
    go_loopw [45] (fun s wr => ∃ k : Nat, k ≤ q ∧ s = .int .i64 (k : Int) ∧ CRel w mg mb W H q c d (some ⟨b, o, none⟩) (some ⟨b', o', none⟩) (fun j => h (B j) (C j)) k wr) (fun s _ => q - (intOf s).toNat)
    case atStart => exact ⟨0, by omega, rfl, hU⟩
    case round =>
      clear m2 hU
      obtain ⟨k, hk, rfl, hU⟩ := hrel
      obtain ⟨cs, u1, u2, u3, u4, u5, u6, u7, u8, u9, ux⟩ := id hU
      by_cases hkq : k < q
      · have d1 : decide ((k : Int) < (q : Int)) = true := by simp; omega
        have d3 : (k : Int) < (q : Int) := by omega
        have P2 := u4.cell 2
        have Q2 := u5.cell 2
        have m2 := u3.cell 2
        simp only [List.getElem?_toArray, List.getElem?_cons_succ, List.getElem?_cons_zero] at P2 Q2 m2
        have lp := u4.lt
        have lq := u5.lt
        have lm := u3.lt
        have lg := u1.lt
        have gc : wr.cell? ⟨mg, k, none⟩ = some (.int .u8 0) := by rw [u1.cell, (u2.2 k hkq).1]; simp
        have gf := u1.frozen k
        obtain ⟨c1, c1a, c1b⟩ := HBC.out k hkq
        obtain ⟨c2, c2a, c2b⟩ := HBC2.out k hkq
        have e1 := (ux.cell (p := ⟨b, o + k, none⟩) hbl).trans c1
        have e2 := (ux.cell (p := ⟨b', o' + k, none⟩) hbl').trans c2
        have lb1 := Nat.lt_of_lt_of_le hbl ux.size
        have lb2 := Nat.lt_of_lt_of_le hbl' ux.size
        have hv := HV.out k hkq
        have HCL := Lib.hid (HF.out k hkq)
        have HN := Lib.hid fun (wz : World) (hb : Below wr.heap.size wr wz) v (hv : v = h (B k) (C k)) hx => (hU.below hb).put v hv hx
        obtain ⟨t, ht⟩ : ∃ t, h (B k) (C k) = t := ⟨_, rfl⟩
        rw [ht] at HCL hv
        have HT := Lib.hid ht
        generalize B k = x at *
        generalize C k = y at *
        clear u1 u2 u3 u4 u5 u6 u7 u8 u9 ux hU c1 c2 ht
        have v1 := fun (u : Up wr) => (u.cell (p := ⟨w.heap.size, 2, none⟩) lp).trans P2
        have v2 := fun (u : Up wr) => (u.cell (p := ⟨w.heap.size + 1, 2, none⟩) lq).trans Q2
        have v3 := fun (u : Up wr) => (u.cell (p := ⟨mb, 2, none⟩) lm).trans m2
        have v4 := fun (u : Up wr) => (u.cell (p := ⟨mg, k, none⟩) lg).trans gc
        have v5 := fun (u : Up wr) => ((bcell u.ok).2 mg k lg).trans gf
        have v6 := fun (u : Up wr) => (u.cell (p := ⟨b, o + k, none⟩) lb1).trans e1
        have v7 := fun (u : Up wr) => (u.cell (p := ⟨b', o' + k, none⟩) lb2).trans e2
        have HU := Lib.hid (fun u : Up wr => up_same (u := u) (HCL.out u.val))
        go_wp2_with fail
        refine wp_region_up_tail 16 (by kernel_rfl) (by kernel_rfl) ?_
        simp only [List.take_succ_cons, List.take_zero, List.drop_succ_cons, List.drop_zero]
        repeat (go_big_quiet_step (fail))
        go_big_quiet_step (exact HU.out _)
        repeat (go_big_quiet_step (fail))
        refine wpQuiet_nil ?_
        rintro _ ⟨uq, rfl⟩
        have f3 := v3 uq
        have f4 := v4 uq
        have f5 := v5 uq
        have HN2 := Lib.hid (HN.out uq.val uq.ok t HT.out.symm (by omega))
        clear v1 v2 v3 v4 v5 v6 v7 HN HU HCL P2 Q2 m2 gc gf e1 e2
        generalize hwx : uq.val = wz at *
        clear hwx uq
        go_wp2_with fail
        go_roundw
        case rel => exact ⟨k + 1, by omega, by go_num, HN2.out⟩
        case measure => simp [intOf]; omega
      · obtain rfl : k = q := by omega
        have d1 : decide ((k : Int) < (k : Int)) = false := by simp
        have m0 := u3.cell 0
        have m1 := u3.cell 1
        have m2 := u3.cell 2
        have g0 := u6.cell 0
        have g1 := u6.cell 1
        have g2 := u6.cell 2
        have f0 := u6.frozen 0
        have f1 := u6.frozen 1
        have f2 := u6.frozen 2
        simp only [List.getElem?_toArray, List.getElem?_cons_succ, List.getElem?_cons_zero] at m0 m1 m2 g0 g1 g2
        have HKr := Lib.hid u6
        have HBW := Lib.hid ux
        have HU1 := Lib.hid u1
        have HU2 := Lib.hid (u2.ext (C := fun j => h (B j) (C j)) fun j hj => by simp [hj])
        clear u1 u2 u3 u4 u5 u6 u9 ux hU
        go_wp2_with fail
        have K := ((HKr.out.set_ 0 (.int .i64 (W : Int))).set_ 1 (.int .i64 (H : Int))).set_ 2 (.slice (some ⟨mg, 0, none⟩) k k)
        refine ret_struct2 (g := w.heap.size + 1 + 1) (t := 36) (cs := #[.int .i64 (W : Int), .int .i64 (H : Int), .slice (some ⟨mg, 0, none⟩) k k]) rfl rfl ?_ Try.underlying36 rfl rfl rfl ?_
        · exact K
        · exact ⟨mg, by omega, rfl, HU2.out.pg (((HU1.out.far (p := ⟨_, 0, none⟩) (by simp; omega) _).far (p := ⟨_, 1, none⟩) (by simp; omega) _).far (p := ⟨_, 2, none⟩) (by simp; omega) _) (Nat.le_refl _), by (repeat' (first | refine bset ?_ (by first | omega | (simp <;> omega)) _ | refine balloc ?_ _ | refine Below.drew ?_ | refine below_drewN ?_ _ | exact HBW.out | exact Below.refl _ _))⟩
end Go.Proofs.Ytodeebaogpepkaa.rg
