/-
  ink.Lay; region.Count of a region without a pixel. (PRUNE)
-/
import Derived.Test.YtmjpmeigfdgioaaLay1
import Derived.Test.YtmjpmeigfdgioaaPut
namespace Go.Proofs.Ytmjpmeigfdgioaa.rg
set_option linter.unusedVariables false
set_option linter.unusedSimpArgs false
open Go.RowKit bs sp ik

/-- a page's bytes behind Lay, up to pixel p -/
def partL (W : Nat) (R : Nat → Nat → Bool) (B C : Nat → Int) (p j : Nat) : Int := if j / 3 < p ∧ R (j / 3 / W) (j / 3 % W) = true then C j else B j
/-- a page's bytes behind Lay -/
def layB (W : Nat) (R : Nat → Nat → Bool) (B C : Nat → Int) (j : Nat) : Int := if R (j / 3 / W) (j / 3 % W) = true then C j else B j
theorem partL_zero (W : Nat) (R : Nat → Nat → Bool) (B C : Nat → Int) (j : Nat) : B j = partL W R B C 0 j := by
  unfold partL; rw [if_neg (by omega)]
theorem partL_skip (W : Nat) (R : Nat → Nat → Bool) (B C : Nat → Int) (j i : Nat) (hi : i < W) (h : R j i = false) (t : Nat) : partL W R B C (j * W + i) t = partL W R B C (j * W + i + 1) t := by
  unfold partL
  by_cases e : t / 3 = j * W + i
  · obtain ⟨e1, e2⟩ := pix_of (j := j) hi
    rw [e, e1, e2, h]
    simp
  · have : t / 3 < j * W + i + 1 ↔ t / 3 < j * W + i := by omega
    simp only [this]
theorem partL_step (W : Nat) (R : Nat → Nat → Bool) (B C : Nat → Int) (j i : Nat) (hi : i < W) (h : R j i = true) (t : Nat) : cpy (3 * (j * W + i)) C (partL W R B C (j * W + i)) t = partL W R B C (j * W + i + 1) t := by
  unfold cpy
  by_cases e : t / 3 = j * W + i
  · obtain ⟨e1, e2⟩ := pix_of (j := j) hi
    rw [if_pos (by omega)]
    unfold partL
    rw [e, e1, e2, h, if_pos (by simp)]
  · rw [if_neg (by omega)]
    unfold partL
    have : t / 3 < j * W + i + 1 ↔ t / 3 < j * W + i := by omega
    simp only [this]
theorem partL_all (W H : Nat) (R : Nat → Nat → Bool) (B C : Nat → Int) (t : Nat) (ht : t < 3 * (W * H)) : partL W R B C (H * W) t = layB W R B C t := by
  unfold partL layB
  have h1 : t / 3 < H * W := by rw [Nat.mul_comm H W]; omega
  simp only [h1, true_and]
theorem lay_walks (g W H n f pB qB b o d : Nat) (R : Nat → Nat → Bool) (B C : Nat → Int) (hW : 1 ≤ W ∧ W ≤ 64) (hH : 1 ≤ H ∧ H ≤ 64) (hn : n = 3 * (W * H)) (hnf : n ≤ f) (hp : pB ≠ g) (hq : qB ≠ g) (hb : b ≠ g) :
    Walks g W H R 49 #[.pointer (some ⟨pB, 0, none⟩), .pointer (some ⟨qB, 0, none⟩)]
      (fun p => LRel g n pB qB #[.int .i64 (W : Int), .int .i64 (H : Int), .slice (some ⟨g, 0, none⟩) n f] #[.int .i64 (W : Int), .int .i64 (H : Int), .slice (some ⟨b, o, none⟩) n d] b o d C (partL W R B C p)) := by
  have hs := page_size hW hH
  refine ⟨fun p w1 w2 h hb => h.below hb, fun j i w1 hj hi h hr => hr.ext fun t _ => partL_skip W R B C j i hi h t, fun j i w1 hj hi h hr => ?_⟩
  have h3 := pix_in hj hi
  have := lay1_any g n f pB qB (3 * (j * W + i)) b o d W H C _ w1 (by omega) hnf (by omega) hp hq hb hr
  rw [show ((3 * (j * W + i) : Nat) : Int) = 3 * ((j * W + i : Nat) : Int) by push_cast; rfl] at this
  exact this.mono fun e w' ⟨h1, h2, h4⟩ => ⟨h1, h2.ext fun t _ => partL_step W R B C j i hi h t, h4⟩

set_option maxRecDepth 100000 in
set_option maxHeartbeats 3200000 in
theorem lay_any (W H n c d e : Nat) (A E D : Option Addr) (R : Nat → Nat → Bool) (B C : Nat → Int) (w : World) (hW : 1 ≤ W ∧ W ≤ 64) (hH : 1 ≤ H ∧ H ≤ 64) (hn : n = 3 * (W * H))
    (hp : Pg w A n c B) (hq : Pg w E n d C) (hr : Rows w D H e (rowsOf W R)) :
    Calls Try.prog 27 #[.agg #[.int .i64 (W : Int), .int .i64 (H : Int), .slice A n c], .agg #[.int .i64 (W : Int), .int .i64 (H : Int), .slice E n d], .agg #[.int .i64 (W : Int), .int .i64 (H : Int), .slice D H e]] w fun ed w' =>
      ∃ g f, w.heap.size ≤ g ∧ ed = .returned (.tuple #[.agg #[.int .i64 (W : Int), .int .i64 (H : Int), .slice (some ⟨g, 0, none⟩) n f], .int .i64 0]) ∧ Pg w' (some ⟨g, 0, none⟩) n f (layB W R B C) ∧ Below w.heap.size w w' := by
  have hmf := mkfunc
  have hs := page_size hW hH
  obtain ⟨hnd, b, o, rfl, hbl, _⟩ := id hq
  have HF := Lib.hid (fun W' (hW' : Below w.heap.size w W') => fits_yes W H n c e A D R W' hW hH hn (hr.below hW'))
  have HF2 := Lib.hid (fun W' (hW' : Below w.heap.size w W') => fits_yes W H n d e (some ⟨b, o, none⟩) D R W' hW hH hn (hr.below hW'))
  have HC := Lib.hid (fun W' (hW' : Below w.heap.size w W') => copied_any W H n c A B W' (by omega) (by omega) (hp.below hW'))
  have HWK := Lib.hid (fun g f hnf hk hq hb => lay_walks g W H n f w.heap.size (w.heap.size + 1) b o d R B C hW hH hn hnf hk hq hb)
  have HEA := Lib.hid (fun w2 g Rel hV hgV hgw hw h0 => each_any w w2 g W H e D R 49 #[.pointer (some ⟨w.heap.size, 0, none⟩), .pointer (some ⟨w.heap.size + 1, 0, none⟩)] Rel (fun args W => by kernel_rfl) hW.2 hH.2 hr hV hgV hgw hw h0)
  have HN := Lib.hid hn
  have HQ := Lib.hid hq
  have HBL := Lib.hid hbl
  have s1 : ∀ (u : World) (o : Obj), (u.alloc o).heap.size = u.heap.size + 1 := fun u o => by simp
  have Kp := (((Blk.new w 30 #[.int .i64 (W : Int), .int .i64 (H : Int), .slice A n c]).alloc (.cells #[.int .i64 (W : Int), .int .i64 (H : Int), .slice (some ⟨b, o, none⟩) n d] 30)).alloc (.cells #[.int .i64 (W : Int), .int .i64 (H : Int), .slice D H e] 35)).alloc (.cells #[.int .i64 0, .int .i64 0, .slice none 0 0] 30)
  have Kq := ((Blk.new (w.alloc (.cells #[.int .i64 (W : Int), .int .i64 (H : Int), .slice A n c] 30)) 30 #[.int .i64 (W : Int), .int .i64 (H : Int), .slice (some ⟨b, o, none⟩) n d]).alloc (.cells #[.int .i64 (W : Int), .int .i64 (H : Int), .slice D H e] 35)).alloc (.cells #[.int .i64 0, .int .i64 0, .slice none 0 0] 30)
  have Kr := (Blk.new ((w.alloc (.cells #[.int .i64 (W : Int), .int .i64 (H : Int), .slice A n c] 30)).alloc (.cells #[.int .i64 (W : Int), .int .i64 (H : Int), .slice (some ⟨b, o, none⟩) n d] 30)) 35 #[.int .i64 (W : Int), .int .i64 (H : Int), .slice D H e]).alloc (.cells #[.int .i64 0, .int .i64 0, .slice none 0 0] 30)
  have Kz := Blk.new (((w.alloc (.cells #[.int .i64 (W : Int), .int .i64 (H : Int), .slice A n c] 30)).alloc (.cells #[.int .i64 (W : Int), .int .i64 (H : Int), .slice (some ⟨b, o, none⟩) n d] 30)).alloc (.cells #[.int .i64 (W : Int), .int .i64 (H : Int), .slice D H e] 35)) 30 #[.int .i64 0, .int .i64 0, .slice none 0 0]
  simp only [s1] at Kq Kr Kz
  clear s1 hn hr hp hq hW hH hbl
  go_enter Try.func27, Try.ntmps27
  go_wp2_with fail
  refine (HF.out _ (by (repeat' (first | exact Below.refl _ _ | exact Below.refl _ _ | refine balloc ?_ _ | refine Below.drew ?_ | refine below_drewN ?_ _ | refine bset ?_ (by first | omega | (simp <;> omega)) _)))).mono ?_
  rintro e_ w1 ⟨rfl, hb1⟩
  have hbw : Below w.heap.size w w1 := btrans (by (repeat' (first | exact Below.refl _ _ | exact Below.refl _ _ | refine balloc ?_ _ | refine Below.drew ?_ | refine below_drewN ?_ _ | refine bset ?_ (by first | omega | (simp <;> omega)) _))) hb1
  replace Kp := Kp.below hb1 (by first | (simp; done) | (simp; omega))
  replace Kq := Kq.below hb1 (by first | (simp; done) | (simp; omega))
  replace Kr := Kr.below hb1 (by first | (simp; done) | (simp; omega))
  replace Kz := Kz.below hb1 (by first | (simp; done) | (simp; omega))
  have lKp := Kp.lt
  have lKq := Kq.lt
  have lKr := Kr.lt
  have lKz := Kz.lt
  have cKq0 := Kq.cell 0
  have cKq1 := Kq.cell 1
  have cKq2 := Kq.cell 2
  have cKr0 := Kr.cell 0
  have cKr1 := Kr.cell 1
  have cKr2 := Kr.cell 2
  simp only [List.getElem?_toArray, List.getElem?_cons_succ, List.getElem?_cons_zero] at cKq0 cKq1 cKq2 cKr0 cKr1 cKr2
  have HKp := Lib.hid Kp
  have HKq := Lib.hid Kq
  have HKr := Lib.hid Kr
  have HKz := Lib.hid Kz
  have HBW := Lib.hid hbw
  clear Kp Kq Kr Kz hbw hb1
  go_wp2_with fail
  refine (HF2.out _ HBW.out).mono ?_
  rintro e_ w2 ⟨rfl, hb1⟩
  have hbw := btrans HBW.out hb1
  have Kp := HKp.out.below hb1 lKp
  have Kq := HKq.out.below hb1 lKq
  have Kr := HKr.out.below hb1 lKr
  have Kz := HKz.out.below hb1 lKz
  clear HKp HKq HKr HKz HBW lKp lKq lKr lKz cKq0 cKq1 cKq2 cKr0 cKr1 cKr2
  clear HF HF2
  have lKp := Kp.lt
  have lKq := Kq.lt
  have lKr := Kr.lt
  have lKz := Kz.lt
  have cKp0 := Kp.cell 0
  have cKp1 := Kp.cell 1
  have cKp2 := Kp.cell 2
  have cKr0 := Kr.cell 0
  have cKr1 := Kr.cell 1
  have cKr2 := Kr.cell 2
  simp only [List.getElem?_toArray, List.getElem?_cons_succ, List.getElem?_cons_zero] at cKp0 cKp1 cKp2 cKr0 cKr1 cKr2
  have HKp := Lib.hid Kp
  have HKq := Lib.hid Kq
  have HKr := Lib.hid Kr
  have HKz := Lib.hid Kz
  have HBW := Lib.hid hbw
  clear Kp Kq Kr Kz hbw hb1
  go_wp2_with fail
  refine (HC.out _ HBW.out).mono ?_
  rintro e_ w3 ⟨g, f, cs, hg, rfl, hnf, hB, hH2, hb1⟩
  have hsz3 := lKz
  have hgw : w.heap.size ≤ g := by omega
  have e1 : w.heap.size + 1 ≠ g := by omega
  have e2 : w.heap.size ≠ g := by omega
  have e3 : w.heap.size + 1 + 1 + 1 ≠ g := by omega
  have hbw := btrans HBW.out hb1
  have Kp := HKp.out.below hb1 lKp
  have Kq := HKq.out.below hb1 lKq
  have Kr := HKr.out.below hb1 lKr
  have Kz := HKz.out.below hb1 lKz
  clear HKp HKq HKr HKz HBW lKp lKq lKr lKz cKp0 cKp1 cKp2 cKr0 cKr1 cKr2
  have hgl := hB.lt
  have e4 : b ≠ g := by have := HBL.out; omega
  have P1 : LRel g n w.heap.size (w.heap.size + 1) #[.int .i64 (W : Int), .int .i64 (H : Int), .slice (some ⟨g, 0, none⟩) n f] #[.int .i64 (W : Int), .int .i64 (H : Int), .slice (some ⟨b, o, none⟩) n d] b o d C B (((w3.setCell ⟨w.heap.size, 0, none⟩ (.int .i64 (W : Int))).setCell ⟨w.heap.size, 1, none⟩ (.int .i64 (H : Int))).setCell ⟨w.heap.size, 2, none⟩ (.slice (some ⟨g, 0, none⟩) n f)) :=
    ⟨cs, ((hB.far (p := ⟨w.heap.size, 0, none⟩) e2.symm _).far (p := ⟨w.heap.size, 1, none⟩) e2.symm _).far (p := ⟨w.heap.size, 2, none⟩) e2.symm _, hH2, ((Kp.set_ 0 _).set_ 1 _).set_ 2 _, ((Kq.far (p := ⟨w.heap.size, 0, none⟩) (by simp) _).far (p := ⟨w.heap.size, 1, none⟩) (by simp) _).far (p := ⟨w.heap.size, 2, none⟩) (by simp) _, (((HQ.out.below hbw).far (by have := HBL.out; omega) _).far (by have := HBL.out; omega) _).far (by have := HBL.out; omega) _⟩
  have Z1 := ((Kz.far (p := ⟨w.heap.size, 0, none⟩) (by simp; omega) (.int .i64 (W : Int))).far (p := ⟨w.heap.size, 1, none⟩) (by simp; omega) (.int .i64 (H : Int))).far (p := ⟨w.heap.size, 2, none⟩) (by simp; omega) (.slice (some ⟨g, 0, none⟩) n f)
  clear HC hg hB hH2 hsz3
  have a0 := Kp.cell 0
  have a1 := Kp.cell 1
  have a2 := Kp.cell 2
  have f0 := Kp.frozen 0
  have f1 := Kp.frozen 1
  have f2 := Kp.frozen 2
  have r0 := Kr.cell 0
  have r1 := Kr.cell 1
  have r2 := Kr.cell 2
  simp only [List.getElem?_toArray, List.getElem?_cons_succ, List.getElem?_cons_zero] at a0 a1 a2 r0 r1 r2
  have HP1 := Lib.hid P1
  have HZ1 := Lib.hid Z1
  have HBW := Lib.hid hbw
  have HNF := Lib.hid hnf
  clear Kp Kq Kr Kz hbw P1 Z1 hnf
  go_wp2_with fail
  refine (HEA.out _ g _ (by (repeat' (first | refine bset ?_ (by first | omega | (simp <;> omega)) _ | refine balloc ?_ _ | refine Below.drew ?_ | refine below_drewN ?_ _ | exact HBW.out | exact Below.refl _ _))) hgw (by simpa using hgl) (HWK.out g f HNF.out e2 e1 e4) (HP1.out.ext fun j _ => partL_zero W R B C j)).mono ?_
  rintro e_ w4 ⟨rfl, hP, hG⟩
  have hbw : Below w.heap.size w w4 := Below.grown (by (repeat' (first | refine bset ?_ (by first | omega | (simp <;> omega)) _ | refine balloc ?_ _ | refine Below.drew ?_ | refine below_drewN ?_ _ | exact HBW.out | exact Below.refl _ _))) hG (by have := HBW.out.size; simpa using this) (fun k e => by cases e; exact hgw)
  have Kz := HZ1.out.grown hG (by simp; omega)
  clear HP1 HZ1 HBW hG a0 a1 a2 r0 r1 r2 f0 f1 f2 HEA HWK
  obtain ⟨cs3, h1, h2, h3, h4, h5⟩ := hP
  have a0 := h3.cell 0
  have a1 := h3.cell 1
  have a2 := h3.cell 2
  have z0 := Kz.cell 0
  have z1 := Kz.cell 1
  have z2 := Kz.cell 2
  have f0 := Kz.frozen 0
  have f1 := Kz.frozen 1
  have f2 := Kz.frozen 2
  simp only [List.getElem?_toArray, List.getElem?_cons_succ, List.getElem?_cons_zero] at a0 a1 a2 z0 z1 z2
  have H1 := Lib.hid h1
  have H2 := Lib.hid h2
  have HKz := Lib.hid Kz
  have HBW := Lib.hid hbw
  clear h1 h2 h3 h4 h5 Kz hbw
  go_wp2_with fail
  have K := ((HKz.out.set_ 0 (.int .i64 (W : Int))).set_ 1 (.int .i64 (H : Int))).set_ 2 (.slice (some ⟨g, 0, none⟩) n f)
  refine ret_struct2 (g := w.heap.size + 1 + 1 + 1) (t := 30) (cs := #[.int .i64 (W : Int), .int .i64 (H : Int), .slice (some ⟨g, 0, none⟩) n f]) rfl rfl ?_ Try.underlying30 rfl rfl rfl ?_
  · exact K
  · refine ⟨g, f, hgw, rfl, (H2.out.ext fun t ht => partL_all W H R B C t (by have := HN.out; omega)).pg (((H1.out.far (p := ⟨_, 0, none⟩) e3.symm _).far (p := ⟨_, 1, none⟩) e3.symm _).far (p := ⟨_, 2, none⟩) e3.symm _) HNF.out, by (repeat' (first | refine bset ?_ (by first | omega | (simp <;> omega)) _ | refine balloc ?_ _ | refine Below.drew ?_ | refine below_drewN ?_ _ | exact HBW.out | exact Below.refl _ _))⟩

theorem rowsOf_nil (W : Nat) (R : Nat → Nat → Bool) (j : Nat) (h : ∀ i, i < W → R j i = false) : rowsOf W R j = [] := by
  rw [rowsOf_ext (S := fun _ _ => false) (fun i hi => h i hi)]
  have h2 : ∀ n, rl (fun _ => false) n = [] := fun n => by
    induction n with
    | zero => exact rl_zero _
    | succ n ih => rw [rl_no (by rfl)]; exact ih
  exact h2 W

set_option maxRecDepth 100000 in
set_option maxHeartbeats 1600000 in
theorem rcount_zero (W H d : Nat) (D : Option Addr) (R : Nat → Nat → Bool) (w : World) (hW : 1 ≤ W ∧ W ≤ 64) (hH : 1 ≤ H ∧ H ≤ 64) (hr : Rows w D H d (rowsOf W R)) (hR : ∀ j, j < H → ∀ i, i < W → R j i = false) :
    Calls Try.prog 20 #[.agg #[.int .i64 (W : Int), .int .i64 (H : Int), .slice D H d]] w fun e w' => e = .returned (.int .i64 0) ∧ Below w.heap.size w w' := by
  have HM1 := Lib.hid (fun W' (hW' : Below w.heap.size w W') => rmay_yes W H d D _ W' hW hH (rowsOf_mayAll W H R hW.2) (hr.below hW'))
  replace hr : Rows w D H d (fun _ => []) := hr.ext fun j hj => rowsOf_nil W R j (hR j hj)
  have HR := Lib.hid hr
  have c0 : cnt (inRuns []) 64 = 0 := by decide
  have HCN := Lib.hid (fun A c w h => c0 ▸ count_any A 0 c [] w h (by omega))
  have K := Blk.new w 35 #[.int .i64 (W : Int), .int .i64 (H : Int), .slice D H d]
  obtain ⟨h0, h1⟩ := hH
  clear hr hR c0 hW
  go_enter Try.func20, Try.ntmps20
  go_wp2_with fail
  refine (HM1.out _ (by (repeat' (first | exact Below.refl _ _ | exact Below.refl _ _ | refine balloc ?_ _ | refine Below.drew ?_ | refine below_drewN ?_ _ | refine bset ?_ (by first | omega | (simp <;> omega)) _)))).mono ?_
  rintro e_ w1 ⟨rfl, hb1⟩
  have hbw : Below w.heap.size w w1 := btrans (by (repeat' (first | exact Below.refl _ _ | exact Below.refl _ _ | refine balloc ?_ _ | refine Below.drew ?_ | refine below_drewN ?_ _ | refine bset ?_ (by first | omega | (simp <;> omega)) _))) hb1
  replace K := K.below hb1 (by first | (simp; done) | (simp; omega))
  have a2 := K.cell 2
  simp only [List.getElem?_toArray, List.getElem?_cons_succ, List.getElem?_cons_zero] at a2
  have HBW := Lib.hid hbw
  clear K hbw hb1 HM1
  go_wp2_with fail
  go_loopw [3, 11] (fun nv kv wr => ∃ k : Nat, k ≤ H ∧ kv = .int .i64 (k : Int) ∧ nv = .int .i64 0 ∧ Below w.heap.size w wr) (fun _ kv _ => H - (intOf kv).toNat)
  case atStart => exact ⟨0, by omega, rfl, rfl, HBW.out⟩
  case round =>
    clear HBW a2
    obtain ⟨k, hk, rfl, rfl, hbw⟩ := hrel
    by_cases hlt : k < H
    · have d1 : decide ((k : Int) < (H : Int)) = true := by simp; omega
      have d3 : (k : Int) < (H : Int) := by omega
      obtain ⟨_, hat⟩ := HR.out
      obtain ⟨b, o, rfl, hb, hat⟩ := hat (by omega)
      obtain ⟨_, Aj, cj, q1, q2⟩ := hat k hlt
      have x1 := (hbw.cell (p := ⟨b, o + k, none⟩) hb).trans q1
      have HB := Lib.hid hbw
      have HQ := Lib.hid (q2.below hbw)
      clear hat q1 q2 hbw
      simp only [List.length_nil] at x1
      go_wp2_with fail
      refine (HCN.out Aj cj _ HQ.out).mono ?_
      rintro e_ w2 ⟨rfl, hb2⟩
      have hbw := btrans HB.out hb2
      clear HB hb2 HQ x1
      go_wp2_with fail
      go_roundw
      case rel => exact ⟨k + 1, by omega, by go_num, rfl, hbw⟩
      case measure => simp [intOf]; omega
    · obtain rfl : k = H := by omega
      have d1 : decide ((k : Int) < (k : Int)) = false := by simp
      go_wp2_with fail
      go_ret
      exact ⟨rfl, hbw⟩
end Go.Proofs.Ytmjpmeigfdgioaa.rg
