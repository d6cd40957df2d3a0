/-
  ink.Put. (PRUNE)
-/
import Derived.Test.YtegpjjkbbdfggaaPut1
import Derived.Test.YtegpjjkbbdfggaaRegOps2
namespace Go.Proofs.Ytegpjjkbbdfggaa.rg
set_option linter.unusedVariables false
set_option linter.unusedSimpArgs false
open Go.RowKit bs sp ik

/-- a page's bytes behind Put, up to pixel p -/
def partB (W : Nat) (R : Nat → Nat → Bool) (x y z a : Int) (B : Nat → Int) (p j : Nat) : Int :=
  if j / 3 < p ∧ R (j / 3 / W) (j / 3 % W) = true then blend (B j) (chan x y z (j % 3)) a else B j
/-- a page's bytes behind Put -/
def putB (W : Nat) (R : Nat → Nat → Bool) (x y z a : Int) (B : Nat → Int) (j : Nat) : Int :=
  if R (j / 3 / W) (j / 3 % W) = true then blend (B j) (chan x y z (j % 3)) a else B j
theorem pix_of {W j i : Nat} (hi : i < W) : (j * W + i) / W = j ∧ (j * W + i) % W = i := by
  have h1 : j * W + i = i + W * j := by rw [Nat.mul_comm, Nat.add_comm]
  rw [h1, Nat.add_mul_div_left _ _ (by omega), Nat.add_mul_mod_self_left, Nat.div_eq_of_lt hi, Nat.mod_eq_of_lt hi]
  exact ⟨Nat.zero_add _, rfl⟩
theorem partB_zero (W : Nat) (R : Nat → Nat → Bool) (x y z a : Int) (B : Nat → Int) (j : Nat) : B j = partB W R x y z a B 0 j := by
  unfold partB; rw [if_neg (by omega)]
theorem partB_skip (W : Nat) (R : Nat → Nat → Bool) (x y z a : Int) (B : Nat → Int) (j i : Nat) (hi : i < W) (h : R j i = false) (t : Nat) : partB W R x y z a B (j * W + i) t = partB W R x y z a B (j * W + i + 1) t := by
  unfold partB
  by_cases e : t / 3 = j * W + i
  · obtain ⟨e1, e2⟩ := pix_of (j := j) hi
    rw [e, e1, e2, h]
    simp
  · have : t / 3 < j * W + i + 1 ↔ t / 3 < j * W + i := by omega
    simp only [this]
theorem partB_step (W : Nat) (R : Nat → Nat → Bool) (x y z a : Int) (B : Nat → Int) (j i : Nat) (hi : i < W) (h : R j i = true) (t : Nat) : stg x y z a (3 * (j * W + i)) 3 (partB W R x y z a B (j * W + i)) t = partB W R x y z a B (j * W + i + 1) t := by
  unfold stg
  by_cases e : t / 3 = j * W + i
  · obtain ⟨e1, e2⟩ := pix_of (j := j) hi
    rw [if_pos (by omega)]
    unfold partB
    rw [e, e1, e2, h, if_neg (by omega), if_pos (by simp), show t - 3 * (j * W + i) = t % 3 by omega]
  · rw [if_neg (by omega)]
    unfold partB
    have : t / 3 < j * W + i + 1 ↔ t / 3 < j * W + i := by omega
    simp only [this]
theorem partB_all (W H : Nat) (R : Nat → Nat → Bool) (x y z a : Int) (B : Nat → Int) (t : Nat) (ht : t < 3 * (W * H)) : partB W R x y z a B (H * W) t = putB W R x y z a B t := by
  unfold partB putB
  have h1 : t / 3 < H * W := by rw [Nat.mul_comm H W]; omega
  simp only [h1, true_and]
theorem pix_in {W H j i : Nat} (hj : j < H) (hi : i < W) : 3 * (j * W + i) + 3 ≤ 3 * (W * H) := by
  have h1 : (j + 1) * W ≤ H * W := Nat.mul_le_mul_right W hj
  rw [Nat.add_mul, Nat.one_mul] at h1
  rw [Nat.mul_comm W H]
  omega
theorem put_walks (g W H n d kB pB : Nat) (R : Nat → Nat → Bool) (x y z a : Int) (B : Nat → Int) (hW : 1 ≤ W ∧ W ≤ 64) (hH : 1 ≤ H ∧ H ≤ 64) (hn : n = 3 * (W * H)) (hnd : n ≤ d) (hx : 0 ≤ x ∧ x ≤ 255) (hy : 0 ≤ y ∧ y ≤ 255) (hz : 0 ≤ z ∧ z ≤ 255) (ha : 0 ≤ a ∧ a ≤ 255) (hk : kB ≠ g) (hp : pB ≠ g) :
    Walks g W H R 100 #[.pointer (some ⟨kB, 0, none⟩), .pointer (some ⟨pB, 0, none⟩)]
      (fun p => PRel g n kB pB #[.int .u8 x, .int .u8 y, .int .u8 z, .int .u8 a] #[.int .i64 (W : Int), .int .i64 (H : Int), .slice (some ⟨g, 0, none⟩) n d] (partB W R x y z a B p)) := by
  have hs := page_size hW hH
  refine ⟨fun p w1 w2 h hb => h.below hb, fun j i w1 hj hi h hr => hr.ext fun t _ => partB_skip W R x y z a B j i hi h t, fun j i w1 hj hi h hr => ?_⟩
  have h3 := pix_in hj hi
  have := put1_any g n d kB pB (3 * (j * W + i)) W H x y z a _ w1 (by omega) hnd (by omega) hx hy hz ha hk hp hr
  rw [show ((3 * (j * W + i) : Nat) : Int) = 3 * ((j * W + i : Nat) : Int) by push_cast; rfl] at this
  exact this.mono fun e w' ⟨h1, h2, h4⟩ => ⟨h1, h2.ext fun t _ => partB_step W R x y z a B j i hi h t, h4⟩

set_option maxRecDepth 100000 in
set_option maxHeartbeats 3200000 in
theorem put_any (W H n c d : Nat) (A D : Option Addr) (R : Nat → Nat → Bool) (x y z a : Int) (B : Nat → Int) (w : World) (hW : 1 ≤ W ∧ W ≤ 64) (hH : 1 ≤ H ∧ H ≤ 64) (hn : n = 3 * (W * H)) (hx : 0 ≤ x ∧ x ≤ 255) (hy : 0 ≤ y ∧ y ≤ 255) (hz : 0 ≤ z ∧ z ≤ 255) (ha : 0 ≤ a ∧ a ≤ 255)
    (hp : Pg w A n c B) (hr : Rows w D H d (rowsOf W R)) :
    Calls Try.prog 53 #[.agg #[.int .i64 (W : Int), .int .i64 (H : Int), .slice A n c], .agg #[.int .i64 (W : Int), .int .i64 (H : Int), .slice D H d], .agg #[.int .u8 x, .int .u8 y, .int .u8 z, .int .u8 a]] w fun e w' =>
      ∃ g f, w.heap.size ≤ g ∧ e = .returned (.tuple #[.agg #[.int .i64 (W : Int), .int .i64 (H : Int), .slice (some ⟨g, 0, none⟩) n f], .int .i64 0]) ∧ Pg w' (some ⟨g, 0, none⟩) n f (putB W R x y z a B) ∧ Below w.heap.size w w' := by
  have hmf := mkfunc
  have hs := page_size hW hH
  have HF := Lib.hid (fun W' (hW' : Below w.heap.size w W') => fits_yes W H n c d A D R W' hW hH hn (hr.below hW'))
  have HC := Lib.hid (fun W' (hW' : Below w.heap.size w W') => copied_any W H n c A B W' (by omega) (by omega) (hp.below hW'))
  have HWK := Lib.hid (fun g f hnd hk hq => put_walks g W H n f (w.heap.size + 1 + 1) w.heap.size R x y z a B hW hH hn hnd hx hy hz ha hk hq)
  have HEA := Lib.hid (fun w2 g Rel hV hgV hgw hw h0 => each_any w w2 g W H d D R 100 #[.pointer (some ⟨w.heap.size + 1 + 1, 0, none⟩), .pointer (some ⟨w.heap.size, 0, none⟩)] Rel (fun args W => by kernel_rfl) hW.2 hH.2 hr hV hgV hgw hw h0)
  have HN := Lib.hid hn
  have s1 : ∀ (u : World) (o : Obj), (u.alloc o).heap.size = u.heap.size + 1 := fun u o => by simp
  have Kp := (((Blk.new w 46 #[.int .i64 (W : Int), .int .i64 (H : Int), .slice A n c]).alloc (.cells #[.int .i64 (W : Int), .int .i64 (H : Int), .slice D H d] 51)).alloc (.cells #[.int .u8 x, .int .u8 y, .int .u8 z, .int .u8 a] 62)).alloc (.cells #[.int .i64 0, .int .i64 0, .slice none 0 0] 46)
  have Kr := ((Blk.new (w.alloc (.cells #[.int .i64 (W : Int), .int .i64 (H : Int), .slice A n c] 46)) 51 #[.int .i64 (W : Int), .int .i64 (H : Int), .slice D H d]).alloc (.cells #[.int .u8 x, .int .u8 y, .int .u8 z, .int .u8 a] 62)).alloc (.cells #[.int .i64 0, .int .i64 0, .slice none 0 0] 46)
  have Kk := (Blk.new ((w.alloc (.cells #[.int .i64 (W : Int), .int .i64 (H : Int), .slice A n c] 46)).alloc (.cells #[.int .i64 (W : Int), .int .i64 (H : Int), .slice D H d] 51)) 62 #[.int .u8 x, .int .u8 y, .int .u8 z, .int .u8 a]).alloc (.cells #[.int .i64 0, .int .i64 0, .slice none 0 0] 46)
  have Kz := Blk.new (((w.alloc (.cells #[.int .i64 (W : Int), .int .i64 (H : Int), .slice A n c] 46)).alloc (.cells #[.int .i64 (W : Int), .int .i64 (H : Int), .slice D H d] 51)).alloc (.cells #[.int .u8 x, .int .u8 y, .int .u8 z, .int .u8 a] 62)) 46 #[.int .i64 0, .int .i64 0, .slice none 0 0]
  simp only [s1] at Kr Kk Kz
  clear s1 hn hr hp hW hH hx hy hz ha
  go_enter Try.func53, Try.ntmps53
  go_wp2_with fail
  refine (HF.out _ (by (repeat' (first | exact Below.refl _ _ | exact Below.refl _ _ | refine balloc ?_ _ | refine Below.drew ?_ | refine below_drewN ?_ _ | refine bset ?_ (by first | omega | (simp <;> omega)) _)))).mono ?_
  rintro e_ w1 ⟨rfl, hb1⟩
  have hbw : Below w.heap.size w w1 := btrans (by (repeat' (first | exact Below.refl _ _ | exact Below.refl _ _ | refine balloc ?_ _ | refine Below.drew ?_ | refine below_drewN ?_ _ | refine bset ?_ (by first | omega | (simp <;> omega)) _))) hb1
  replace Kp := Kp.below hb1 (by first | (simp; done) | (simp; omega))
  replace Kr := Kr.below hb1 (by first | (simp; done) | (simp; omega))
  replace Kk := Kk.below hb1 (by first | (simp; done) | (simp; omega))
  replace Kz := Kz.below hb1 (by first | (simp; done) | (simp; omega))
  have lp := Kp.lt
  have lr := Kr.lt
  have lk := Kk.lt
  have lz := Kz.lt
  have a0 := Kp.cell 0
  have a1 := Kp.cell 1
  have a2 := Kp.cell 2
  simp only [List.getElem?_toArray, List.getElem?_cons_succ, List.getElem?_cons_zero] at a0 a1 a2
  have HKp := Lib.hid Kp
  have HKr := Lib.hid Kr
  have HKk := Lib.hid Kk
  have HKz := Lib.hid Kz
  have HBW := Lib.hid hbw
  clear Kp Kr Kk Kz hbw hb1 HF
  go_wp2_with fail
  refine (HC.out _ HBW.out).mono ?_
  rintro e_ w2 ⟨g, f, cs, hg, rfl, hnf, hB, hH2, hb1⟩
  have hbw := btrans HBW.out hb1
  have Kp := HKp.out.below hb1 lp
  have Kr := HKr.out.below hb1 lr
  have Kk := HKk.out.below hb1 lk
  have Kz := HKz.out.below hb1 lz
  have hgl := hB.lt
  have hgw : w.heap.size ≤ g := by have := HBW.out.size; omega
  have e1 : w.heap.size + 1 + 1 ≠ g := by omega
  have e2 : w.heap.size ≠ g := by omega
  have e3 : w.heap.size + 1 + 1 + 1 ≠ g := by omega
  have P1 : PRel g n (w.heap.size + 1 + 1) w.heap.size #[.int .u8 x, .int .u8 y, .int .u8 z, .int .u8 a] #[.int .i64 (W : Int), .int .i64 (H : Int), .slice (some ⟨g, 0, none⟩) n f] B (((w2.setCell ⟨w.heap.size, 0, none⟩ (.int .i64 (W : Int))).setCell ⟨w.heap.size, 1, none⟩ (.int .i64 (H : Int))).setCell ⟨w.heap.size, 2, none⟩ (.slice (some ⟨g, 0, none⟩) n f)) :=
    ⟨cs, ((hB.far e2.symm _).far e2.symm _).far e2.symm _, hH2, ((Kk.far (p := ⟨w.heap.size, 0, none⟩) (by simp; omega) _).far (p := ⟨w.heap.size, 1, none⟩) (by simp; omega) _).far (p := ⟨w.heap.size, 2, none⟩) (by simp; omega) _, ((Kp.set_ 0 _).set_ 1 _).set_ 2 _⟩
  have Z1 := ((Kz.far (p := ⟨w.heap.size, 0, none⟩) (by simp; omega) (.int .i64 (W : Int))).far (p := ⟨w.heap.size, 1, none⟩) (by simp; omega) (.int .i64 (H : Int))).far (p := ⟨w.heap.size, 2, none⟩) (by simp; omega) (.slice (some ⟨g, 0, none⟩) n f)
  have R1 := ((Kr.far (p := ⟨w.heap.size, 0, none⟩) (by simp) (.int .i64 (W : Int))).far (p := ⟨w.heap.size, 1, none⟩) (by simp) (.int .i64 (H : Int))).far (p := ⟨w.heap.size, 2, none⟩) (by simp) (.slice (some ⟨g, 0, none⟩) n f)
  clear HKp HKr HKk HKz HBW hb1 a0 a1 a2 lp lr lk lz HC hg hB hH2
  have a0 := Kp.cell 0
  have a1 := Kp.cell 1
  have a2 := Kp.cell 2
  have f0 := Kp.frozen 0
  have f1 := Kp.frozen 1
  have f2 := Kp.frozen 2
  have b0 := Kr.cell 0
  have b1 := Kr.cell 1
  have b2 := Kr.cell 2
  simp only [List.getElem?_toArray, List.getElem?_cons_succ, List.getElem?_cons_zero] at a0 a1 a2 b0 b1 b2
  have HP1 := Lib.hid P1
  have HZ1 := Lib.hid Z1
  have HR1 := Lib.hid R1
  have HBW := Lib.hid hbw
  have HNF := Lib.hid hnf
  clear Kp Kr Kk Kz hbw P1 Z1 R1 hnf
  go_wp2_with fail
  refine (HEA.out _ g _ (by (repeat' (first | refine bset ?_ (by first | omega | (simp <;> omega)) _ | refine balloc ?_ _ | refine Below.drew ?_ | refine below_drewN ?_ _ | exact HBW.out | exact Below.refl _ _))) hgw (by simpa using hgl) (HWK.out g f HNF.out e1 e2) (HP1.out.ext fun j _ => partB_zero W R x y z a B j)).mono ?_
  rintro e_ w3 ⟨rfl, hP, hG⟩
  have hbw : Below w.heap.size w w3 := Below.grown (by (repeat' (first | refine bset ?_ (by first | omega | (simp <;> omega)) _ | refine balloc ?_ _ | refine Below.drew ?_ | refine below_drewN ?_ _ | exact HBW.out | exact Below.refl _ _))) hG (by have := HBW.out.size; simpa using this) (fun k e => by cases e; exact hgw)
  have Kz := HZ1.out.grown hG (by simp; omega)
  clear HP1 HZ1 HR1 HBW hG a0 a1 a2 b0 b1 b2 f0 f1 f2 HEA HWK
  obtain ⟨cs3, h1, h2, h3, h4⟩ := hP
  have a0 := h4.cell 0
  have a1 := h4.cell 1
  have a2 := h4.cell 2
  have z0 := Kz.cell 0
  have z1 := Kz.cell 1
  have z2 := Kz.cell 2
  have f0 := Kz.frozen 0
  have f1 := Kz.frozen 1
  have f2 := Kz.frozen 2
  simp only [List.getElem?_toArray, List.getElem?_cons_succ, List.getElem?_cons_zero] at a0 a1 a2 z0 z1 z2
  have H1 := Lib.hid h1
  have H2 := Lib.hid h2
  have HKz := Lib.hid Kz
  have HBW := Lib.hid hbw
  clear h1 h2 h3 h4 Kz hbw
  go_wp2_with fail
  have K := ((HKz.out.set_ 0 (.int .i64 (W : Int))).set_ 1 (.int .i64 (H : Int))).set_ 2 (.slice (some ⟨g, 0, none⟩) n f)
  refine ret_struct2 (g := w.heap.size + 1 + 1 + 1) (t := 46) (cs := #[.int .i64 (W : Int), .int .i64 (H : Int), .slice (some ⟨g, 0, none⟩) n f]) rfl rfl ?_ Try.underlying46 rfl rfl rfl ?_
  · exact K
  · refine ⟨g, f, hgw, rfl, (H2.out.ext fun t ht => partB_all W H R x y z a B t (by have := HN.out; omega)).pg (((H1.out.far (p := ⟨_, 0, none⟩) e3.symm _).far (p := ⟨_, 1, none⟩) e3.symm _).far (p := ⟨_, 2, none⟩) e3.symm _) HNF.out, by (repeat' (first | refine bset ?_ (by first | omega | (simp <;> omega)) _ | refine balloc ?_ _ | refine Below.drew ?_ | refine below_drewN ?_ _ | exact HBW.out | exact Below.refl _ _))⟩
end Go.Proofs.Ytegpjjkbbdfggaa.rg
