/-
  region.Of, ink.Unlike. (PRUNE)
-/
import Derived.Test.YtodeebaogpepkaaMaskOf
import Derived.Test.YtodeebaogpepkaaSameP
import Derived.Test.YtodeebaogpepkaaPut
import Derived.Test.YtodeebaogpepkaaUpTail
import Derived.BigQuiet
import Derived.Deep.CutRange
namespace Go.Proofs.Ytodeebaogpepkaa.rg
set_option linter.unusedVariables false
set_option linter.unusedSimpArgs false
open Go.RowKit bs sp ik

set_option maxRecDepth 100000 in
set_option maxHeartbeats 3200000 in
theorem rof_any (W H q c : Nat) (A : Option Addr) (B : Nat → Int) (w : World) (hW : 1 ≤ W ∧ W ≤ 64) (hH : 1 ≤ H ∧ H ≤ 64) (hq : q = W * H) (hp : Pg w A q c B) (hB : ∀ j, j < q → B j = 0 ∨ B j = 1) :
    Calls Try.prog 37 #[.agg #[.int .i64 (W : Int), .int .i64 (H : Int), .slice A q c]] w fun e w' =>
      ∃ g, w.heap.size ≤ g ∧ e = .returned (.tuple #[.agg #[.int .i64 (W : Int), .int .i64 (H : Int), .slice (some ⟨g, 0, none⟩) H H], .int .i64 0]) ∧ Rows w' (some ⟨g, 0, none⟩) H H (rowsOf W (fun j i => decide (B (j * W + i) = 1))) ∧ Below w.heap.size w w' := by
  have hmf := mkfunc
  have HM1 := Lib.hid (fun W' (hW' : Below w.heap.size w W') => cmay_yes W H q c A B W' hW hH hq (hp.below hW') (fun j hj => by rcases hB j hj with h | h <;> omega))
  have HMD := Lib.hid (fun W' hrow => made_any W H 57 #[.pointer (some ⟨w.heap.size, 0, none⟩)] (fun j => mrow B (j * W) W) W' hW hH (fun args W => by kernel_rfl) hrow)
  have HROW := Lib.hid (fun (j : Nat) (W' : World) (hj : j < H) (hW' : Below w.heap.size w W') (Km : Blk W' w.heap.size 36 #[.int .i64 (W : Int), .int .i64 (H : Int), .slice A q c]) => of1_any W H q c w.heap.size j A B W' hW hH hj hq Km (hp.below hW'))
  have hL : ∀ j, j < H → norm (mrow B (j * W) W) W = rowsOf W (fun j i => decide (B (j * W + i) = 1)) j := fun j hj => norm_mrow W B j hW.2 (fun t ht => hB _ (by
    have h1 : (j + 1) * W ≤ H * W := Nat.mul_le_mul_right W hj
    rw [Nat.add_mul, Nat.one_mul, Nat.mul_comm H W, ← hq] at h1
    omega))
  have HL := Lib.hid hL
  have Ka := (Blk.new w 36 #[.int .i64 (W : Int), .int .i64 (H : Int), .slice A q c]).alloc (.cells #[.int .i64 0, .int .i64 0, .slice none 0 0] 50)
  have Kr := zreg (w.alloc (.cells #[.int .i64 (W : Int), .int .i64 (H : Int), .slice A q c] 36))
  have s1 : ∀ (u : World) (o : Obj), (u.alloc o).heap.size = u.heap.size + 1 := fun u o => by simp
  simp only [s1] at Kr
  clear s1 hW hH hp hq hB hL
  go_enter Try.func37, Try.ntmps37
  go_wp2_with fail
  refine (HM1.out _ (by (repeat' (first | exact Below.refl _ _ | exact Below.refl _ _ | refine balloc ?_ _ | refine Below.drew ?_ | refine below_drewN ?_ _ | refine bset ?_ (by first | omega | (simp <;> omega)) _)))).mono ?_
  rintro e_ w1 ⟨rfl, hb1⟩
  have hbw : Below w.heap.size w w1 := btrans (by (repeat' (first | exact Below.refl _ _ | exact Below.refl _ _ | refine balloc ?_ _ | refine Below.drew ?_ | refine below_drewN ?_ _ | refine bset ?_ (by first | omega | (simp <;> omega)) _))) hb1
  replace Ka := Ka.below hb1 (by first | (simp; done) | (simp; omega))
  replace Kr := Kr.below hb1 (by first | (simp; done) | (simp; omega))
  have la := Ka.lt
  have lr := Kr.lt
  have a0 := Ka.cell 0
  have a1 := Ka.cell 1
  simp only [List.getElem?_toArray, List.getElem?_cons_succ, List.getElem?_cons_zero] at a0 a1
  have HKa := Lib.hid Ka
  have HKr := Lib.hid Kr
  have HBW := Lib.hid hbw
  clear Ka Kr hbw hb1 HM1
  go_wp2_with fail
  refine (HMD.out _ (fun j W' hj hW' => HROW.out j W' hj (btrans HBW.out hW') (HKa.out.below hW' la))).mono ?_
  rintro e_ w3 ⟨g, hg, rfl, hr3, hb1⟩
  have hr4 : Rows w3 (some ⟨g, 0, none⟩) H H (rowsOf W (fun j i => decide (B (j * W + i) = 1))) := hr3.ext fun j hj => HL.out j hj
  have hgne : g ≠ w.heap.size + 1 := by omega
  have hg2 : w.heap.size ≤ g := by omega
  have hbw : Below w.heap.size w w3 := btrans HBW.out hb1
  have Kr := HKr.out.below hb1 lr
  clear hg hb1 HMD hr3 HROW HL lr HKr HBW HKa la
  have g0 := Kr.cell 0
  have g1 := Kr.cell 1
  have g2 := Kr.cell 2
  have f0 := Kr.frozen 0
  have f1 := Kr.frozen 1
  have f2 := Kr.frozen 2
  simp only [List.getElem?_toArray, List.getElem?_cons_succ, List.getElem?_cons_zero] at g0 g1 g2
  have HKr := Lib.hid Kr
  have HBW := Lib.hid hbw
  have HR4 := Lib.hid hr4
  clear Kr hbw hr4
  go_wp2_with fail
  have K := ((HKr.out.set_ 0 (.int .i64 (W : Int))).set_ 1 (.int .i64 (H : Int))).set_ 2 (.slice (some ⟨g, 0, none⟩) H H)
  refine ret_struct2 (g := w.heap.size + 1) (t := 50) (cs := #[.int .i64 (W : Int), .int .i64 (H : Int), .slice (some ⟨g, 0, none⟩) H H]) rfl rfl ?_ Try.underlying50 rfl rfl rfl ?_
  · exact K
  · exact ⟨g, by omega, rfl, Rows.setBox HR4.out hgne HKr.out _ _ _, by (repeat' (first | refine bset ?_ (by first | omega | (simp <;> omega)) _ | refine balloc ?_ _ | refine Below.drew ?_ | refine below_drewN ?_ _ | exact HBW.out | exact Below.refl _ _))⟩

/-- do two pixels differ? -/
def dif (B C : Nat → Int) (k : Nat) : Bool := !(decide (B (3 * k) = C (3 * k)) && decide (B (3 * k + 1) = C (3 * k + 1)) && decide (B (3 * k + 2) = C (3 * k + 2)))
theorem Pg.sub {w : World} {b o n c : Nat} {B : Nat → Int} (h : Pg w (some ⟨b, o, none⟩) n c B) (p cc : Nat) (hp : p + 3 ≤ n) (hc : 3 ≤ cc) : Pg w (some ⟨b, o + p, none⟩) 3 cc (fun t => B (p + t)) := by
  obtain ⟨h1, b', o', e, hlt, hx⟩ := h
  cases e
  exact ⟨hc, b, o + p, rfl, hlt, fun j hj => by rw [Nat.add_assoc]; exact hx (p + j) (by omega)⟩
theorem u8_inj {x y : Int} (hx : 0 ≤ x ∧ x ≤ 255) (hy : 0 ≤ y ∧ y ≤ 255) (h : UInt8.ofNat x.toNat = UInt8.ofNat y.toNat) : x = y := by
  have h1 := congrArg UInt8.toNat h
  rw [UInt8.toNat_ofNat', UInt8.toNat_ofNat'] at h1
  omega
/-- three bytes as strings: alike just if the bytes are -/
theorem str3 (B C : Nat → Int) (k : Nat) (hB : ∀ t, t < 3 → 0 ≤ B (3 * k + t) ∧ B (3 * k + t) ≤ 255) (hC : ∀ t, t < 3 → 0 ≤ C (3 * k + t) ∧ C (3 * k + t) ≤ 255) :
    ((⟨(listB 3 fun t => B (3 * k + t)).toArray⟩ : ByteArray) = ⟨(listB 3 fun t => C (3 * k + t)).toArray⟩) ↔ dif B C k = false := by
  have e : ∀ (f : Nat → Int), listB 3 f = [UInt8.ofNat (f 0).toNat, UInt8.ofNat (f 1).toNat, UInt8.ofNat (f 2).toNat] := fun f => rfl
  unfold dif
  simp only [Bool.not_eq_false', Bool.and_eq_true, decide_eq_true_eq]
  constructor
  · intro h
    have h1 : (listB 3 fun t => B (3 * k + t)) = (listB 3 fun t => C (3 * k + t)) := by
      have h2 : (listB 3 fun t => B (3 * k + t)).toArray = (listB 3 fun t => C (3 * k + t)).toArray := by injection h
      exact List.toArray_inj h2
    rw [e, e] at h1
    simp only [List.cons.injEq, and_true, Nat.add_zero] at h1
    exact ⟨⟨u8_inj (hB 0 (by omega)) (hC 0 (by omega)) h1.1, u8_inj (hB 1 (by omega)) (hC 1 (by omega)) h1.2.1⟩, u8_inj (hB 2 (by omega)) (hC 2 (by omega)) h1.2.2⟩
  · rintro ⟨⟨h0, h1⟩, h2⟩
    rw [e, e]
    simp only [Nat.add_zero, h0, h1, h2]
/-- Unlike's loop: the mask's bytes, the boxes -/
def URel (w : World) (mg mb W H n q c d : Nat) (A D : Option Addr) (f : Nat → Bool) (k : Nat) (wr : World) : Prop :=
  ∃ cs, Blk wr mg 5 cs ∧ Holds cs q (fun j => if j < k ∧ f j = true then 1 else 0) ∧ Blk wr mb 36 #[.int .i64 (W : Int), .int .i64 (H : Int), .slice (some ⟨mg, 0, none⟩) q q] ∧
    Blk wr w.heap.size 34 #[.int .i64 (W : Int), .int .i64 (H : Int), .slice A n c] ∧ Blk wr (w.heap.size + 1) 34 #[.int .i64 (W : Int), .int .i64 (H : Int), .slice D n d] ∧ Blk wr (w.heap.size + 1 + 1) 50 #[.int .i64 0, .int .i64 0, .slice none 0 0] ∧
    w.heap.size + 1 + 1 < mg ∧ mb ≠ mg ∧ Below w.heap.size w wr
theorem URel.below {w wr w' : World} {mg mb W H n q c d : Nat} {A D : Option Addr} {f : Nat → Bool} {k : Nat} (h : URel w mg mb W H n q c d A D f k wr) (hb : Below wr.heap.size wr w') : URel w mg mb W H n q c d A D f k w' := by
  obtain ⟨cs, h1, h2, h3, h4, h5, h6, h7, h8, h9⟩ := h
  exact ⟨cs, h1.below hb h1.lt, h2, h3.below hb h3.lt, h4.below hb h4.lt, h5.below hb h5.lt, h6.below hb h6.lt, h7, h8, btrans h9 hb⟩
theorem URel.skip {w wr : World} {mg mb W H n q c d : Nat} {A D : Option Addr} {f : Nat → Bool} {k : Nat} (h : URel w mg mb W H n q c d A D f k wr) (hf : f k = false) : URel w mg mb W H n q c d A D f (k + 1) wr := by
  obtain ⟨cs, h1, h2, h3⟩ := h
  refine ⟨cs, h1, h2.ext fun j hj => ?_, h3⟩
  by_cases e : j = k
  · subst e; simp [hf]
  · have : j < k + 1 ↔ j < k := by omega
    simp only [this]
theorem URel.put {w wr : World} {mg mb W H n q c d : Nat} {A D : Option Addr} {f : Nat → Bool} {k : Nat} (h : URel w mg mb W H n q c d A D f k wr) (hf : f k = true) : URel w mg mb W H n q c d A D f (k + 1) (wr.setCell ⟨mg, k, none⟩ (.int .u8 1)) := by
  obtain ⟨cs, h1, h2, h3, h4, h5, h6, h7, h8, h9⟩ := h
  refine ⟨_, h1.set_ k _, (h2.put k 1 (by omega) (by omega)).ext fun j hj => ?_, h3.far h8 _, h4.far (by simp; omega) _, h5.far (by simp; omega) _, h6.far (by simp; omega) _, h7, h8, bset h9 (by simp; omega) _⟩
  by_cases e : j = k
  · subst e; simp [hf]
  · have : j < k + 1 ↔ j < k := by omega
    simp only [this, if_neg e]
theorem URel.start1 {w w1 : World} {W H n q c d : Nat} {A D : Option Addr} (f : Nat → Bool) (hb : Below w.heap.size w w1) (K1 : Blk w1 w.heap.size 34 #[.int .i64 (W : Int), .int .i64 (H : Int), .slice A n c]) (K2 : Blk w1 (w.heap.size + 1) 34 #[.int .i64 (W : Int), .int .i64 (H : Int), .slice D n d]) (K3 : Blk w1 (w.heap.size + 1 + 1) 50 #[.int .i64 0, .int .i64 0, .slice none 0 0]) :
    URel w w1.heap.size (w1.heap.size + 1) W H n q c d A D f 0 ((w1.alloc (.cells (madeCells #[.int .u8 0] q) 5)).alloc (.cells #[.int .i64 (W : Int), .int .i64 (H : Int), .slice (some ⟨w1.heap.size, 0, none⟩) q q] 36)) := by
  have b2 := Blk.new (w1.alloc (.cells (madeCells #[.int .u8 0] q) 5)) 36 #[.int .i64 (W : Int), .int .i64 (H : Int), .slice (some ⟨w1.heap.size, 0, none⟩) q q]
  have s1 : ∀ (u : World) (o : Obj), (u.alloc o).heap.size = u.heap.size + 1 := fun u o => by simp
  simp only [s1] at b2
  exact ⟨_, (Blk.new _ _ _).alloc _, ⟨by rw [size_madeCells]; omega, fun j hj => ⟨by simp [madeCells, hj, Nat.mod_one], by simp, by simp⟩⟩, b2, (K1.alloc _).alloc _, (K2.alloc _).alloc _, (K3.alloc _).alloc _, K3.lt, by omega, balloc (balloc hb _) _⟩
theorem URel.start2 {w w1 : World} {W H n q c d : Nat} {A D : Option Addr} (f : Nat → Bool) (hb : Below w.heap.size w w1) (K1 : Blk w1 w.heap.size 34 #[.int .i64 (W : Int), .int .i64 (H : Int), .slice A n c]) (K2 : Blk w1 (w.heap.size + 1) 34 #[.int .i64 (W : Int), .int .i64 (H : Int), .slice D n d]) (K3 : Blk w1 (w.heap.size + 1 + 1) 50 #[.int .i64 0, .int .i64 0, .slice none 0 0]) :
    URel w (w1.heap.size + 1) w1.heap.size W H n q c d A D f 0 ((w1.alloc (.cells #[.int .i64 (W : Int), .int .i64 (H : Int), .slice (some ⟨w1.heap.size + 1, 0, none⟩) q q] 36)).alloc (.cells (madeCells #[.int .u8 0] q) 5)) := by
  have b2 := Blk.new (w1.alloc (.cells #[.int .i64 (W : Int), .int .i64 (H : Int), .slice (some ⟨w1.heap.size + 1, 0, none⟩) q q] 36)) 5 (madeCells #[.int .u8 0] q)
  have s1 : ∀ (u : World) (o : Obj), (u.alloc o).heap.size = u.heap.size + 1 := fun u o => by simp
  simp only [s1] at b2
  exact ⟨_, b2, ⟨by rw [size_madeCells]; omega, fun j hj => ⟨by simp [madeCells, hj, Nat.mod_one], by simp, by simp⟩⟩, (Blk.new _ _ _).alloc _, (K1.alloc _).alloc _, (K2.alloc _).alloc _, (K3.alloc _).alloc _, by have := K3.lt; omega, by omega, balloc (balloc hb _) _⟩

end Go.Proofs.Ytodeebaogpepkaa.rg
