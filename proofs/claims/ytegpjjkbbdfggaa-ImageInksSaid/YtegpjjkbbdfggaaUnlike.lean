/-
  region.Of, ink.Unlike. (PRUNE)
-/
import Derived.Test.YtegpjjkbbdfggaaMaskOf
import Derived.Test.YtegpjjkbbdfggaaSameP
import Derived.Test.YtegpjjkbbdfggaaPut
import Derived.Test.YtegpjjkbbdfggaaUpTail
import Derived.BigQuiet
import Derived.Deep.CutRange
namespace Go.Proofs.Ytegpjjkbbdfggaa.rg
set_option linter.unusedVariables false
set_option linter.unusedSimpArgs false
open Go.RowKit bs sp ik

set_option maxRecDepth 100000 in
set_option maxHeartbeats 3200000 in
theorem rof_any (W H q c : Nat) (A : Option Addr) (B : Nat → Int) (w : World) (hW : 1 ≤ W ∧ W ≤ 64) (hH : 1 ≤ H ∧ H ≤ 64) (hq : q = W * H) (hp : Pg w A q c B) (hB : ∀ j, j < q → B j = 0 ∨ B j = 1) :
    Calls Try.prog 74 #[.agg #[.int .i64 (W : Int), .int .i64 (H : Int), .slice A q c]] w fun e w' =>
      ∃ g, w.heap.size ≤ g ∧ e = .returned (.tuple #[.agg #[.int .i64 (W : Int), .int .i64 (H : Int), .slice (some ⟨g, 0, none⟩) H H], .int .i64 0]) ∧ Rows w' (some ⟨g, 0, none⟩) H H (rowsOf W (fun j i => decide (B (j * W + i) = 1))) ∧ Below w.heap.size w w' := by
  have hmf := mkfunc
  have HM1 := Lib.hid (fun W' (hW' : Below w.heap.size w W') => cmay_yes W H q c A B W' hW hH hq (hp.below hW') (fun j hj => by rcases hB j hj with h | h <;> omega))
  have HMD := Lib.hid (fun W' hrow => made_any W H 114 #[.pointer (some ⟨w.heap.size, 0, none⟩)] (fun j => mrow B (j * W) W) W' hW hH (fun args W => by kernel_rfl) hrow)
  have HROW := Lib.hid (fun (j : Nat) (W' : World) (hj : j < H) (hW' : Below w.heap.size w W') (Km : Blk W' w.heap.size 111 #[.int .i64 (W : Int), .int .i64 (H : Int), .slice A q c]) => of1_any W H q c w.heap.size j A B W' hW hH hj hq Km (hp.below hW'))
  have hL : ∀ j, j < H → norm (mrow B (j * W) W) W = rowsOf W (fun j i => decide (B (j * W + i) = 1)) j := fun j hj => norm_mrow W B j hW.2 (fun t ht => hB _ (by
    have h1 : (j + 1) * W ≤ H * W := Nat.mul_le_mul_right W hj
    rw [Nat.add_mul, Nat.one_mul, Nat.mul_comm H W, ← hq] at h1
    omega))
  have HL := Lib.hid hL
  have Ka := (Blk.new w 111 #[.int .i64 (W : Int), .int .i64 (H : Int), .slice A q c]).alloc (.cells #[.int .i64 0, .int .i64 0, .slice none 0 0] 51)
  have Kr := zreg (w.alloc (.cells #[.int .i64 (W : Int), .int .i64 (H : Int), .slice A q c] 111))
  have s1 : ∀ (u : World) (o : Obj), (u.alloc o).heap.size = u.heap.size + 1 := fun u o => by simp
  simp only [s1] at Kr
  clear s1 hW hH hp hq hB hL
  go_enter Try.func74, Try.ntmps74
  go_wp2_with fail
  refine (HM1.out _ (by (repeat' (first | exact Below.refl _ _ | exact Below.refl _ _ | refine balloc ?_ _ | refine Below.drew ?_ | refine below_drewN ?_ _ | refine bset ?_ (by first | omega | (simp <;> omega)) _)))).mono ?_
  rintro e_ w1 ⟨rfl, hb1⟩
  have hbw : Below w.heap.size w w1 := btrans (by (repeat' (first | exact Below.refl _ _ | exact Below.refl _ _ | refine balloc ?_ _ | refine Below.drew ?_ | refine below_drewN ?_ _ | refine bset ?_ (by first | omega | (simp <;> omega)) _))) hb1
  replace Ka := Ka.below hb1 (by first | (simp; done) | (simp; omega))
  replace Kr := Kr.below hb1 (by first | (simp; done) | (simp; omega))
  have la := Ka.lt
  have lr := Kr.lt
  have a0 := Ka.cell 0
  have a1 := Ka.cell 1
  simp only [List.getElem?_toArray, List.getElem?_cons_succ, List.getElem?_cons_zero] at a0 a1
  have HKa := Lib.hid Ka
  have HKr := Lib.hid Kr
  have HBW := Lib.hid hbw
  clear Ka Kr hbw hb1 HM1
  go_wp2_with fail
  refine (HMD.out _ (fun j W' hj hW' => HROW.out j W' hj (btrans HBW.out hW') (HKa.out.below hW' la))).mono ?_
  rintro e_ w3 ⟨g, hg, rfl, hr3, hb1⟩
  have hr4 : Rows w3 (some ⟨g, 0, none⟩) H H (rowsOf W (fun j i => decide (B (j * W + i) = 1))) := hr3.ext fun j hj => HL.out j hj
  have hgne : g ≠ w.heap.size + 1 := by omega
  have hg2 : w.heap.size ≤ g := by omega
  have hbw : Below w.heap.size w w3 := btrans HBW.out hb1
  have Kr := HKr.out.below hb1 lr
  clear hg hb1 HMD hr3 HROW HL lr HKr HBW HKa la
  have g0 := Kr.cell 0
  have g1 := Kr.cell 1
  have g2 := Kr.cell 2
  have f0 := Kr.frozen 0
  have f1 := Kr.frozen 1
  have f2 := Kr.frozen 2
  simp only [List.getElem?_toArray, List.getElem?_cons_succ, List.getElem?_cons_zero] at g0 g1 g2
  have HKr := Lib.hid Kr
  have HBW := Lib.hid hbw
  have HR4 := Lib.hid hr4
  clear Kr hbw hr4
  go_wp2_with fail
  have K := ((HKr.out.set_ 0 (.int .i64 (W : Int))).set_ 1 (.int .i64 (H : Int))).set_ 2 (.slice (some ⟨g, 0, none⟩) H H)
  refine ret_struct2 (g := w.heap.size + 1) (t := 51) (cs := #[.int .i64 (W : Int), .int .i64 (H : Int), .slice (some ⟨g, 0, none⟩) H H]) rfl rfl ?_ Try.underlying51 rfl rfl rfl ?_
  · exact K
  · exact ⟨g, by omega, rfl, Rows.setBox HR4.out hgne HKr.out _ _ _, by (repeat' (first | refine bset ?_ (by first | omega | (simp <;> omega)) _ | refine balloc ?_ _ | refine Below.drew ?_ | refine below_drewN ?_ _ | exact HBW.out | exact Below.refl _ _))⟩

/-- do two pixels differ? -/
def dif (B C : Nat → Int) (k : Nat) : Bool := !(decide (B (3 * k) = C (3 * k)) && decide (B (3 * k + 1) = C (3 * k + 1)) && decide (B (3 * k + 2) = C (3 * k + 2)))
theorem Pg.sub {w : World} {b o n c : Nat} {B : Nat → Int} (h : Pg w (some ⟨b, o, none⟩) n c B) (p cc : Nat) (hp : p + 3 ≤ n) (hc : 3 ≤ cc) : Pg w (some ⟨b, o + p, none⟩) 3 cc (fun t => B (p + t)) := by
  obtain ⟨h1, b', o', e, hlt, hx⟩ := h
  cases e
  exact ⟨hc, b, o + p, rfl, hlt, fun j hj => by rw [Nat.add_assoc]; exact hx (p + j) (by omega)⟩
theorem u8_inj {x y : Int} (hx : 0 ≤ x ∧ x ≤ 255) (hy : 0 ≤ y ∧ y ≤ 255) (h : UInt8.ofNat x.toNat = UInt8.ofNat y.toNat) : x = y := by
  have h1 := congrArg UInt8.toNat h
  rw [UInt8.toNat_ofNat', UInt8.toNat_ofNat'] at h1
  omega
/-- three bytes as strings: alike just if the bytes are -/
theorem str3 (B C : Nat → Int) (k : Nat) (hB : ∀ t, t < 3 → 0 ≤ B (3 * k + t) ∧ B (3 * k + t) ≤ 255) (hC : ∀ t, t < 3 → 0 ≤ C (3 * k + t) ∧ C (3 * k + t) ≤ 255) :
    ((⟨(listB 3 fun t => B (3 * k + t)).toArray⟩ : ByteArray) = ⟨(listB 3 fun t => C (3 * k + t)).toArray⟩) ↔ dif B C k = false := by
  have e : ∀ (f : Nat → Int), listB 3 f = [UInt8.ofNat (f 0).toNat, UInt8.ofNat (f 1).toNat, UInt8.ofNat (f 2).toNat] := fun f => rfl
  unfold dif
  simp only [Bool.not_eq_false', Bool.and_eq_true, decide_eq_true_eq]
  constructor
  · intro h
    have h1 : (listB 3 fun t => B (3 * k + t)) = (listB 3 fun t => C (3 * k + t)) := by
      have h2 : (listB 3 fun t => B (3 * k + t)).toArray = (listB 3 fun t => C (3 * k + t)).toArray := by injection h
      exact List.toArray_inj h2
    rw [e, e] at h1
    simp only [List.cons.injEq, and_true, Nat.add_zero] at h1
    exact ⟨⟨u8_inj (hB 0 (by omega)) (hC 0 (by omega)) h1.1, u8_inj (hB 1 (by omega)) (hC 1 (by omega)) h1.2.1⟩, u8_inj (hB 2 (by omega)) (hC 2 (by omega)) h1.2.2⟩
  · rintro ⟨⟨h0, h1⟩, h2⟩
    rw [e, e]
    simp only [Nat.add_zero, h0, h1, h2]
/-- Unlike's loop: the mask's bytes, the boxes -/
def URel (w : World) (mg mb W H n q c d : Nat) (A D : Option Addr) (f : Nat → Bool) (k : Nat) (wr : World) : Prop :=
  ∃ cs, Blk wr mg 5 cs ∧ Holds cs q (fun j => if j < k ∧ f j = true then 1 else 0) ∧ Blk wr mb 111 #[.int .i64 (W : Int), .int .i64 (H : Int), .slice (some ⟨mg, 0, none⟩) q q] ∧
    Blk wr w.heap.size 46 #[.int .i64 (W : Int), .int .i64 (H : Int), .slice A n c] ∧ Blk wr (w.heap.size + 1) 46 #[.int .i64 (W : Int), .int .i64 (H : Int), .slice D n d] ∧ Blk wr (w.heap.size + 1 + 1) 51 #[.int .i64 0, .int .i64 0, .slice none 0 0] ∧
    w.heap.size + 1 + 1 < mg ∧ mb ≠ mg ∧ Below w.heap.size w wr
theorem URel.below {w wr w' : World} {mg mb W H n q c d : Nat} {A D : Option Addr} {f : Nat → Bool} {k : Nat} (h : URel w mg mb W H n q c d A D f k wr) (hb : Below wr.heap.size wr w') : URel w mg mb W H n q c d A D f k w' := by
  obtain ⟨cs, h1, h2, h3, h4, h5, h6, h7, h8, h9⟩ := h
  exact ⟨cs, h1.below hb h1.lt, h2, h3.below hb h3.lt, h4.below hb h4.lt, h5.below hb h5.lt, h6.below hb h6.lt, h7, h8, btrans h9 hb⟩
theorem URel.skip {w wr : World} {mg mb W H n q c d : Nat} {A D : Option Addr} {f : Nat → Bool} {k : Nat} (h : URel w mg mb W H n q c d A D f k wr) (hf : f k = false) : URel w mg mb W H n q c d A D f (k + 1) wr := by
  obtain ⟨cs, h1, h2, h3⟩ := h
  refine ⟨cs, h1, h2.ext fun j hj => ?_, h3⟩
  by_cases e : j = k
  · subst e; simp [hf]
  · have : j < k + 1 ↔ j < k := by omega
    simp only [this]
theorem URel.put {w wr : World} {mg mb W H n q c d : Nat} {A D : Option Addr} {f : Nat → Bool} {k : Nat} (h : URel w mg mb W H n q c d A D f k wr) (hf : f k = true) : URel w mg mb W H n q c d A D f (k + 1) (wr.setCell ⟨mg, k, none⟩ (.int .u8 1)) := by
  obtain ⟨cs, h1, h2, h3, h4, h5, h6, h7, h8, h9⟩ := h
  refine ⟨_, h1.set_ k _, (h2.put k 1 (by omega) (by omega)).ext fun j hj => ?_, h3.far h8 _, h4.far (by simp; omega) _, h5.far (by simp; omega) _, h6.far (by simp; omega) _, h7, h8, bset h9 (by simp; omega) _⟩
  by_cases e : j = k
  · subst e; simp [hf]
  · have : j < k + 1 ↔ j < k := by omega
    simp only [this, if_neg e]
theorem URel.start1 {w w1 : World} {W H n q c d : Nat} {A D : Option Addr} (f : Nat → Bool) (hb : Below w.heap.size w w1) (K1 : Blk w1 w.heap.size 46 #[.int .i64 (W : Int), .int .i64 (H : Int), .slice A n c]) (K2 : Blk w1 (w.heap.size + 1) 46 #[.int .i64 (W : Int), .int .i64 (H : Int), .slice D n d]) (K3 : Blk w1 (w.heap.size + 1 + 1) 51 #[.int .i64 0, .int .i64 0, .slice none 0 0]) :
    URel w w1.heap.size (w1.heap.size + 1) W H n q c d A D f 0 ((w1.alloc (.cells (madeCells #[.int .u8 0] q) 5)).alloc (.cells #[.int .i64 (W : Int), .int .i64 (H : Int), .slice (some ⟨w1.heap.size, 0, none⟩) q q] 111)) := by
  have b2 := Blk.new (w1.alloc (.cells (madeCells #[.int .u8 0] q) 5)) 111 #[.int .i64 (W : Int), .int .i64 (H : Int), .slice (some ⟨w1.heap.size, 0, none⟩) q q]
  have s1 : ∀ (u : World) (o : Obj), (u.alloc o).heap.size = u.heap.size + 1 := fun u o => by simp
  simp only [s1] at b2
  exact ⟨_, (Blk.new _ _ _).alloc _, ⟨by rw [size_madeCells]; omega, fun j hj => ⟨by simp [madeCells, hj, Nat.mod_one], by simp, by simp⟩⟩, b2, (K1.alloc _).alloc _, (K2.alloc _).alloc _, (K3.alloc _).alloc _, K3.lt, by omega, balloc (balloc hb _) _⟩
theorem URel.start2 {w w1 : World} {W H n q c d : Nat} {A D : Option Addr} (f : Nat → Bool) (hb : Below w.heap.size w w1) (K1 : Blk w1 w.heap.size 46 #[.int .i64 (W : Int), .int .i64 (H : Int), .slice A n c]) (K2 : Blk w1 (w.heap.size + 1) 46 #[.int .i64 (W : Int), .int .i64 (H : Int), .slice D n d]) (K3 : Blk w1 (w.heap.size + 1 + 1) 51 #[.int .i64 0, .int .i64 0, .slice none 0 0]) :
    URel w (w1.heap.size + 1) w1.heap.size W H n q c d A D f 0 ((w1.alloc (.cells #[.int .i64 (W : Int), .int .i64 (H : Int), .slice (some ⟨w1.heap.size + 1, 0, none⟩) q q] 111)).alloc (.cells (madeCells #[.int .u8 0] q) 5)) := by
  have b2 := Blk.new (w1.alloc (.cells #[.int .i64 (W : Int), .int .i64 (H : Int), .slice (some ⟨w1.heap.size + 1, 0, none⟩) q q] 111)) 5 (madeCells #[.int .u8 0] q)
  have s1 : ∀ (u : World) (o : Obj), (u.alloc o).heap.size = u.heap.size + 1 := fun u o => by simp
  simp only [s1] at b2
  exact ⟨_, b2, ⟨by rw [size_madeCells]; omega, fun j hj => ⟨by simp [madeCells, hj, Nat.mod_one], by simp, by simp⟩⟩, (Blk.new _ _ _).alloc _, (K1.alloc _).alloc _, (K2.alloc _).alloc _, (K3.alloc _).alloc _, by have := K3.lt; omega, by omega, balloc (balloc hb _) _⟩

set_option maxRecDepth 100000 in
set_option maxHeartbeats 3200000 in
theorem unlike_any (W H n c d : Nat) (A D : Option Addr) (B C : Nat → Int) (w : World) (hW : 1 ≤ W ∧ W ≤ 64) (hH : 1 ≤ H ∧ H ≤ 64) (hn : n = 3 * (W * H)) (hp : Pg w A n c B) (hq : Pg w D n d C) :
    Calls Try.prog 50 #[.agg #[.int .i64 (W : Int), .int .i64 (H : Int), .slice A n c], .agg #[.int .i64 (W : Int), .int .i64 (H : Int), .slice D n d]] w fun e w' =>
      ∃ g, w.heap.size ≤ g ∧ e = .returned (.tuple #[.agg #[.int .i64 (W : Int), .int .i64 (H : Int), .slice (some ⟨g, 0, none⟩) H H], .int .i64 0]) ∧ Rows w' (some ⟨g, 0, none⟩) H H (rowsOf W (fun j i => dif B C (j * W + i))) ∧ Below w.heap.size w w' := by
  have hs := page_size hW hH
  obtain ⟨hnc, b, o, rfl, hbl, hbc⟩ := id hp
  obtain ⟨hnd, b', o', rfl, hbl', hbc'⟩ := id hq
  obtain ⟨q, hqq⟩ : ∃ q, W * H = q := ⟨_, rfl⟩
  obtain ⟨i0, hi, hz0, hz1, hz2⟩ := info_parts (show (Try.prog.info? 5).map (fun i => (i.zero, i.size, i.bytes)) = some (some (.int .u8 0), 1, 1) by kernel_rfl)
  have hmk := fun W => run_make_rowN (P := Try.prog) 44 5 i0 (.int .u8 0) Try.underlying44 hi hz0 .i64 .i64 q q (Nat.le_refl _) (by rw [hz2]; omega) (by omega) W
  simp only [hz1, Nat.mul_one] at hmk
  have hm : (W : Int) * (H : Int) = (q : Int) := by rw [← hqq]; push_cast; rfl
  have HM1 := Lib.hid (fun W' => inkmay_yes W H n c (some ⟨b, o, none⟩) W' hW hH hn)
  have HM2 := Lib.hid (fun W' => inkmay_yes W H n d (some ⟨b', o', none⟩) W' hW hH hn)
  have HP := Lib.hid hp
  have HQ := Lib.hid hq
  have HOF := Lib.hid (fun g M W' h hM => rof_any W H q q (some ⟨g, 0, none⟩) M W' hW hH hqq.symm h hM)
  have hn3 : n = 3 * q := by rw [hn, hqq]
  rw [hqq] at hs
  have K1 := ((Blk.new w 46 #[.int .i64 (W : Int), .int .i64 (H : Int), .slice (some ⟨b, o, none⟩) n c]).alloc (.cells #[.int .i64 (W : Int), .int .i64 (H : Int), .slice (some ⟨b', o', none⟩) n d] 46)).alloc (.cells #[.int .i64 0, .int .i64 0, .slice none 0 0] 51)
  have K2 := (Blk.new (w.alloc (.cells #[.int .i64 (W : Int), .int .i64 (H : Int), .slice (some ⟨b, o, none⟩) n c] 46)) 46 #[.int .i64 (W : Int), .int .i64 (H : Int), .slice (some ⟨b', o', none⟩) n d]).alloc (.cells #[.int .i64 0, .int .i64 0, .slice none 0 0] 51)
  have K3 := zreg ((w.alloc (.cells #[.int .i64 (W : Int), .int .i64 (H : Int), .slice (some ⟨b, o, none⟩) n c] 46)).alloc (.cells #[.int .i64 (W : Int), .int .i64 (H : Int), .slice (some ⟨b', o', none⟩) n d] 46))
  have s1 : ∀ (u : World) (o : Obj), (u.alloc o).heap.size = u.heap.size + 1 := fun u o => by simp
  simp only [s1] at K2 K3
  have HN3 := Lib.hid hn3
  have HMK := Lib.hid hmk
  clear s1 hp hq hn hqq hbc hbc' hn3 hmk
  go_enter Try.func50, Try.ntmps50
  go_wp2_with fail
  refine (HM1.out _).mono ?_
  rintro e_ w1 ⟨rfl, hb1⟩
  have hbw : Below w.heap.size w w1 := btrans (by (repeat' (first | exact Below.refl _ _ | exact Below.refl _ _ | refine balloc ?_ _ | refine Below.drew ?_ | refine below_drewN ?_ _ | refine bset ?_ (by first | omega | (simp <;> omega)) _))) hb1
  replace K1 := K1.below hb1 (by first | (simp; done) | (simp; omega))
  replace K2 := K2.below hb1 (by first | (simp; done) | (simp; omega))
  replace K3 := K3.below hb1 (by first | (simp; done) | (simp; omega))
  have l1 := K1.lt
  have l2 := K2.lt
  have l3 := K3.lt
  have b0 := K2.cell 0
  have b1 := K2.cell 1
  have b2 := K2.cell 2
  simp only [List.getElem?_toArray, List.getElem?_cons_succ, List.getElem?_cons_zero] at b0 b1 b2
  have H1 := Lib.hid K1
  have H2 := Lib.hid K2
  have H3 := Lib.hid K3
  have HBW := Lib.hid hbw
  clear K1 K2 K3 hbw hb1 HM1
  go_wp2_with fail
  refine (HM2.out _).mono ?_
  rintro e_ w2 ⟨rfl, hb1⟩
  have hbw := btrans HBW.out hb1
  have K1 := H1.out.below hb1 l1
  have K2 := H2.out.below hb1 l2
  have K3 := H3.out.below hb1 l3
  clear H1 H2 H3 HBW hb1 b0 b1 b2 l1 l2 l3 HM2
  have a0 := K1.cell 0
  have a1 := K1.cell 1
  have b0 := K2.cell 0
  have b1 := K2.cell 1
  simp only [List.getElem?_toArray, List.getElem?_cons_succ, List.getElem?_cons_zero] at a0 a1 b0 b1
  have hwq : IntKind.i64.wrap (q : Int) = (q : Int) := by simp only [IntKind.wrap, IntKind.signed, IntKind.bits]; simp; omega
  have l1 := K1.lt
  have hne0 : ¬ w.heap.size = w2.heap.size := by omega
  have HS1 := Lib.hid (URel.start1 (q := q) (dif B C) hbw K1 K2 K3)
  have HS2 := Lib.hid (URel.start2 (q := q) (dif B C) hbw K1 K2 K3)
  clear K1 K2 K3 hbw
  have hmk := HMK.out
  go_upto_region 3 with fail
  go_cut [6] from 31 to 41 (fun s6 wx => ∃ mg mb : Nat, s6 = .pointer (some ⟨mb, 0, none⟩) ∧ URel w mg mb W H n q c d (some ⟨b, o, none⟩) (some ⟨b', o', none⟩) (dif B C) 0 wx)
  case first =>
    go_region
    all_goals (go_wp2_with fail; go_meet)
    · exact ⟨_, _, rfl, HS1.out.below (Below.drew (Below.refl _ _))⟩
    · exact ⟨_, _, rfl, HS2.out.below (Below.drew (Below.refl _ _))⟩
  case rest =>
    obtain ⟨mg, mb, rfl, hU⟩ := hcut
    clear HS1 HS2 HMK hne0 l1 hwq a0 a1 b0 b1 hi hz0 hz1 hz2
    obtain ⟨cs, u1, u2, u3, u4, u5, u6, u7, u8, u9⟩ := id hU
    have m2 := u3.cell 2
    simp only [List.getElem?_toArray, List.getElem?_cons_succ, List.getElem?_cons_zero] at m2
    clear u1 u2 u3 u4 u5 u6 u7 u8 u9
    go_wp2_with fail
    go_loopw [45] (fun s wr => ∃ k : Nat, k ≤ q ∧ s = .int .i64 (k : Int) ∧ URel w mg mb W H n q c d (some ⟨b, o, none⟩) (some ⟨b', o', none⟩) (dif B C) k wr) (fun s _ => q - (intOf s).toNat)
    case atStart => exact ⟨0, by omega, rfl, hU⟩
    case round =>
      clear m2 hU
      obtain ⟨k, hk, rfl, hU⟩ := hrel
      obtain ⟨cs, u1, u2, u3, u4, u5, u6, u7, u8, u9⟩ := id hU
      have hn3 := HN3.out
      by_cases hkq : k < q
      · have d1 : decide ((k : Int) < (q : Int)) = true := by simp; omega
        have P2 := u4.cell 2
        have Q2 := u5.cell 2
        have m2 := u3.cell 2
        simp only [List.getElem?_toArray, List.getElem?_cons_succ, List.getElem?_cons_zero] at P2 Q2 m2
        have lp := u4.lt
        have lq := u5.lt
        have lm := u3.lt
        have lg := u1.lt
        have gc : wr.cell? ⟨mg, k, none⟩ = some (.int .u8 0) := by rw [u1.cell, (u2.2 k hkq).1]; simp
        have gf := u1.frozen k
        have hbx := fun (u : Up wr) => ((HP.out.below (btrans u9 u.ok)).sub (3 * k) (c - 3 * k) (by omega) (by omega)).str
        have hby := fun (u : Up wr) => ((HQ.out.below (btrans u9 u.ok)).sub (3 * k) (d - 3 * k) (by omega) (by omega)).str
        have hst := str3 B C k (fun t ht => HP.out.bd _ (by omega)) (fun t ht => HQ.out.bd _ (by omega))
        obtain ⟨sx, hsx⟩ : ∃ s : ByteArray, ⟨(listB 3 fun t => B (3 * k + t)).toArray⟩ = s := ⟨_, rfl⟩
        obtain ⟨sy, hsy⟩ : ∃ s : ByteArray, ⟨(listB 3 fun t => C (3 * k + t)).toArray⟩ = s := ⟨_, rfl⟩
        simp only [hsx] at hbx
        simp only [hsy] at hby
        rw [hsx, hsy] at hst
        have cx : ¬ c = 3 * k := by omega
        have cy : ¬ d = 3 * k := by omega
        have j0 : (3 * (k : Int) + 3).toNat = 3 * k + 3 := by omega
        have j1 : (3 * (k : Int)).toNat = 3 * k := by omega
        have j2 : 3 * k + 3 - 3 * k = 3 := by omega
        have j3 : 3 * k + 3 ≤ c := by omega
        have j4 : 3 * k + 3 ≤ d := by omega
        have HU := Lib.hid hU
        clear hn3 u1 u2 u3 u4 u5 u6 u7 u8 u9 hU hsx hsy
        have v1 := fun (u : Up wr) => (u.cell (p := ⟨w.heap.size, 2, none⟩) lp).trans P2
        have v2 := fun (u : Up wr) => (u.cell (p := ⟨w.heap.size + 1, 2, none⟩) lq).trans Q2
        have v3 := fun (u : Up wr) => (u.cell (p := ⟨mb, 2, none⟩) lm).trans m2
        have v4 := fun (u : Up wr) => (u.cell (p := ⟨mg, k, none⟩) lg).trans gc
        have v5 := fun (u : Up wr) => ((bcell u.ok).2 mg k lg).trans gf
        go_wp2_with fail
        refine wp_region_up (by kernel_rfl) (by kernel_rfl) ?_
        repeat (go_big_quiet_step (fail))
        refine wpQuiet_nil ?_
        rintro _ ⟨uq, rfl⟩
        have e1 := v3 uq
        have e2 := v4 uq
        have e3 := v5 uq
        have HU2 := Lib.hid (HU.out.below uq.ok)
        clear v1 v2 v3 v4 v5 hbx hby P2 Q2 m2 lp lq lm lg gc gf HU
        generalize hwx : uq.val = wz at *
        clear hwx uq
        cases hf : dif B C k with
        | false =>
          have hs2 : sx = sy := hst.2 hf
          subst hs2
          have hs3 : (sx.toList == sx.toList) = true := by simp
          have HN := Lib.hid (HU2.out.skip hf)
          clear hst hf HU2
          go_wp2_with fail
          all_goals first
            | exact ⟨⟨k + 1, by omega, by go_num, HN.out⟩, by simp [intOf]; omega⟩
            | (exfalso; rename_i hh; simp at hh; done)
            | (go_roundw; (case rel => exact ⟨k + 1, by omega, by go_num, HN.out⟩); (case measure => simp [intOf]; omega))
            | (exfalso; rename_i hh _; simp at hh; done)
        | true =>
          have hs2 : ¬ sx = sy := fun e => by have := hst.1 e; rw [hf] at this; cases this
          have hs3 : (sx.toList == sy.toList) = false := by
            rw [ByteArray.toList_eq, ByteArray.toList_eq]
            simp only [beq_eq_false_iff_ne, ne_eq]
            exact fun h => hs2 (Go.WideShapes.bytes_inj h)
          have HN := Lib.hid (HU2.out.put hf)
          clear hst hf HU2
          go_wp2_with fail
          all_goals first
            | exact ⟨⟨k + 1, by omega, by go_num, HN.out⟩, by simp [intOf]; omega⟩
            | (exfalso; rename_i hh; simp [ByteArray.toList_eq] at hh; exact hs2 (Go.WideShapes.bytes_inj (by simpa using hh)))
            | (go_roundw; (case rel => exact ⟨k + 1, by omega, by go_num, HN.out⟩); (case measure => simp [intOf]; omega))
            | (exfalso; rename_i hh _; simp [ByteArray.toList_eq] at hh; exact hs2 (Go.WideShapes.bytes_inj (by simpa using hh)))
      · obtain rfl : k = q := by omega
        have d1 : decide ((k : Int) < (k : Int)) = false := by simp
        have m0 := u3.cell 0
        have m1 := u3.cell 1
        have m2 := u3.cell 2
        have z0 := u6.cell 0
        have z1 := u6.cell 1
        have z2 := u6.cell 2
        simp only [List.getElem?_toArray, List.getElem?_cons_succ, List.getElem?_cons_zero] at m0 m1 m2 z0 z1 z2
        have lr := u6.lt
        have HKr := Lib.hid u6
        have HBW := Lib.hid u9
        have HC := Lib.hid (HOF.out mg _ wr (u2.pg u1 (Nat.le_refl _)) (fun j hj => by
          by_cases h : j < k ∧ dif B C j = true
          · right; exact if_pos h
          · left; exact if_neg h))
        clear u1 u2 u3 u4 u5 u6 u7 u8 u9 hU
        go_wp2_with fail
        refine HC.out.mono ?_
        rintro e_ w3 ⟨g, hg, rfl, hr3, hb1⟩
        have hsz := HBW.out.size
        have hr4 : Rows w3 (some ⟨g, 0, none⟩) H H (rowsOf W (fun j i => dif B C (j * W + i))) := hr3.ext fun j hj => rowsOf_ext fun i hi => by
          have h3 := pix_in hj hi
          have : j * W + i < k := by omega
          by_cases h : dif B C (j * W + i) = true <;> simp [h, this]
        have Kr := HKr.out.below hb1 lr
        have hbw := btrans HBW.out hb1
        have hgne : g ≠ w.heap.size + 1 + 1 := by omega
        have hg2 : w.heap.size ≤ g := by omega
        clear hr3 hb1 HKr HBW HC hg m0 m1 m2 z0 z1 z2
        have g0 := Kr.cell 0
        have g1 := Kr.cell 1
        have g2 := Kr.cell 2
        have f0 := Kr.frozen 0
        have f1 := Kr.frozen 1
        have f2 := Kr.frozen 2
        simp only [List.getElem?_toArray, List.getElem?_cons_succ, List.getElem?_cons_zero] at g0 g1 g2
        have HKr := Lib.hid Kr
        have HBW := Lib.hid hbw
        have HR4 := Lib.hid hr4
        clear Kr hbw hr4
        go_wp2_with fail
        have K := ((HKr.out.set_ 0 (.int .i64 (W : Int))).set_ 1 (.int .i64 (H : Int))).set_ 2 (.slice (some ⟨g, 0, none⟩) H H)
        refine ret_struct2 (g := w.heap.size + 1 + 1) (t := 51) (cs := #[.int .i64 (W : Int), .int .i64 (H : Int), .slice (some ⟨g, 0, none⟩) H H]) rfl rfl ?_ Try.underlying51 rfl rfl rfl ?_
        · exact K
        · exact ⟨g, by omega, rfl, Rows.setBox HR4.out hgne HKr.out _ _ _, by (repeat' (first | refine bset ?_ (by first | omega | (simp <;> omega)) _ | refine balloc ?_ _ | refine Below.drew ?_ | refine below_drewN ?_ _ | exact HBW.out | exact Below.refl _ _))⟩
end Go.Proofs.Ytegpjjkbbdfggaa.rg
