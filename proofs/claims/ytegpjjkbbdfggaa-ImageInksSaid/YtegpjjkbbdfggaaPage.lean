/-
  Pages: bytes as a function; fits, copied. (PRUNE)
-/
import Derived.Test.YtegpjjkbbdfggaaRegMay
import Derived.Test.YtegpjjkbbdfggaaEach
namespace Go.Proofs.Ytegpjjkbbdfggaa.rg
set_option linter.unusedVariables false
set_option linter.unusedSimpArgs false
open Go.RowKit bs sp ik

/-- the n bytes behind A are B -/
def Pg (w : World) (A : Option Addr) (n c : Nat) (B : Nat → Int) : Prop :=
  n ≤ c ∧ ∃ b o, A = some ⟨b, o, none⟩ ∧ b < w.heap.size ∧ ∀ j, j < n → w.cell? ⟨b, o + j, none⟩ = some (.int .u8 (B j)) ∧ 0 ≤ B j ∧ B j ≤ 255
theorem Pg.below {w w' : World} {A : Option Addr} {n c : Nat} {B : Nat → Int} (h : Pg w A n c B) (hb : Below w.heap.size w w') : Pg w' A n c B := by
  obtain ⟨h1, b, o, e, hlt, hc⟩ := h
  exact ⟨h1, b, o, e, Nat.lt_of_lt_of_le hlt hb.size, fun j hj => ⟨(hb.cell (p := ⟨b, o + j, none⟩) hlt).trans (hc j hj).1, (hc j hj).2⟩⟩
theorem Pg.ext {w : World} {A : Option Addr} {n c : Nat} {B C : Nat → Int} (h : Pg w A n c B) (e : ∀ j, j < n → B j = C j) : Pg w A n c C := by
  obtain ⟨h1, b, o, ea, hlt, hc⟩ := h
  exact ⟨h1, b, o, ea, hlt, fun j hj => by rw [← e j hj]; exact hc j hj⟩
theorem Pg.bd {w : World} {A : Option Addr} {n c : Nat} {B : Nat → Int} (h : Pg w A n c B) (j : Nat) (hj : j < n) : 0 ≤ B j ∧ B j ≤ 255 := by
  obtain ⟨h1, b, o, ea, hlt, hc⟩ := h
  exact (hc j hj).2
/-- a block that holds the bytes -/
def Holds (cs : Array Value) (n : Nat) (B : Nat → Int) : Prop := n ≤ cs.size ∧ ∀ j, j < n → cs[j]? = some (.int .u8 (B j)) ∧ 0 ≤ B j ∧ B j ≤ 255
theorem Holds.pg {w : World} {g : Nat} {t : TypeId} {cs : Array Value} {n c : Nat} {B : Nat → Int} (h : Holds cs n B) (hb : Blk w g t cs) (hc : n ≤ c) : Pg w (some ⟨g, 0, none⟩) n c B :=
  ⟨hc, g, 0, rfl, hb.lt, fun j hj => ⟨by rw [Nat.zero_add, hb.cell]; exact (h.2 j hj).1, (h.2 j hj).2⟩⟩
theorem Holds.ext {cs : Array Value} {n : Nat} {B C : Nat → Int} (h : Holds cs n B) (e : ∀ j, j < n → B j = C j) : Holds cs n C :=
  ⟨h.1, fun j hj => by rw [← e j hj]; exact h.2 j hj⟩
theorem Holds.put {cs : Array Value} {n : Nat} {B : Nat → Int} (h : Holds cs n B) (k : Nat) (v : Int) (h0 : 0 ≤ v) (h1 : v ≤ 255) : Holds (cs.setIfInBounds k (.int .u8 v)) n (fun j => if j = k then v else B j) := by
  refine ⟨by simpa using h.1, fun j hj => ?_⟩
  rw [Array.getElem?_setIfInBounds]
  by_cases e : k = j
  · subst e
    have := h.1
    simp; omega
  · rw [if_neg e]
    have e2 : ¬ j = k := fun x => e x.symm
    simp only [if_neg e2]
    exact h.2 j hj
theorem page_size {W H : Nat} (hW : 1 ≤ W ∧ W ≤ 64) (hH : 1 ≤ H ∧ H ≤ 64) : 0 < 3 * (W * H) ∧ 3 * (W * H) ≤ 12288 := by
  have h1 : W * H ≤ 64 * 64 := Nat.mul_le_mul hW.2 hH.2
  have h2 : 1 * 1 ≤ W * H := Nat.mul_le_mul hW.1 hH.1
  omega
theorem pmay_yes {W H : Nat} (hW : 1 ≤ W ∧ W ≤ 64) (hH : 1 ≤ H ∧ H ≤ 64) : ik.mayB (W : Int) (H : Int) (3 * (W * H)) = true := by
  unfold ik.mayB
  rw [sideB_true (by omega) (by omega), sideB_true (by omega) (by omega)]
  simp
  push_cast
  rw [Int.mul_assoc]
theorem inkmay_yes (W H n c : Nat) (A : Option Addr) (w : World) (hW : 1 ≤ W ∧ W ≤ 64) (hH : 1 ≤ H ∧ H ≤ 64) (hn : n = 3 * (W * H)) :
    Calls Try.prog 71 #[.agg #[.int .i64 (W : Int), .int .i64 (H : Int), .slice A n c]] w fun e w' => e = .returned (.bool true) ∧ Below w.heap.size w w' := by
  have hs := page_size hW hH
  have := ik.may_any W H A n c w (by omega)
  rw [hn, pmay_yes hW hH, ← hn] at this
  exact this

set_option maxRecDepth 100000 in
set_option maxHeartbeats 1600000 in
theorem fits_yes (W H n c d : Nat) (A D : Option Addr) (R : Nat → Nat → Bool) (w : World) (hW : 1 ≤ W ∧ W ≤ 64) (hH : 1 ≤ H ∧ H ≤ 64) (hn : n = 3 * (W * H)) (hr : Rows w D H d (rowsOf W R)) :
    Calls Try.prog 91 #[.agg #[.int .i64 (W : Int), .int .i64 (H : Int), .slice A n c], .agg #[.int .i64 (W : Int), .int .i64 (H : Int), .slice D H d]] w fun e w' => e = .returned (.bool true) ∧ Below w.heap.size w w' := by
  have HM1 := Lib.hid (fun W' => inkmay_yes W H n c A W' hW hH hn)
  have HM2 := Lib.hid (fun W' (hW' : Below w.heap.size w W') => rmay_yes W H d D _ W' hW hH (fun j _ => rowsOf_mayB W R j hW.2) (hr.below hW'))
  have Kp := (Blk.new w 46 #[.int .i64 (W : Int), .int .i64 (H : Int), .slice A n c]).alloc (.cells #[.int .i64 (W : Int), .int .i64 (H : Int), .slice D H d] 51)
  have Kr := Blk.new (w.alloc (.cells #[.int .i64 (W : Int), .int .i64 (H : Int), .slice A n c] 46)) 51 #[.int .i64 (W : Int), .int .i64 (H : Int), .slice D H d]
  have s1 : ∀ (u : World) (o : Obj), (u.alloc o).heap.size = u.heap.size + 1 := fun u o => by simp
  simp only [s1] at Kr
  clear s1 hn hr hW hH
  go_enter Try.func91, Try.ntmps91
  go_wp2_with fail
  refine (HM1.out _).mono ?_
  rintro e_ w1 ⟨rfl, hb1⟩
  have hbw : Below w.heap.size w w1 := btrans (by (repeat' (first | exact Below.refl _ _ | exact Below.refl _ _ | refine balloc ?_ _ | refine Below.drew ?_ | refine below_drewN ?_ _ | refine bset ?_ (by first | omega | (simp <;> omega)) _))) hb1
  replace Kp := Kp.below hb1 (by first | (simp; done) | (simp; omega))
  replace Kr := Kr.below hb1 (by simp)
  have lp := Kp.lt
  have lr := Kr.lt
  have b0 := Kr.cell 0
  have b1 := Kr.cell 1
  have b2 := Kr.cell 2
  simp only [List.getElem?_toArray, List.getElem?_cons_succ, List.getElem?_cons_zero] at b0 b1 b2
  have HKp := Lib.hid Kp
  have HKr := Lib.hid Kr
  have HBW := Lib.hid hbw
  clear Kp Kr hbw hb1 HM1
  go_wp2_with fail
  refine (HM2.out _ HBW.out).mono ?_
  rintro e_ w2 ⟨rfl, hb1⟩
  have hbw := btrans HBW.out hb1
  have Kp := HKp.out.below hb1 lp
  have Kr := HKr.out.below hb1 lr
  clear HKp HKr HBW hb1 b0 b1 b2 lp lr HM2
  have a0 := Kp.cell 0
  have a1 := Kp.cell 1
  have b0 := Kr.cell 0
  have b1 := Kr.cell 1
  simp only [List.getElem?_toArray, List.getElem?_cons_succ, List.getElem?_cons_zero] at a0 a1 b0 b1
  have HBW := Lib.hid hbw
  clear Kp Kr hbw
  go_wp2_with fail
  go_ret
  exact ⟨rfl, HBW.out⟩

theorem Pg.reads {w : World} {A : Option Addr} {n c : Nat} {B : Nat → Int} (h : Pg w A n c B) : Reads w w.heap.size 1 A n ((List.range n).map fun j => .int .u8 (B j)) := by
  obtain ⟨h1, b, o, e, hlt, hc⟩ := h
  subst e
  refine ⟨by simp, fun _ => ⟨⟨b, o, none⟩, rfl, hlt, fun j u hu => ?_⟩⟩
  have hj : j < n := by
    rcases Nat.lt_or_ge j n with h | h
    · exact h
    · rw [List.getElem?_eq_none (by simpa using h)] at hu; cases hu
  rw [Go.WideShapes.add_plain, (hc j hj).1]
  rw [List.getElem?_map, List.getElem?_range hj] at hu
  exact hu
theorem Holds.of_take {cs : Array Value} {n : Nat} {w : World} {A : Option Addr} {c : Nat} {B : Nat → Int} (h : Pg w A n c B) (hs : n ≤ cs.size) (ht : cs.toList.take n = (List.range n).map fun j => .int .u8 (B j)) : Holds cs n B := by
  refine ⟨hs, fun j hj => ⟨?_, h.bd j hj⟩⟩
  have h2 : (cs.toList.take n)[j]? = ((List.range n).map fun j => (.int .u8 (B j) : Value))[j]? := by rw [ht]
  rw [List.getElem?_take, if_pos hj, List.getElem?_map, List.getElem?_range hj] at h2
  simpa using h2

theorem own_empty (w : World) (g base : Nat) (hg : w.heap.size = g) (h : base ≤ g) : (w.alloc (.cells #[] 5)).ownsRow base 5 1 (.slice (some ⟨g, 0, none⟩) 0 0) 0 [] := by
  subst hg
  exact   ⟨rfl, .inr ⟨w.heap.size, 0, #[], rfl, h, Blk.new _ _ _, Nat.le_refl _, by simp [maxLen], rfl, rfl⟩⟩

theorem own_out {w : World} {base n : Nat} {e : TypeId} {v : Value} {xs : List Value} (hn : 0 < n) (h : w.ownsRow base e 1 v n xs) : ∃ g d cs, v = .slice (some ⟨g, 0, none⟩) n d ∧ base ≤ g ∧ Blk w g e cs ∧ n ≤ d ∧ cs.size = d ∧ cs.toList.take n = xs := by
  obtain ⟨h1, h2⟩ := h
  rcases h2 with ⟨_, h0⟩ | ⟨g, cap, cur, h3, h4, h5, h6, h7, h8, h9⟩
  · omega
  · exact ⟨g, cap, cur, h3, h4, h5, h6, by simpa using h8, by simpa using h9⟩

theorem copied_mid {w u w1 : World} {n : Nat} {v : Value} {cp cz : Array Value} {xs : List Value} {t : TypeId} (hn : 0 < n) (hown : w1.ownsRow (w.heap.size + 1 + 1) 5 1 v (0 + n) ([] ++ xs)) (hg1 : u.grownBy w1 (some (w.heap.size + 1 + 1)))
    (hbu : Below w.heap.size w u) (Kp : Blk u w.heap.size t cp) (Kz : Blk u (w.heap.size + 1) t cz) :
    ∃ g d cs, v = .slice (some ⟨g, 0, none⟩) n d ∧ w.heap.size + 1 + 1 ≤ g ∧ Blk w1 g 5 cs ∧ n ≤ d ∧ cs.size = d ∧ cs.toList.take n = xs ∧ Below w.heap.size w w1 ∧ Blk w1 w.heap.size t cp ∧ Blk w1 (w.heap.size + 1) t cz := by
  rw [Nat.zero_add, List.nil_append] at hown
  obtain ⟨g, d, cs, hv, hg, hB, hd, hs, ht⟩ := own_out hn hown
  exact ⟨g, d, cs, hv, hg, hB, hd, hs, ht, Below.grown hbu hg1 hbu.size (fun k e => by cases e; omega), Kp.grown hg1 (by simp; omega), Kz.grown hg1 (by simp)⟩

set_option maxRecDepth 100000 in
set_option maxHeartbeats 1600000 in
theorem copied_any (W H : Int) (n c : Nat) (A : Option Addr) (B : Nat → Int) (w : World) (hn0 : 0 < n) (hn : n ≤ 12288) (hp : Pg w A n c B) :
    Calls Try.prog 92 #[.agg #[.int .i64 W, .int .i64 H, .slice A n c]] w fun e w' => ∃ g d cs, w.heap.size ≤ g ∧ e = .returned (.agg #[.int .i64 W, .int .i64 H, .slice (some ⟨g, 0, none⟩) n d]) ∧ n ≤ d ∧ Blk w' g 5 cs ∧ Holds cs n B ∧ Below w.heap.size w w' := by
  obtain ⟨hnc, b, o, rfl, hlt, hcell⟩ := id hp
  obtain ⟨i0, hi, hz0, hz1, hz2⟩ := info_parts (show (Try.prog.info? 5).map (fun i => (i.zero, i.size, i.bytes)) = some (some (.int .u8 0), 1, 1) by kernel_rfl)
  have Kp := ((Blk.new w 46 #[.int .i64 W, .int .i64 H, .slice (some ⟨b, o, none⟩) n c]).alloc (.cells #[.int .i64 0, .int .i64 0, .slice none 0 0] 46))
  have Kz := (Blk.new (w.alloc (.cells #[.int .i64 W, .int .i64 H, .slice (some ⟨b, o, none⟩) n c] 46)) 46 #[.int .i64 0, .int .i64 0, .slice none 0 0])
  have s1 : ∀ (u : World) (o : Obj), (u.alloc o).heap.size = u.heap.size + 1 := fun u o => by simp
  simp only [s1] at Kz
  have HP := Lib.hid hp
  clear s1 hp hcell
  go_enter Try.func92, Try.ntmps92
  go_wp2_with (at_builtin; refine wpList_append_any _ rfl (.tmp 3) (.tmp 5) 44 rfl (w.heap.size + 1 + 1) 5 i0 (.int .u8 0) 1 1 Try.underlying44 hi hz0 hz1 hz2 rfl (by omega) _ 0 [] rfl (own_empty _ (w.heap.size + 1 + 1) _ (by simp) (by omega)) _ (some ⟨b, o, none⟩) n c _ rfl (HP.out.below (by (repeat' (first | exact Below.refl _ _ | exact Below.refl _ _ | refine balloc ?_ _ | refine Below.drew ?_ | refine below_drewN ?_ _ | refine bset ?_ (by first | omega | (simp <;> omega)) _)))).reads (by simp [Value.oneCell']) (by simp [maxLen]; omega) (by omega) (by first | (simp; done) | (simp; omega)) ?_; intro v1 w1 hown1 hg1 _; obtain ⟨g, d, cs, hv, hg, hB, hd, hs, ht, hbw, K1, Z1⟩ := copied_mid hn0 hown1 hg1 (by (repeat' (first | exact Below.refl _ _ | exact Below.refl _ _ | refine balloc ?_ _ | refine Below.drew ?_ | refine below_drewN ?_ _ | refine bset ?_ (by first | omega | (simp <;> omega)) _))) (Kp.alloc _) (Kz.alloc _); subst hv; have k0 := K1.cell 0; have k1 := K1.cell 1; have k2 := K1.cell 2; have kf := K1.frozen 2; have z0 := Z1.cell 0; have z1 := Z1.cell 1; have z2 := Z1.cell 2; have y0 := Z1.frozen 0; have y1 := Z1.frozen 1; have y2 := Z1.frozen 2; simp only [List.getElem?_toArray, List.getElem?_cons_succ, List.getElem?_cons_zero] at k0 k1 k2 z0 z1 z2; have HK1 := Lib.hid K1; have HZ1 := Lib.hid Z1; have HB1 := Lib.hid hB; have HT := Lib.hid ht; have HBW := Lib.hid hbw; clear hg1 hown1 Kp Kz K1 Z1 hB ht hbw)
  have K := (((HZ1.out.far (p := ⟨w.heap.size, 2, none⟩) (by simp) (.slice (some ⟨g, 0, none⟩) n d)).set_ 0 (.int .i64 W)).set_ 1 (.int .i64 H)).set_ 2 (.slice (some ⟨g, 0, none⟩) n d)
  refine ret_struct1 (g := w.heap.size + 1) (t := 46) (cs := #[.int .i64 W, .int .i64 H, .slice (some ⟨g, 0, none⟩) n d]) rfl rfl ?_ Try.underlying46 rfl rfl rfl ?_
  · exact K
  · exact ⟨g, d, cs, by omega, rfl, hd, (((HB1.out.far (by simp; omega) _).far (by simp; omega) _).far (by simp; omega) _).far (by simp; omega) _, Holds.of_take HP.out (by omega) HT.out, by (repeat' (first | refine bset ?_ (by first | omega | (simp <;> omega)) _ | refine balloc ?_ _ | refine Below.drew ?_ | refine below_drewN ?_ _ | exact HBW.out | exact Below.refl _ _))⟩
end Go.Proofs.Ytegpjjkbbdfggaa.rg
