/-
  Lemmas for ImagePaints: RefPaint, UpStep, RefRegion, RefDet0, Same, Help.
-/
import Derived.BigQuiet
import Derived.Laws.Rows
import Derived.Test.YtegpjjkbbdfggaaImagePaintsM1

/-
  Layer 37: the reference's Paint; Grey.
-/
namespace Go.Proofs.Ytegpjjkbbdfggaa.im
set_option linter.unusedVariables false
set_option linter.unusedSimpArgs false
open Go.RowKit bs sp ik rg mt

/-- a goal laid aside -/
def Held (p : Prop) : Prop := p
theorem Held.of {p : Prop} (h : Held p) : p := h
theorem IntsV.setU8 {w : World} {v : Value} {l : List Int} (h : IntsV w v l) {p : Addr} {x : Int} (hp : w.cell? p = some (.int .u8 x)) (u : Value) : IntsV (w.setCell p u) v l := by
  obtain ⟨A, c, e, h⟩ := h
  refine ⟨A, c, e, fun hn => ?_⟩
  obtain ⟨b, e2, hlt, hc⟩ := h hn
  refine ⟨b, e2, by simpa using hlt, fun j hj => ?_⟩
  have hcj := hc j hj
  have hne : p ≠ ⟨b, j, none⟩ := fun e => by
    rw [e, hcj] at hp
    cases hp
  first
    | exact (World.cell?_setCell_other w _ _ u hne).trans hcj
    | exact (World.cell?_setCell_other w _ _ u hne.symm).trans hcj
theorem IntsV.shape {w : World} {v : Value} {l : List Int} (h : IntsV w v l) (hl : 0 < l.length) : ∃ lb lc, v = .slice (some ⟨lb, 0, none⟩) l.length lc := by
  obtain ⟨A, c, e, h⟩ := h
  obtain ⟨b, e2, _⟩ := h hl
  exact ⟨b, c, by rw [e, e2]⟩
theorem IntsV.at_ {w : World} {lb W lc : Nat} {l : List Int} (h : IntsV w (.slice (some ⟨lb, 0, none⟩) W lc) l) (hl : l.length = W) (S : Nat → Int) (hS : ∀ (i : Nat) (hi : i < l.length), l[i] = S i) (i : Nat) (hi : i < W) : lb < w.heap.size ∧ w.cell? ⟨lb, i, none⟩ = some (.int .i64 (S i)) := by
  obtain ⟨A, c, e, h⟩ := h
  obtain ⟨b, e2, hlt, hc⟩ := h (by omega)
  subst e2
  cases e
  exact ⟨hlt, by rw [hc i (by omega), hS]⟩
/-- c bytes from m on are v -/
def pst (m c : Nat) (v : Int) (B : Nat → Int) (t : Nat) : Int := if m ≤ t ∧ t < m + c then v else B t
theorem pst_zero (m : Nat) (v : Int) (B : Nat → Int) (t : Nat) : pst m 0 v B t = B t := by unfold pst; rw [if_neg (by omega)]
theorem pst_succ (m c : Nat) (v : Int) (B : Nat → Int) (k : Nat) : (if k = m + c then v else pst m c v B k) = pst m (c + 1) v B k := by
  unfold pst
  by_cases h : k = m + c
  · rw [if_pos h, if_pos (by omega)]
  · rw [if_neg h]
    have : (m ≤ k ∧ k < m + c) ↔ (m ≤ k ∧ k < m + (c + 1)) := by omega
    simp only [this]
theorem pst_three (m : Nat) (v : Int) (B : Nat → Int) (t : Nat) : pst m 3 v B t = (if t = m + 2 then v else if t = m + 1 then v else if t = m then v else B t) := by
  unfold pst
  by_cases h2 : t = m + 2
  · rw [if_pos h2, if_pos (by omega)]
  · by_cases h1 : t = m + 1
    · rw [if_neg h2, if_pos h1, if_pos (by omega)]
    · by_cases h0 : t = m
      · rw [if_neg h2, if_neg h1, if_pos h0, if_pos (by omega)]
      · rw [if_neg h2, if_neg h1, if_neg h0, if_neg (by omega)]

set_option maxRecDepth 100000 in
set_option maxHeartbeats 1600000 in
theorem grey36_any (IW IH IB v : Int) (s : ByteArray) (w : World) (hB : IB = 1 ∨ IB = 2 ∨ IB = 4 ∨ IB = 8) (h0 : 0 ≤ v) (h1 : v ≤ 2 ^ IB.toNat - 1) :
    Calls Try.prog 80 #[.agg #[.int .i64 IW, .int .i64 IH, .int .i64 IB, .string s], .int .i64 v] w fun e w' => e = .returned (.int .u8 (greyV IB v)) ∧ Below w.heap.size w w' := by
  have hpb := pow_bd hB
  have hgb := greyV_bd hB h0 h1
  have hquo : (255 * v).tdiv ((2 : Int) ^ IB.toNat - 1) = greyV IB v := by
    rw [Int.tdiv_eq_ediv_of_nonneg (by omega), Int.mul_comm]; rfl
  obtain ⟨g, hg⟩ : ∃ g, greyV IB v = g := ⟨_, rfl⟩
  rw [hg] at hgb hquo ⊢
  have hB0 : ¬ IB < 0 := by rcases hB with h | h | h | h <;> omega
  have hB1 : 0 ≤ IB := by omega
  have hB2 : IB ≤ 8 := by rcases hB with h | h | h | h <;> omega
  have hBsh : (IB.toNat : Int) = IB := by omega
  have hBu : IntKind.u64.wrap IB = IB := by simp only [IntKind.wrap, IntKind.signed, IntKind.bits]; simp; omega
  obtain ⟨pw, hpw⟩ : ∃ pw, (2 : Int) ^ IB.toNat = pw := ⟨_, rfl⟩
  rw [hpw] at hpb hquo h1
  have hpz : ¬ pw - 1 = 0 := by omega
  have hgw : IntKind.u8.wrap g = g := by simp only [IntKind.wrap, IntKind.signed, IntKind.bits]; simp; omega
  clear hB hg
  go_enter Try.func80, Try.ntmps80
  go_wp2_with fail
  go_ret
  exact ⟨rfl, by (repeat' (first | exact Below.refl _ _ | exact Below.refl _ _ | refine balloc ?_ _ | refine Below.drew ?_ | refine below_drewN ?_ _ | refine bset ?_ (by first | omega | (simp <;> omega)) _))⟩

theorem grey_as {B v gv : Int} (hB : B = 1 ∨ B = 2 ∨ B = 4 ∨ B = 8) (h0 : 0 ≤ v) (h1 : v ≤ 2 ^ B.toNat - 1) (hg : greyV B v = gv) : 0 ≤ gv ∧ gv ≤ 255 := hg ▸ greyV_bd hB h0 h1
theorem grey36_as (IW IH IB v gv : Int) (s : ByteArray) (w : World) (hB : IB = 1 ∨ IB = 2 ∨ IB = 4 ∨ IB = 8) (h0 : 0 ≤ v) (h1 : v ≤ 2 ^ IB.toNat - 1) (hg : greyV IB v = gv) :
    Calls Try.prog 80 #[.agg #[.int .i64 IW, .int .i64 IH, .int .i64 IB, .string s], .int .i64 v] w fun e w' => e = .returned (.int .u8 gv) ∧ Below w.heap.size w w' := by
  rw [← hg]
  exact grey36_any IW IH IB v s w hB h0 h1
theorem paint_next {W j i sw m : Nat} {R : Nat → Nat → Bool} {S : Nat → Nat → Int} {G : Int → Int} {B : Nat → Int} {v gv : Int} (hi : i < W) (hR : R j i = true) (hv : S j i = v) (h0 : 0 ≤ v) (hs : j * W = sw) (hm : 3 * (sw + i) = m) (hg : G v = gv) (t : Nat) :
    pst m 3 gv (pntB W R S G B (sw + i)) t = pntB W R S G B (sw + i + 1) t := by
  subst hs hv hg
  have := pntB_step W R S G B j i hi hR h0 m t hm
  rw [pst_three]
  exact this
theorem paint_skip {W j i sw : Nat} {R : Nat → Nat → Bool} {S : Nat → Nat → Int} {G : Int → Int} {B : Nat → Int} (hi : i < W) (h : R j i = false ∨ S j i < 0) (hs : j * W = sw) (t : Nat) :
    pntB W R S G B (sw + i) t = pntB W R S G B (sw + i + 1) t := by
  subst hs
  exact pntB_skip W R S G B j i hi h t
/-- the boxes and the bytes while the reference's Paint goes on -/
def RV (w : World) (g n f q : Nat) (W H : Int) (pv iv mv rv : Array Value) (B : Nat → Int) (wr : World) : Prop :=
  (∃ cs, Blk wr g 5 cs ∧ Holds cs n B) ∧ Blk wr w.heap.size 46 pv ∧ Blk wr (w.heap.size + 1) 23 iv ∧ Blk wr (w.heap.size + 1 + 1) 25 mv ∧ Blk wr (w.heap.size + 1 + 1 + 1) 51 rv ∧ Blk wr (w.heap.size + 1 + 1 + 1 + 1) 46 #[.int .i64 0, .int .i64 0, .slice none 0 0] ∧
    Blk wr q 46 #[.int .i64 W, .int .i64 H, .slice (some ⟨g, 0, none⟩) n f] ∧ Below w.heap.size w wr
section
variable {w : World} {g n f q : Nat} {W H : Int} {pv iv mv rv : Array Value} {B C : Nat → Int} {wr w' : World}
theorem RV.below (h : RV w g n f q W H pv iv mv rv B wr) (hb : Below wr.heap.size wr w') : RV w g n f q W H pv iv mv rv B w' := by
  obtain ⟨⟨cs, h1, h2⟩, h3, h4, h5, h6, h7, h8, h9⟩ := h
  exact ⟨⟨cs, h1.below hb h1.lt, h2⟩, h3.below hb h3.lt, h4.below hb h4.lt, h5.below hb h5.lt, h6.below hb h6.lt, h7.below hb h7.lt, h8.below hb h8.lt, btrans h9 hb⟩
theorem RV.ext (h : RV w g n f q W H pv iv mv rv B wr) (e : ∀ j, j < n → B j = C j) : RV w g n f q W H pv iv mv rv C wr := by
  obtain ⟨⟨cs, h1, h2⟩, h3⟩ := h
  exact ⟨⟨cs, h1, h2.ext e⟩, h3⟩
theorem RV.put (h : RV w g n f q W H pv iv mv rv B wr) (k : Nat) (v : Int) (h0 : 0 ≤ v) (h1 : v ≤ 255) (hg : w.heap.size + 1 + 1 + 1 + 1 < g) (hq : g < q) : RV w g n f q W H pv iv mv rv (fun j => if j = k then v else B j) (wr.setCell ⟨g, k, none⟩ (.int .u8 v)) := by
  obtain ⟨⟨cs, a1, a2⟩, h3, h4, h5, h6, h7, h8, h9⟩ := h
  have e : ∀ b, b ≠ g → b ≠ (⟨g, k, none⟩ : Addr).block := fun b hb => hb
  exact ⟨⟨_, a1.set_ k _, a2.put k v h0 h1⟩, h3.far (e _ (by omega)) _, h4.far (e _ (by omega)) _, h5.far (e _ (by omega)) _, h6.far (e _ (by omega)) _, h7.far (e _ (by omega)) _, h8.far (e _ (by omega)) _, bset h9 (show w.heap.size ≤ g by omega) _⟩
/-- the row's box and the line too -/
def RW (w : World) (g n f q : Nat) (W H : Int) (pv iv mv rv : Array Value) (k : Nat) (S : Nat → Bool) (lv : Value) (l : List Int) (B : Nat → Int) (wr : World) : Prop :=
  RV w g n f q W H pv iv mv rv B wr ∧ Blk wr k 114 (rowC S) ∧ g ≠ k ∧ IntsV wr lv l
variable {k : Nat} {S : Nat → Bool} {lv : Value} {l : List Int}
theorem RW.below (h : RW w g n f q W H pv iv mv rv k S lv l B wr) (hb : Below wr.heap.size wr w') : RW w g n f q W H pv iv mv rv k S lv l B w' :=
  ⟨h.1.below hb, h.2.1.below hb h.2.1.lt, h.2.2.1, h.2.2.2.below hb⟩
theorem RW.put (h : RW w g n f q W H pv iv mv rv k S lv l B wr) (i : Nat) (hi : i < n) (v : Int) (h0 : 0 ≤ v) (h1 : v ≤ 255) (hg : w.heap.size + 1 + 1 + 1 + 1 < g) (hq : g < q) : RW w g n f q W H pv iv mv rv k S lv l (fun j => if j = i then v else B j) (wr.setCell ⟨g, i, none⟩ (.int .u8 v)) := by
  obtain ⟨h2, h3, h4, h5⟩ := h
  obtain ⟨⟨cs, a1, a2⟩, _⟩ := id h2
  exact ⟨h2.put i v h0 h1 hg hq, h3.far (show k ≠ g from fun e => h4 e.symm) _, h4, h5.setU8 ((a1.cell i).trans (a2.2 i hi).1) _⟩
theorem RW.ext (h : RW w g n f q W H pv iv mv rv k S lv l B wr) (e : ∀ j, j < n → B j = C j) : RW w g n f q W H pv iv mv rv k S lv l C wr := ⟨h.1.ext e, h.2⟩
end
theorem setPg3i {w : World} {g n c q : Nat} {B : Nat → Int} (h : Pg w (some ⟨g, 0, none⟩) n c B) (hq : g ≠ q) (x0 x1 x2 : Value) : Pg (((w.setCell ⟨q, 0, none⟩ x0).setCell ⟨q, 1, none⟩ x1).setCell ⟨q, 2, none⟩ x2) (some ⟨g, 0, none⟩) n c B := by
  obtain ⟨h1, b, o, e, h3, h4⟩ := h
  cases e
  have far : ∀ (v : World) (o1 o2 : Nat) (u : Value), (v.setCell ⟨q, o1, none⟩ u).cell? ⟨g, o2, none⟩ = v.cell? ⟨g, o2, none⟩ := fun v o1 o2 u => World.cell?_setCell_other v _ _ u (fun h => by have := (Addr.mk.inj h).1; omega)
  refine ⟨h1, g, 0, rfl, by simpa using h3, fun j hj => ⟨?_, (h4 j hj).2⟩⟩
  rw [far, far, far]
  exact (h4 j hj).1
theorem lineL_get (W H B : Int) (s : ByteArray) (a b c d e f y : Int) (n i : Nat) (hi : i < (lineL W H B s a b c d e f y n).length) : (lineL W H B s a b c d e f y n)[i] = AtV W H B s a b c d e f (16 * (i : Int) + 8) y := by
  simp [lineL]
set_option maxRecDepth 100000 in
set_option maxHeartbeats 3200000 in
theorem rpaint_any (IW IH IB ma mb mc md me mf t : Int) (s : ByteArray) (W H n c d : Nat) (A D : Option Addr) (R : Nat → Nat → Bool) (B : Nat → Int) (w : World) (hW : 1 ≤ W ∧ W ≤ 64) (hH : 1 ≤ H ∧ H ≤ 64) (hn : n = 3 * (W * H)) (hs : (s.size : Int) ≤ 9223372036854775807) (hi : mayI IW IH IB s.size = true) (hm : mt.mayB ma mb mc md me mf = true) (ht : ma * md - mb * mc = t) (h0 : ¬ t = 0)
    (hp : Pg w A n c B) (hr : rg.Rows w D H d (rowsOf W R)) :
    Calls Try.prog 40 #[.agg #[.int .i64 (W : Int), .int .i64 (H : Int), .slice A n c], .agg #[.int .i64 IW, .int .i64 IH, .int .i64 IB, .string s], .agg #[.int .i64 ma, .int .i64 mb, .int .i64 mc, .int .i64 md, .int .i64 me, .int .i64 mf], .agg #[.int .i64 (W : Int), .int .i64 (H : Int), .slice D H d]] w fun e w' =>
      ∃ g f, w.heap.size ≤ g ∧ e = .returned (.tuple #[.agg #[.int .i64 (W : Int), .int .i64 (H : Int), .slice (some ⟨g, 0, none⟩) n f], .int .i64 0]) ∧ Pg w' (some ⟨g, 0, none⟩) n f (paintB W R (fun (j i : Nat) => atV IW IH IB s ma mb mc md me mf (16 * (i : Int) + 8) (16 * (j : Int) + 8)) (greyV IB) B) ∧ Below w.heap.size w w' := by
  have hsz := page_size hW hH
  rw [← hn] at hsz
  have HBV := Lib.hid (mayI_bd hi).1
  have HMI := Lib.hid (fun W' => by have := rmay37_any IW IH IB s W' hs; rwa [hi] at this)
  have HMM := Lib.hid (fun W' => by have := mt.rmay_any ma mb mc md me mf W'; rwa [hm] at this)
  have HDT := Lib.hid (fun W' => by have := mt.rdet_any ma mb mc md me mf W' hm; rwa [ht] at this)
  have HF := Lib.hid (fun W' hr => fair_yes W H n c d A D R W' hW hH hn hr)
  have HC := Lib.hid (fun W' hp => rcopied_any (W : Int) (H : Int) n c A B W' hsz.1 hsz.2 hp)
  obtain ⟨S, hS⟩ : ∃ S : Nat → Nat → Int, (fun (j i : Nat) => atV IW IH IB s ma mb mc md me mf (16 * (i : Int) + 8) (16 * (j : Int) + 8)) = S := ⟨_, rfl⟩
  have hS1 : ∀ j i : Nat, atV IW IH IB s ma mb mc md me mf (16 * (i : Int) + 8) (16 * (j : Int) + 8) = S j i := fun j i => by rw [← hS]
  have hAV : ∀ j i : Nat, AtV IW IH IB s ma mb mc md me mf (16 * (i : Int) + 8) (16 * (j : Int) + 8) = S j i := fun j i => by
    unfold AtV
    rw [if_pos (by rw [hi, hm]; rfl), hS1]
  have HSB := Lib.hid (fun (j i : Nat) => (hS1 j i) ▸ atV_bd IW IH IB ma mb mc md me mf (16 * (i : Int) + 8) (16 * (j : Int) + 8) s hi)
  have HLN := Lib.hid (fun (j : Nat) W' => show Calls Try.prog 22 #[.agg #[.int .i64 IW, .int .i64 IH, .int .i64 IB, .string s], .agg #[.int .i64 ma, .int .i64 mb, .int .i64 mc, .int .i64 md, .int .i64 me, .int .i64 mf], .int .i64 (16 * (j : Int) + 8), .int .i64 (W : Int)] W' fun ed w' => ∃ lb lc l, ed = .returned (.slice (some ⟨lb, 0, none⟩) W lc) ∧ IntsV w' (.slice (some ⟨lb, 0, none⟩) W lc) l ∧ l.length = W ∧ (∀ (i : Nat) (hi : i < l.length), l[i] = S j i) ∧ Below W'.heap.size W' w' from
    (rLine_any IW IH IB ma mb mc md me mf (16 * (j : Int) + 8) W s W' hs hW.2).mono fun ed w' ⟨lv, e1, e2, e3⟩ => by
      have hll := lineL_len IW IH IB s ma mb mc md me mf (16 * (j : Int) + 8) W
      obtain ⟨lb, lc, e4⟩ := e2.shape (by rw [hll]; exact hW.1)
      rw [hll] at e4
      subst e4
      exact ⟨lb, lc, _, e1, e2, hll, fun i hi => by rw [lineL_get, hAV], e3⟩)
  have HGR := Lib.hid (fun v W' h0 h1 => grey36_any IW IH IB v s W' HBV.out h0 h1)
  have ht0 : (t == 0) = false := by simp; exact h0
  rw [hS]
  have HP := Lib.hid hp
  have HR := Lib.hid hr
  have HR0 := Lib.hid (show ∀ u, Below w.heap.size w u → rg.Rows u D H d (rowsOf W R) from fun u hu => hr.below hu)
  have HN := Lib.hid hn
  have HWW := Lib.hid hW
  have HHH := Lib.hid hH
  obtain ⟨hs0, hs1⟩ := hsz
  obtain ⟨hW0, hW1⟩ := hW
  obtain ⟨hH0, hH1⟩ := hH
  clear hp hr hn hs hi hm ht hS hS1 hAV
  go_enter Try.func40, Try.ntmps40
  go_wp2_with fail
  have hst0 : Below w.heap.size w (((((w.alloc (.cells #[.int .i64 (W : Int), .int .i64 (H : Int), .slice A n c] 46)).alloc (.cells #[.int .i64 IW, .int .i64 IH, .int .i64 IB, .string s] 23)).alloc (.cells #[.int .i64 ma, .int .i64 mb, .int .i64 mc, .int .i64 md, .int .i64 me, .int .i64 mf] 25)).alloc (.cells #[.int .i64 (W : Int), .int .i64 (H : Int), .slice D H d] 51)).alloc (.cells #[.int .i64 0, .int .i64 0, .slice none 0 0] 46)) := by (repeat' (first | exact Below.refl _ _ | exact Below.refl _ _ | refine balloc ?_ _ | refine Below.drew ?_ | refine below_drewN ?_ _ | refine bset ?_ (by first | omega | (simp <;> omega)) _))
  refine (HMI.out _).mono ?_
  rintro e_ w1 ⟨rfl, hb⟩
  have hst : Below w.heap.size w w1 := btrans hst0 hb
  have Kp := (((((Blk.new w 46 #[.int .i64 (W : Int), .int .i64 (H : Int), .slice A n c]).alloc (.cells #[.int .i64 IW, .int .i64 IH, .int .i64 IB, .string s] 23)).alloc (.cells #[.int .i64 ma, .int .i64 mb, .int .i64 mc, .int .i64 md, .int .i64 me, .int .i64 mf] 25)).alloc (.cells #[.int .i64 (W : Int), .int .i64 (H : Int), .slice D H d] 51)).alloc (.cells #[.int .i64 0, .int .i64 0, .slice none 0 0] 46))
  have Ki := ((((Blk.new (w.alloc (.cells #[.int .i64 (W : Int), .int .i64 (H : Int), .slice A n c] 46)) 23 #[.int .i64 IW, .int .i64 IH, .int .i64 IB, .string s]).alloc (.cells #[.int .i64 ma, .int .i64 mb, .int .i64 mc, .int .i64 md, .int .i64 me, .int .i64 mf] 25)).alloc (.cells #[.int .i64 (W : Int), .int .i64 (H : Int), .slice D H d] 51)).alloc (.cells #[.int .i64 0, .int .i64 0, .slice none 0 0] 46))
  have hz_Ki : (w.alloc (.cells #[.int .i64 (W : Int), .int .i64 (H : Int), .slice A n c] 46)).heap.size = w.heap.size + 1 := by simp
  rw [hz_Ki] at Ki
  clear hz_Ki
  have Km := (((Blk.new ((w.alloc (.cells #[.int .i64 (W : Int), .int .i64 (H : Int), .slice A n c] 46)).alloc (.cells #[.int .i64 IW, .int .i64 IH, .int .i64 IB, .string s] 23)) 25 #[.int .i64 ma, .int .i64 mb, .int .i64 mc, .int .i64 md, .int .i64 me, .int .i64 mf]).alloc (.cells #[.int .i64 (W : Int), .int .i64 (H : Int), .slice D H d] 51)).alloc (.cells #[.int .i64 0, .int .i64 0, .slice none 0 0] 46))
  have hz_Km : ((w.alloc (.cells #[.int .i64 (W : Int), .int .i64 (H : Int), .slice A n c] 46)).alloc (.cells #[.int .i64 IW, .int .i64 IH, .int .i64 IB, .string s] 23)).heap.size = w.heap.size + 1 + 1 := by simp
  rw [hz_Km] at Km
  clear hz_Km
  have Kr := ((Blk.new (((w.alloc (.cells #[.int .i64 (W : Int), .int .i64 (H : Int), .slice A n c] 46)).alloc (.cells #[.int .i64 IW, .int .i64 IH, .int .i64 IB, .string s] 23)).alloc (.cells #[.int .i64 ma, .int .i64 mb, .int .i64 mc, .int .i64 md, .int .i64 me, .int .i64 mf] 25)) 51 #[.int .i64 (W : Int), .int .i64 (H : Int), .slice D H d]).alloc (.cells #[.int .i64 0, .int .i64 0, .slice none 0 0] 46))
  have hz_Kr : (((w.alloc (.cells #[.int .i64 (W : Int), .int .i64 (H : Int), .slice A n c] 46)).alloc (.cells #[.int .i64 IW, .int .i64 IH, .int .i64 IB, .string s] 23)).alloc (.cells #[.int .i64 ma, .int .i64 mb, .int .i64 mc, .int .i64 md, .int .i64 me, .int .i64 mf] 25)).heap.size = w.heap.size + 1 + 1 + 1 := by simp
  rw [hz_Kr] at Kr
  clear hz_Kr
  have Kz := (Blk.new ((((w.alloc (.cells #[.int .i64 (W : Int), .int .i64 (H : Int), .slice A n c] 46)).alloc (.cells #[.int .i64 IW, .int .i64 IH, .int .i64 IB, .string s] 23)).alloc (.cells #[.int .i64 ma, .int .i64 mb, .int .i64 mc, .int .i64 md, .int .i64 me, .int .i64 mf] 25)).alloc (.cells #[.int .i64 (W : Int), .int .i64 (H : Int), .slice D H d] 51)) 46 #[.int .i64 0, .int .i64 0, .slice none 0 0])
  have hz_Kz : ((((w.alloc (.cells #[.int .i64 (W : Int), .int .i64 (H : Int), .slice A n c] 46)).alloc (.cells #[.int .i64 IW, .int .i64 IH, .int .i64 IB, .string s] 23)).alloc (.cells #[.int .i64 ma, .int .i64 mb, .int .i64 mc, .int .i64 md, .int .i64 me, .int .i64 mf] 25)).alloc (.cells #[.int .i64 (W : Int), .int .i64 (H : Int), .slice D H d] 51)).heap.size = w.heap.size + 1 + 1 + 1 + 1 := by simp
  rw [hz_Kz] at Kz
  clear hz_Kz
  replace Kp := Kp.below hb Kp.lt
  replace Ki := Ki.below hb Ki.lt
  replace Km := Km.below hb Km.lt
  replace Kr := Kr.below hb Kr.lt
  replace Kz := Kz.below hb Kz.lt
  have hbw : Below w.heap.size w w1 := hst
  replace HP := Lib.hid (HP.out.below hst)
  replace HR := Lib.hid (HR.out.below hst)
  clear hst hst0 hb 
  have lKp := Kp.lt
  have cKp0 := Kp.cell 0
  have cKp1 := Kp.cell 1
  have cKp2 := Kp.cell 2
  have lKi := Ki.lt
  have cKi0 := Ki.cell 0
  have cKi1 := Ki.cell 1
  have cKi2 := Ki.cell 2
  have cKi3 := Ki.cell 3
  have lKm := Km.lt
  have cKm0 := Km.cell 0
  have cKm1 := Km.cell 1
  have cKm2 := Km.cell 2
  have cKm3 := Km.cell 3
  have cKm4 := Km.cell 4
  have cKm5 := Km.cell 5
  have lKr := Kr.lt
  have cKr0 := Kr.cell 0
  have cKr1 := Kr.cell 1
  have cKr2 := Kr.cell 2
  have lKz := Kz.lt
  have cKz0 := Kz.cell 0
  have cKz1 := Kz.cell 1
  have cKz2 := Kz.cell 2
  simp only [List.getElem?_toArray, List.getElem?_cons_succ, List.getElem?_cons_zero] at cKp0 cKp1 cKp2 cKi0 cKi1 cKi2 cKi3 cKm0 cKm1 cKm2 cKm3 cKm4 cKm5 cKr0 cKr1 cKr2 cKz0 cKz1 cKz2
  go_wp2_with fail
  have hst0 : Below w1.heap.size w1 w1 := by (repeat' (first | exact Below.refl _ _ | exact Below.refl _ _ | refine balloc ?_ _ | refine Below.drew ?_ | refine below_drewN ?_ _ | refine bset ?_ (by first | omega | (simp <;> omega)) _))
  refine (HMM.out _).mono ?_
  rintro e_ w2 ⟨rfl, hb⟩
  have hst : Below w1.heap.size w1 w2 := btrans hst0 hb
  replace Kp := Kp.below hb Kp.lt
  replace Ki := Ki.below hb Ki.lt
  replace Km := Km.below hb Km.lt
  replace Kr := Kr.below hb Kr.lt
  replace Kz := Kz.below hb Kz.lt
  replace hbw : Below w.heap.size w w2 := btrans hbw hst
  replace HP := Lib.hid (HP.out.below hst)
  replace HR := Lib.hid (HR.out.below hst)
  clear hst hst0 hb lKp cKp0 cKp1 cKp2 lKi cKi0 cKi1 cKi2 cKi3 lKm cKm0 cKm1 cKm2 cKm3 cKm4 cKm5 lKr cKr0 cKr1 cKr2 lKz cKz0 cKz1 cKz2
  have lKp := Kp.lt
  have cKp0 := Kp.cell 0
  have cKp1 := Kp.cell 1
  have cKp2 := Kp.cell 2
  have lKi := Ki.lt
  have cKi0 := Ki.cell 0
  have cKi1 := Ki.cell 1
  have cKi2 := Ki.cell 2
  have cKi3 := Ki.cell 3
  have lKm := Km.lt
  have cKm0 := Km.cell 0
  have cKm1 := Km.cell 1
  have cKm2 := Km.cell 2
  have cKm3 := Km.cell 3
  have cKm4 := Km.cell 4
  have cKm5 := Km.cell 5
  have lKr := Kr.lt
  have cKr0 := Kr.cell 0
  have cKr1 := Kr.cell 1
  have cKr2 := Kr.cell 2
  have lKz := Kz.lt
  have cKz0 := Kz.cell 0
  have cKz1 := Kz.cell 1
  have cKz2 := Kz.cell 2
  simp only [List.getElem?_toArray, List.getElem?_cons_succ, List.getElem?_cons_zero] at cKp0 cKp1 cKp2 cKi0 cKi1 cKi2 cKi3 cKm0 cKm1 cKm2 cKm3 cKm4 cKm5 cKr0 cKr1 cKr2 cKz0 cKz1 cKz2
  go_wp2_with fail
  have hst0 : Below w2.heap.size w2 w2 := by (repeat' (first | exact Below.refl _ _ | exact Below.refl _ _ | refine balloc ?_ _ | refine Below.drew ?_ | refine below_drewN ?_ _ | refine bset ?_ (by first | omega | (simp <;> omega)) _))
  refine (HF.out _ (HR.out.below hst0)).mono ?_
  rintro e_ w3 ⟨rfl, hb⟩
  have hst : Below w2.heap.size w2 w3 := btrans hst0 hb
  replace Kp := Kp.below hb Kp.lt
  replace Ki := Ki.below hb Ki.lt
  replace Km := Km.below hb Km.lt
  replace Kr := Kr.below hb Kr.lt
  replace Kz := Kz.below hb Kz.lt
  replace hbw : Below w.heap.size w w3 := btrans hbw hst
  replace HP := Lib.hid (HP.out.below hst)
  replace HR := Lib.hid (HR.out.below hst)
  clear hst hst0 hb lKp cKp0 cKp1 cKp2 lKi cKi0 cKi1 cKi2 cKi3 lKm cKm0 cKm1 cKm2 cKm3 cKm4 cKm5 lKr cKr0 cKr1 cKr2 lKz cKz0 cKz1 cKz2
  have lKp := Kp.lt
  have cKp0 := Kp.cell 0
  have cKp1 := Kp.cell 1
  have cKp2 := Kp.cell 2
  have lKi := Ki.lt
  have cKi0 := Ki.cell 0
  have cKi1 := Ki.cell 1
  have cKi2 := Ki.cell 2
  have cKi3 := Ki.cell 3
  have lKm := Km.lt
  have cKm0 := Km.cell 0
  have cKm1 := Km.cell 1
  have cKm2 := Km.cell 2
  have cKm3 := Km.cell 3
  have cKm4 := Km.cell 4
  have cKm5 := Km.cell 5
  have lKr := Kr.lt
  have cKr0 := Kr.cell 0
  have cKr1 := Kr.cell 1
  have cKr2 := Kr.cell 2
  have lKz := Kz.lt
  have cKz0 := Kz.cell 0
  have cKz1 := Kz.cell 1
  have cKz2 := Kz.cell 2
  simp only [List.getElem?_toArray, List.getElem?_cons_succ, List.getElem?_cons_zero] at cKp0 cKp1 cKp2 cKi0 cKi1 cKi2 cKi3 cKm0 cKm1 cKm2 cKm3 cKm4 cKm5 cKr0 cKr1 cKr2 cKz0 cKz1 cKz2
  go_wp2_with fail
  have hst0 : Below w3.heap.size w3 w3 := by (repeat' (first | exact Below.refl _ _ | exact Below.refl _ _ | refine balloc ?_ _ | refine Below.drew ?_ | refine below_drewN ?_ _ | refine bset ?_ (by first | omega | (simp <;> omega)) _))
  refine (HDT.out _).mono ?_
  rintro e_ w4 ⟨rfl, hb⟩
  have hst : Below w3.heap.size w3 w4 := btrans hst0 hb
  replace Kp := Kp.below hb Kp.lt
  replace Ki := Ki.below hb Ki.lt
  replace Km := Km.below hb Km.lt
  replace Kr := Kr.below hb Kr.lt
  replace Kz := Kz.below hb Kz.lt
  replace hbw : Below w.heap.size w w4 := btrans hbw hst
  replace HP := Lib.hid (HP.out.below hst)
  replace HR := Lib.hid (HR.out.below hst)
  clear hst hst0 hb lKp cKp0 cKp1 cKp2 lKi cKi0 cKi1 cKi2 cKi3 lKm cKm0 cKm1 cKm2 cKm3 cKm4 cKm5 lKr cKr0 cKr1 cKr2 lKz cKz0 cKz1 cKz2
  have lKp := Kp.lt
  have cKp0 := Kp.cell 0
  have cKp1 := Kp.cell 1
  have cKp2 := Kp.cell 2
  have lKi := Ki.lt
  have cKi0 := Ki.cell 0
  have cKi1 := Ki.cell 1
  have cKi2 := Ki.cell 2
  have cKi3 := Ki.cell 3
  have lKm := Km.lt
  have cKm0 := Km.cell 0
  have cKm1 := Km.cell 1
  have cKm2 := Km.cell 2
  have cKm3 := Km.cell 3
  have cKm4 := Km.cell 4
  have cKm5 := Km.cell 5
  have lKr := Kr.lt
  have cKr0 := Kr.cell 0
  have cKr1 := Kr.cell 1
  have cKr2 := Kr.cell 2
  have lKz := Kz.lt
  have cKz0 := Kz.cell 0
  have cKz1 := Kz.cell 1
  have cKz2 := Kz.cell 2
  simp only [List.getElem?_toArray, List.getElem?_cons_succ, List.getElem?_cons_zero] at cKp0 cKp1 cKp2 cKi0 cKi1 cKi2 cKi3 cKm0 cKm1 cKm2 cKm3 cKm4 cKm5 cKr0 cKr1 cKr2 cKz0 cKz1 cKz2
  go_wp2_with fail
  have hst0 : Below w4.heap.size w4 w4 := by (repeat' (first | exact Below.refl _ _ | exact Below.refl _ _ | refine balloc ?_ _ | refine Below.drew ?_ | refine below_drewN ?_ _ | refine bset ?_ (by first | omega | (simp <;> omega)) _))
  refine (HC.out _ (HP.out.below hst0)).mono ?_
  rintro e_ w5 ⟨g, f, cs, hge, rfl, hnf, hBk, hHo, hb⟩
  have hg3 : w.heap.size + 1 + 1 + 1 + 1 < g := Nat.lt_of_lt_of_le lKz hge
  clear hge
  have hst : Below w4.heap.size w4 w5 := btrans hst0 hb
  replace Kp := Kp.below hb Kp.lt
  replace Ki := Ki.below hb Ki.lt
  replace Km := Km.below hb Km.lt
  replace Kr := Kr.below hb Kr.lt
  replace Kz := Kz.below hb Kz.lt
  replace hbw : Below w.heap.size w w5 := btrans hbw hst
  replace HP := Lib.hid (HP.out.below hst)
  replace HR := Lib.hid (HR.out.below hst)
  clear hst hst0 hb lKp cKp0 cKp1 cKp2 lKi cKi0 cKi1 cKi2 cKi3 lKm cKm0 cKm1 cKm2 cKm3 cKm4 cKm5 lKr cKr0 cKr1 cKr2 lKz cKz0 cKz1 cKz2
  have lKp := Kp.lt
  have cKp0 := Kp.cell 0
  have cKp1 := Kp.cell 1
  have cKp2 := Kp.cell 2
  have lKi := Ki.lt
  have cKi0 := Ki.cell 0
  have cKi1 := Ki.cell 1
  have cKi2 := Ki.cell 2
  have cKi3 := Ki.cell 3
  have lKm := Km.lt
  have cKm0 := Km.cell 0
  have cKm1 := Km.cell 1
  have cKm2 := Km.cell 2
  have cKm3 := Km.cell 3
  have cKm4 := Km.cell 4
  have cKm5 := Km.cell 5
  have lKr := Kr.lt
  have cKr0 := Kr.cell 0
  have cKr1 := Kr.cell 1
  have cKr2 := Kr.cell 2
  have lKz := Kz.lt
  have cKz0 := Kz.cell 0
  have cKz1 := Kz.cell 1
  have cKz2 := Kz.cell 2
  simp only [List.getElem?_toArray, List.getElem?_cons_succ, List.getElem?_cons_zero] at cKp0 cKp1 cKp2 cKi0 cKi1 cKi2 cKi3 cKm0 cKm1 cKm2 cKm3 cKm4 cKm5 cKr0 cKr1 cKr2 cKz0 cKz1 cKz2
  have hgl := hBk.lt
  go_wp2_with fail
  have hBk2 := (hBk.alloc (.cells #[.int .i64 (W : Int), .int .i64 (H : Int), .slice (some ⟨g, 0, none⟩) n f] 46))
  replace Kp := (Kp.alloc (.cells #[.int .i64 (W : Int), .int .i64 (H : Int), .slice (some ⟨g, 0, none⟩) n f] 46))
  replace Ki := (Ki.alloc (.cells #[.int .i64 (W : Int), .int .i64 (H : Int), .slice (some ⟨g, 0, none⟩) n f] 46))
  replace Km := (Km.alloc (.cells #[.int .i64 (W : Int), .int .i64 (H : Int), .slice (some ⟨g, 0, none⟩) n f] 46))
  replace Kr := (Kr.alloc (.cells #[.int .i64 (W : Int), .int .i64 (H : Int), .slice (some ⟨g, 0, none⟩) n f] 46))
  replace Kz := (Kz.alloc (.cells #[.int .i64 (W : Int), .int .i64 (H : Int), .slice (some ⟨g, 0, none⟩) n f] 46))
  have Kq := (Blk.new w5 46 #[.int .i64 (W : Int), .int .i64 (H : Int), .slice (some ⟨g, 0, none⟩) n f])
  have hq : g < w5.heap.size := hgl
  have hbw2 : Below w.heap.size w (w5.alloc (.cells #[.int .i64 (W : Int), .int .i64 (H : Int), .slice (some ⟨g, 0, none⟩) n f] 46)) := by (repeat' (first | exact hbw | exact Below.refl _ _ | refine balloc ?_ _ | refine Below.drew ?_ | refine below_drewN ?_ _ | refine bset ?_ (by first | omega | (simp <;> omega)) _))
  have HREL := Lib.hid (show RV w g n f w5.heap.size (W : Int) (H : Int) #[.int .i64 (W : Int), .int .i64 (H : Int), .slice A n c] #[.int .i64 IW, .int .i64 IH, .int .i64 IB, .string s] #[.int .i64 ma, .int .i64 mb, .int .i64 mc, .int .i64 md, .int .i64 me, .int .i64 mf] #[.int .i64 (W : Int), .int .i64 (H : Int), .slice D H d] (pntB W R S (greyV IB) B 0) (w5.alloc (.cells #[.int .i64 (W : Int), .int .i64 (H : Int), .slice (some ⟨g, 0, none⟩) n f] 46)) from ⟨⟨cs, hBk2, hHo.ext fun j _ => pntB_zero W R S (greyV IB) B j⟩, Kp, Ki, Km, Kr, Kz, Kq, hbw2⟩)
  clear hBk hBk2 hHo hgl Kp Kr Ki Km Kz Kq hbw2 HP HF HC HMI HMM HDT lKp cKp0 cKp1 cKp2 lKi cKi0 cKi1 cKi2 cKi3 lKm cKm0 cKm1 cKm2 cKm3 cKm4 cKm5 lKr cKr0 cKr1 cKr2 lKz cKz0 cKz1 cKz2
  obtain ⟨q, hqe⟩ : ∃ q, w5.heap.size = q := ⟨_, rfl⟩
  rw [hqe] at hq HREL
  simp only [hqe]
  go_loopw [11] (fun jv wr => ∃ j : Nat, j ≤ H ∧ jv = .int .i64 (j : Int) ∧ Hid (RV w g n f q (W : Int) (H : Int) #[.int .i64 (W : Int), .int .i64 (H : Int), .slice A n c] #[.int .i64 IW, .int .i64 IH, .int .i64 IB, .string s] #[.int .i64 ma, .int .i64 mb, .int .i64 mc, .int .i64 md, .int .i64 me, .int .i64 mf] #[.int .i64 (W : Int), .int .i64 (H : Int), .slice D H d] (pntB W R S (greyV IB) B (j * W)) wr)) (fun jv _ => 64 - (intOf jv).toNat)
  case atStart => exact ⟨0, Nat.zero_le _, rfl, Lib.hid (by rw [Nat.zero_mul]; exact HREL.out)⟩
  case round =>
    clear HREL hqe hbw
    obtain ⟨j, hj, rfl, hR⟩ := hrel
    obtain ⟨wo, rfl⟩ : ∃ wo, wo = wr := ⟨_, rfl⟩
    obtain ⟨⟨cs1, hG, hHo⟩, Kp, Ki, Km, Kr, Kz, Kq, hbw⟩ := id hR.out
    have p0 := Kp.cell 0; have p1 := Kp.cell 1; have r2 := Kr.cell 2
    have q0 := Kq.cell 0; have q1 := Kq.cell 1; have q2 := Kq.cell 2
    have y0 := Kz.frozen 0; have y1 := Kz.frozen 1; have y2 := Kz.frozen 2
    have z0 := Kz.cell 0; have z1 := Kz.cell 1; have z2 := Kz.cell 2
    simp only [List.getElem?_toArray, List.getElem?_cons_succ, List.getElem?_cons_zero] at p0 p1 r2 q0 q1 q2 z0 z1 z2
    by_cases hend : j = H
    · subst hend
      have HFIN := Lib.hid (Pg.ext (Holds.pg hHo hG hnf) fun t ht => pntB_all W j R S (greyV IB) B t (by rw [← HN.out]; exact ht))
      have HGl := hG.lt
      have HKz := Lib.hid Kz
      have HBW := Lib.hid hbw
      clear hR hG hHo Kp Ki Km Kr Kz Kq hbw p0 r2
      go_wp2_with fail
      refine ret_struct2 (g := w.heap.size + 1 + 1 + 1 + 1) (t := 46) (cs := #[.int .i64 (W : Int), .int .i64 (j : Int), .slice (some ⟨g, 0, none⟩) n f]) rfl rfl ?_ Try.underlying46 rfl rfl rfl ?_
      · exact ((HKz.out.set_ 0 (.int .i64 (W : Int))).set_ 1 (.int .i64 (j : Int))).set_ 2 (.slice (some ⟨g, 0, none⟩) n f)
      · exact ⟨g, f, by omega, rfl, setPg3i HFIN.out (by omega) _ _ _, bset (bset (bset HBW.out (show w.heap.size ≤ w.heap.size + 1 + 1 + 1 + 1 by omega) _) (show w.heap.size ≤ w.heap.size + 1 + 1 + 1 + 1 by omega) _) (show w.heap.size ≤ w.heap.size + 1 + 1 + 1 + 1 by omega) _⟩
    · have hjH : j < H := by omega
      obtain ⟨b, o, hD, hlt, hrow⟩ := (HR0.out wo hbw).at_ (by omega)
      subst hD
      obtain ⟨hll, Aj, cj, hcj, hrj⟩ := hrow j hjH
      have hji : (j : Int) < (H : Int) := by omega
      obtain ⟨lj, hlj⟩ : ∃ l, rowsOf W R j = l := ⟨_, rfl⟩
      rw [hlj] at hll hcj hrj
      have HRJ := Lib.hid hrj
      have HLJ := Lib.hid hlj
      clear hrj hlj hG hHo Kp Ki Km Kr Kz Kq q0 q1 q2 y0 y1 y2 z0 z1 z2 hrow
      go_wp2_with fail
      refine (places_any Aj _ cj lj _ HRJ.out hll).mono ?_
      rintro e_ w5 ⟨rfl, hb5⟩
      have HR5 := Lib.hid (RV.below hR.out hb5)
      have K1 := Blk.new w5 114 #[.bool false, .bool false, .bool false, .bool false, .bool false, .bool false, .bool false, .bool false, .bool false, .bool false, .bool false, .bool false, .bool false, .bool false, .bool false, .bool false, .bool false, .bool false, .bool false, .bool false, .bool false, .bool false, .bool false, .bool false, .bool false, .bool false, .bool false, .bool false, .bool false, .bool false, .bool false, .bool false, .bool false, .bool false, .bool false, .bool false, .bool false, .bool false, .bool false, .bool false, .bool false, .bool false, .bool false, .bool false, .bool false, .bool false, .bool false, .bool false, .bool false, .bool false, .bool false, .bool false, .bool false, .bool false, .bool false, .bool false, .bool false, .bool false, .bool false, .bool false, .bool false, .bool false, .bool false, .bool false]
      clear hR hbw p0 p1 r2 hcj HRJ hll
      have HR6 := Lib.hid (RV.below HR5.out (show Below w5.heap.size w5 ((w5.alloc (.cells #[.bool false, .bool false, .bool false, .bool false, .bool false, .bool false, .bool false, .bool false, .bool false, .bool false, .bool false, .bool false, .bool false, .bool false, .bool false, .bool false, .bool false, .bool false, .bool false, .bool false, .bool false, .bool false, .bool false, .bool false, .bool false, .bool false, .bool false, .bool false, .bool false, .bool false, .bool false, .bool false, .bool false, .bool false, .bool false, .bool false, .bool false, .bool false, .bool false, .bool false, .bool false, .bool false, .bool false, .bool false, .bool false, .bool false, .bool false, .bool false, .bool false, .bool false, .bool false, .bool false, .bool false, .bool false, .bool false, .bool false, .bool false, .bool false, .bool false, .bool false, .bool false, .bool false, .bool false, .bool false] 114)).setRow w5.heap.size (rowC (inRuns lj))) from brow (balloc (Below.refl _ _) _) (Nat.le_refl _) _))
      have HK1 := Lib.hid (K1.row (rowC (inRuns lj)))
      have hgw : g < w5.heap.size := HR5.out.1.elim fun _ h => h.1.lt
      go_wp2_with (refine wpList_store_row rfl 114 (.tmp 12) (.tmp 48) rfl _ (rowC (inRuns lj)) rfl rfl _ _ K1 (by rw [rowC_size]; kernel_rfl) (by rw [rowC_size]; rfl) (rowC_one _) ?_; refine Held.of ?_)
      unfold Held
      clear HR5 K1
      obtain ⟨kr, hkr⟩ : ∃ k, w5.heap.size = k := ⟨_, rfl⟩
      rw [hkr] at HR6 HK1 hgw
      simp only [hkr]
      obtain ⟨w6, hw6⟩ : ∃ v, (w5.alloc (.cells #[.bool false, .bool false, .bool false, .bool false, .bool false, .bool false, .bool false, .bool false, .bool false, .bool false, .bool false, .bool false, .bool false, .bool false, .bool false, .bool false, .bool false, .bool false, .bool false, .bool false, .bool false, .bool false, .bool false, .bool false, .bool false, .bool false, .bool false, .bool false, .bool false, .bool false, .bool false, .bool false, .bool false, .bool false, .bool false, .bool false, .bool false, .bool false, .bool false, .bool false, .bool false, .bool false, .bool false, .bool false, .bool false, .bool false, .bool false, .bool false, .bool false, .bool false, .bool false, .bool false, .bool false, .bool false, .bool false, .bool false, .bool false, .bool false, .bool false, .bool false, .bool false, .bool false, .bool false, .bool false] 114)).setRow kr (rowC (inRuns lj)) = v := ⟨_, rfl⟩
      rw [hw6] at HR6 HK1
      simp only [hw6]
      clear hw6 hkr
      have i0 := HR6.out.2.2.1.cell 0; have i1 := HR6.out.2.2.1.cell 1; have i2 := HR6.out.2.2.1.cell 2; have i3 := HR6.out.2.2.1.cell 3
      have m0 := HR6.out.2.2.2.1.cell 0; have m1 := HR6.out.2.2.2.1.cell 1; have m2 := HR6.out.2.2.2.1.cell 2; have m3 := HR6.out.2.2.2.1.cell 3; have m4 := HR6.out.2.2.2.1.cell 4; have m5 := HR6.out.2.2.2.1.cell 5
      have p0 := HR6.out.2.1.cell 0
      simp only [List.getElem?_toArray, List.getElem?_cons_succ, List.getElem?_cons_zero] at p0 i0 i1 i2 i3 m0 m1 m2 m3 m4 m5
      go_wp2_with fail
      refine (HLN.out j _).mono ?_
      rintro e_ w7 ⟨lb, lc, l, rfl, hIV, hLen, hGet, hb7⟩
      have HRQ := Lib.hid (show RW w g n f q (W : Int) (H : Int) #[.int .i64 (W : Int), .int .i64 (H : Int), .slice A n c] #[.int .i64 IW, .int .i64 IH, .int .i64 IB, .string s] #[.int .i64 ma, .int .i64 mb, .int .i64 mc, .int .i64 md, .int .i64 me, .int .i64 mf] #[.int .i64 (W : Int), .int .i64 (H : Int), .slice (some ⟨b, o, none⟩) H d] kr (inRuns lj) (.slice (some ⟨lb, 0, none⟩) W lc) l (pntB W R S (greyV IB) B (j * W)) w7 from ⟨RV.below HR6.out hb7, HK1.out.below hb7 HK1.out.lt, by omega, hIV⟩)
      have HGET := Lib.hid hGet
      have HLEN := Lib.hid hLen
      clear HR6 HK1 hIV hGet hLen hb7 p0 i0 i1 i2 i3 m0 m1 m2 m3 m4 m5
      obtain ⟨sw, hs⟩ : ∃ s, j * W = s := ⟨_, rfl⟩
      have e1 : (W : Int) * (j : Int) = (sw : Int) := by rw [← hs]; push_cast; rw [Int.mul_comm]
      rw [hs] at HRQ
      have HS := Lib.hid hs
      have hsb : sw + W ≤ 4096 := by
        have h1 : (j + 1) * W ≤ 64 * 64 := Nat.mul_le_mul (by omega) hW1
        rw [Nat.add_mul, Nat.one_mul, hs] at h1
        exact h1
      have hsn : 3 * (sw + W) ≤ n := by
        have h1 := pix_in (W := W) (H := H) (j := j) (i := W - 1) hjH (by omega)
        rw [hs, ← HN.out] at h1
        omega
      clear hs
      go_wp2_with fail
      go_loopw [14] (fun iv wr => ∃ i : Nat, i ≤ W ∧ iv = .int .i64 (i : Int) ∧ Hid (RW w g n f q (W : Int) (H : Int) #[.int .i64 (W : Int), .int .i64 (H : Int), .slice A n c] #[.int .i64 IW, .int .i64 IH, .int .i64 IB, .string s] #[.int .i64 ma, .int .i64 mb, .int .i64 mc, .int .i64 md, .int .i64 me, .int .i64 mf] #[.int .i64 (W : Int), .int .i64 (H : Int), .slice (some ⟨b, o, none⟩) H d] kr (inRuns lj) (.slice (some ⟨lb, 0, none⟩) W lc) l (pntB W R S (greyV IB) B (sw + i)) wr)) (fun iv _ => 64 - (intOf iv).toNat)
      case atStart => exact ⟨0, Nat.zero_le _, rfl, Lib.hid (by rw [Nat.add_zero]; exact HRQ.out)⟩
      case round =>
        clear HRQ
        obtain ⟨i, hi, rfl, hR⟩ := hrel
        obtain ⟨wi, rfl⟩ : ∃ wi, wi = wr := ⟨_, rfl⟩
        obtain ⟨⟨⟨cs1, hG, hHo⟩, Kp, Ki, Km, Kr, Kz, Kq, hbw⟩, Krow, hgk, hIV⟩ := id hR.out
        have p0 := Kp.cell 0
        simp only [List.getElem?_toArray, List.getElem?_cons_succ, List.getElem?_cons_zero] at p0
        by_cases hiW : i = W
        · subst hiW
          clear hG hHo Kp Kr Ki Km Kz Kq hbw Krow hIV
          go_wp2_with fail
          go_roundw
          case rel => exact ⟨j + 1, by omega, by go_num, Lib.hid (by rw [Nat.add_mul, Nat.one_mul, HS.out]; exact hR.out.1)⟩
          case measure => simp [intOf]; omega
        · have hiw : i < W := by omega
          have hiw2 : (i : Int) < (W : Int) := by omega
          have hi64 : i < 64 := by omega
          have hi64b : (i : Int) < 64 := by omega
          obtain ⟨bS, hbS⟩ : ∃ b, inRuns lj i = b := ⟨_, rfl⟩
          have hrc : wi.cell? ⟨kr, i, none⟩ = some (.bool bS) := by rw [Krow.cell, rowC_get _ i hi64, hbS]
          have HBS := Lib.hid hbS
          obtain ⟨hlb, hlci⟩ := hIV.at_ HLEN.out _ HGET.out i hiw
          clear hG hHo Kp Kr Ki Km Kz Kq hbw Krow hbS hIV
          have hvb := HSB.out j i
          obtain ⟨v, hv⟩ : ∃ v, S j i = v := ⟨_, rfl⟩
          rw [hv] at hlci hvb
          have HV := Lib.hid hv
          clear hv
          rcases (show bS = false ∨ (bS = true ∧ v < 0) ∨ (bS = true ∧ 0 ≤ v) by cases bS <;> simp; omega) with h | ⟨h, hv0⟩ | ⟨h, hv0⟩
          · subst h
            have hRf : R j i = false := row_false hiw (by rw [HLJ.out]; exact HBS.out)
            have HNX := Lib.hid (RW.ext hR.out fun t _ => paint_skip hiw (.inl hRf) HS.out t)
            go_wp2_with fail
            go_loopw [15] (fun cv wr => cv = .int .i64 0 ∧ wr = wi) (fun _ _ => 0)
            case atStart => exact ⟨rfl, rfl⟩
            case round =>
              obtain ⟨rfl, rfl⟩ := hrel
              go_wp2_with fail
              go_roundw
              case rel => exact ⟨i + 1, by omega, by go_num, by rw [← Nat.add_assoc]; exact HNX⟩
              case measure => simp [intOf]; omega
          · subst h
            have d4 : decide (v ≥ 0) = false := by simp; omega
            have d5 : decide (0 ≤ v) = false := by simp; omega
            have hvn : S j i < 0 := by rw [HV.out]; exact hv0
            have HNX := Lib.hid (RW.ext hR.out fun t _ => paint_skip hiw (.inr hvn) HS.out t)
            clear hvn
            go_wp2_with fail
            go_loopw [15] (fun cv wr => cv = .int .i64 0 ∧ wr = wi) (fun _ _ => 0)
            case atStart => exact ⟨rfl, rfl⟩
            case round =>
              obtain ⟨rfl, rfl⟩ := hrel
              go_wp2_with fail
              go_roundw
              case rel => exact ⟨i + 1, by omega, by go_num, by rw [← Nat.add_assoc]; exact HNX⟩
              case measure => simp [intOf]; omega
          · subst h
            have d4 : decide (v ≥ 0) = true := by simp; omega
            have d5 : decide (0 ≤ v) = true := by simp; omega
            have hRt : R j i = true := row_true (by rw [HLJ.out]; exact HBS.out)
            obtain ⟨m, hm⟩ : ∃ m, 3 * (sw + i) = m := ⟨_, rfl⟩
            have e2 : 3 * ((sw : Int) + (i : Int)) = (m : Int) := by omega
            have hmn : m + 3 ≤ n := by omega
            obtain ⟨gv, hgv⟩ : ∃ gv, greyV IB v = gv := ⟨_, rfl⟩
            have HNX := Lib.hid (fun t => paint_next (B := B) hiw hRt HV.out hv0 HS.out hm hgv t)
            have hgb := grey_as HBV.out hv0 hvb.2 hgv
            have HGV := Lib.hid (fun W' => grey36_as IW IH IB v gv s W' HBV.out hv0 hvb.2 hgv)
            have HM := Lib.hid hm
            clear hm hgv
            go_wp2_with fail
            clear p0 hrc
            go_loopw [15] (fun cv wr => ∃ c9 : Nat, c9 ≤ 3 ∧ cv = .int .i64 (c9 : Int) ∧ Hid (RW w g n f q (W : Int) (H : Int) #[.int .i64 (W : Int), .int .i64 (H : Int), .slice A n c] #[.int .i64 IW, .int .i64 IH, .int .i64 IB, .string s] #[.int .i64 ma, .int .i64 mb, .int .i64 mc, .int .i64 md, .int .i64 me, .int .i64 mf] #[.int .i64 (W : Int), .int .i64 (H : Int), .slice (some ⟨b, o, none⟩) H d] kr (inRuns lj) (.slice (some ⟨lb, 0, none⟩) W lc) l (pst m c9 gv (pntB W R S (greyV IB) B (sw + i))) wr)) (fun cv _ => 3 - (intOf cv).toNat)
            case atStart => exact ⟨0, Nat.zero_le _, rfl, Lib.hid (RW.ext hR.out fun t _ => (pst_zero _ _ _ _).symm)⟩
            case round =>
              clear hR hlci hlb
              obtain ⟨c', hc, rfl, hR⟩ := hrel
              obtain ⟨wc, rfl⟩ : ∃ wc, wc = wr := ⟨_, rfl⟩
              obtain ⟨⟨⟨cs1, hG, hHo⟩, Kp, Ki, Km, Kr, Kz, Kq, hbw⟩, Krow, hgk, hIV⟩ := id hR.out
              have p0 := Kp.cell 0
              have hrc : wc.cell? ⟨kr, i, none⟩ = some (.bool true) := by rw [Krow.cell, rowC_get _ i hi64, HBS.out]
              obtain ⟨hlb, hlci⟩ := hIV.at_ HLEN.out _ HGET.out i hiw
              rw [HV.out] at hlci
              have q2 := Kq.cell 2
              have i0 := Ki.cell 0; have i1 := Ki.cell 1; have i2 := Ki.cell 2; have i3 := Ki.cell 3
              simp only [List.getElem?_toArray, List.getElem?_cons_succ, List.getElem?_cons_zero] at p0 q2 i0 i1 i2 i3
              by_cases hc3 : c' = 3
              · subst hc3
                have HNY := Lib.hid (RW.ext hR.out fun t _ => HNX.out t)
                clear hG hHo Kp Kr Ki Km Kz Kq hbw Krow q2 i0 i1 i2 i3 hIV
                go_wp2_with fail
                go_roundw
                case rel => exact ⟨i + 1, by omega, by go_num, by rw [← Nat.add_assoc]; exact HNY⟩
                case measure => simp [intOf]; omega
              · have hc3' : c' < 3 := by omega
                have hc3i : (c' : Int) < 3 := by omega
                obtain ⟨t9, ht9⟩ : ∃ t, m + c' = t := ⟨_, rfl⟩
                have e3 : (m : Int) + (c' : Int) = (t9 : Int) := by omega
                have htn : t9 < n := by omega
                have htn2 : (t9 : Int) < (n : Int) := by omega
                obtain ⟨v9, gc⟩ : ∃ v, wc.cell? ⟨g, t9, none⟩ = some (.int .u8 v) := ⟨_, (hG.cell t9).trans (hHo.2 t9 htn).1⟩
                have hnx : ∀ k, (if k = t9 then gv else pst m c' gv (pntB W R S (greyV IB) B (sw + i)) k) = pst m (c' + 1) gv (pntB W R S (greyV IB) B (sw + i)) k := fun k => by
                  have := pst_succ m c' gv (pntB W R S (greyV IB) B (sw + i)) k
                  rw [ht9] at this
                  exact this
                have hgl := hG.lt
                have hql := Kq.lt
                have hpl := Kp.lt
                have hil := Ki.lt
                have HG0 := Lib.hid (fun (u : World) (hb : Below wc.heap.size wc u) => ((hG.below hb hgl).frozen t9 : u.frozen? ⟨g, t9, none⟩ = false))
                have U0 := fun u : Up wc => (u.cell (p := ⟨q, 2, none⟩) hql).trans q2
                have U1 := fun u : Up wc => (u.cell (p := ⟨g, t9, none⟩) hgl).trans gc
                have U2 := fun u : Up wc => (u.cell (p := ⟨w.heap.size, 0, none⟩) hpl).trans p0
                have U3 := fun u : Up wc => (u.cell (p := ⟨w.heap.size + 1, 0, none⟩) hil).trans i0
                have U4 := fun u : Up wc => (u.cell (p := ⟨w.heap.size + 1, 1, none⟩) hil).trans i1
                have U5 := fun u : Up wc => (u.cell (p := ⟨w.heap.size + 1, 2, none⟩) hil).trans i2
                have U6 := fun u : Up wc => (u.cell (p := ⟨w.heap.size + 1, 3, none⟩) hil).trans i3
                have U7 := fun u : Up wc => (u.cell (p := ⟨lb, i, none⟩) hlb).trans hlci
                have HU := Lib.hid (fun u : Up wc => up_of (u := u) (HGV.out u.val))
                have HNZ := Lib.hid (fun (u : World) (hb : Below wc.heap.size wc u) => RW.ext (RW.put (RW.below hR.out hb) t9 htn gv hgb.1 hgb.2 hg3 hq) fun k _ => hnx k)
                clear hG hHo Kp Kr Ki Km Kz Kq hbw Krow hnx ht9 q2 i0 i1 i2 i3 hR hIV
                go_wp2_with fail
                obtain ⟨hgv0, hgv1⟩ := hgb
                have ht0 : (0 : Int) ≤ (t9 : Int) := by omega
                have htn3 : (t9 : Int).toNat = t9 := by omega
                have hin3 : (i : Int).toNat = i := by omega
                have hct : (c' : Int).toNat = c' := by omega
                clear p0 hrc hlci
                refine wp_region_up_tail 18 (by kernel_rfl) (by kernel_rfl) ?_
                simp only [List.take_succ_cons, List.take_zero, List.drop_succ_cons, List.drop_zero]
                repeat (go_big_quiet_step (fail))
                go_big_quiet_step (exact HU.out _)
                repeat (go_big_quiet_step (fail))
                refine wpQuiet_nil ?_
                rintro _ ⟨uq, rfl⟩
                have cv9 := U1 uq
                have fv9 := HG0.out uq.val uq.ok
                have HNW := Lib.hid (HNZ.out uq.val uq.ok)
                clear HNZ HG0 HU U0 U1 U2 U3 U4 U5 U6 U7 gc
                generalize hwx : uq.val = wz at *
                clear hwx uq
                go_wp2_with fail
                go_roundw
                case rel => exact ⟨c' + 1, by omega, by go_num, HNW⟩
                case measure => simp [intOf]; omega
end Go.Proofs.Ytegpjjkbbdfggaa.im

/-
  As base/XUpChain and XUpChain2, where the chain's steps may also be operations that yield and make memory (a slice's building, an array's load). Names as there, in the namespace bg.
-/
namespace Go.Proofs.Ytegpjjkbbdfggaa.bg
set_option linter.unusedVariables false
set_option linter.unusedSimpArgs false
open Go.RowKit bs

section
variable {P : Program} {ops : Array Oper} {md : Region.Mode}

def upC (w : World) : World → Prop := fun w' => ∃ u : Up w, w' = u.val
/-- a run that calls a function which returns, or yields a value; what lay lies -/
def runsTo (P : Program) (R : Value → World → Prop) (r : Result Next) (w : World) : Prop :=
  (∃ f args, r = .ok (.enter f args) w ∧ Calls P f args w fun e w' => ∃ v, e = .returned v ∧ R v w') ∨ ∃ v w', r = .ok (.value v) w' ∧ R v w'
theorem runsTo_mono {R R' : Value → World → Prop} {r : Result Next} {w : World} (h : runsTo P R r w) (hk : ∀ v w', R v w' → R' v w') : runsTo P R' r w := by
  rcases h with ⟨f, args, h3, h4⟩ | ⟨v, w', h3, h4⟩
  · exact .inl ⟨f, args, h3, h4.mono fun e w' ⟨v, e1, e2⟩ => ⟨v, e1, hk _ _ e2⟩⟩
  · exact .inr ⟨v, w', h3, hk _ _ h4⟩
/-- operation i calls a function that returns, or yields; what lay lies -/
def stepV (P : Program) (ops : Array Oper) (i : Nat) (K : Act → World → Prop) (a : Act) (w : World) : Prop :=
  ∃ o, ops[i]? = some o ∧ Region.wanted o (yielded ops a.tmps) = true ∧ runsTo P (fun v w' => Below w.heap.size w w' ∧ K (a.put o.dst v) w') ((execOp a.eval o).run P w) w
theorem stepV_mono {i : Nat} {K K' : Act → World → Prop} {a : Act} {w : World} (h : stepV P ops i K a w) (hk : ∀ a' w', K a' w' → K' a' w') : stepV P ops i K' a w := by
  obtain ⟨o, h1, h2, h3⟩ := h
  exact ⟨o, h1, h2, runsTo_mono h3 fun v w' ⟨e2, e3⟩ => ⟨e2, hk _ _ e3⟩⟩
/-- the head in whatever order; ahead of each of its operations the world may have grown -/
def anyHeadW (P : Program) (md : Region.Mode) (ops : Array Oper) (n m : Nat) (L : Array Bool → Act → World → Prop) : Nat → Array Bool → Act → World → Prop
  | 0, listed, a, w => ∀ w', Below w.heap.size w w' → L listed a w'
  | k + 1, listed, a, w => (∃ i ∈ Region.ready md ops listed, i < n) ∧ ∀ w', Below w.heap.size w w' → ∀ i ∈ Region.ready md ops listed, (n ≤ i ∧ i < n + m) ∨ i < n ∧
      ((∃ oi v, ops[i]? = some oi ∧ YieldsIn P ops (upC w') oi v a ∧ anyHeadW P md ops n m L k (listed.setIfInBounds i true) (a.put oi.dst v) w') ∨ stepV P ops i (anyHeadW P md ops n m L k (listed.setIfInBounds i true)) a w')
theorem anyHeadW.up {n m k : Nat} {L : Array Bool → Act → World → Prop} {listed : Array Bool} {a : Act} {w w' : World} (h : anyHeadW P md ops n m L k listed a w) (hb : Below w.heap.size w w') : anyHeadW P md ops n m L k listed a w' := by
  cases k with
  | zero => exact fun w'' h2 => h w'' (btrans hb h2)
  | succ k => exact ⟨h.1, fun w'' h2 => h.2 w'' (btrans hb h2)⟩
theorem puts_all {n : Nat} {blk : Nat → Nat} {done : Nat → Bool} {oi : Oper} (hsi : ∀ cs b, oi.op ≠ .select cs b) (m : Nat) (hap : ∀ j, j < m → ∀ o, ops[n + j]? = some o → o.apart ops oi = true) (a : Act) :
    execOp (putsC ops n blk done m a).eval oi = execOp a.eval oi ∧ Region.wanted oi (yielded ops (putsC ops n blk done m a).tmps) = Region.wanted oi (yielded ops a.tmps) ∧ ∀ v, (putsC ops n blk done m a).put oi.dst v = putsC ops n blk done m (a.put oi.dst v) := by
  induction m with
  | zero => exact ⟨rfl, rfl, fun _ => rfl⟩
  | succ m ih =>
    obtain ⟨h1, h2, h3⟩ := ih (fun j hj => hap j (by omega))
    simp only [putsC]
    split
    · cases ho : ops[n + m]? with
      | none => exact ⟨h1, h2, h3⟩
      | some o =>
        obtain ⟨p1, p2, p3⟩ := Oper.apart_spec (hap m (by omega) o ho)
        refine ⟨(execOp_put oi hsi _ _ _ p1).trans h1, (wanted_put oi _ _ _ p1).trans h2, fun v => ?_⟩
        rw [← h3]
        exact Act.put_comm _ _ _ p2
    · exact ⟨h1, h2, h3⟩

theorem head_firstW {n m i : Nat} {oi : Oper} {v : Value} {L : Array Bool → Act → World → Prop} (hi : ops[i]? = some oi) (hsel : ∀ (j : Nat) (o : Oper) cs b, ops[j]? = some o → o.op ≠ .select cs b)
    (hs : sinkA md ops n m = true) (hc : chainA md ops n m = true) (hn : n + m < ops.size) (hin : i < n) (hdone : ∀ listed a w, L listed a w → ∀ j ∈ Region.ready md ops listed, n ≤ j) (k : Nat) :
    ∀ (listed : Array Bool) (a : Act) (w : World), HeadInv md ops n listed →
      (∀ j oj, ops[j]? = some oj → j ≠ i → listed.getD j true = false → (∀ e ∈ oj.after, Region.binds md e = true → e.on ≠ i) → oi.apart ops oj = true) →
      i ∈ Region.ready md ops listed → (∀ u0 : Up w, YieldsIn P ops (upC u0.val) oi v a) →
      anyHeadW P md ops n m L k (listed.setIfInBounds i true) (a.put oi.dst v) w → anyHeadW P md ops n m L (k + 1) listed a w := by
  have small : ∀ {listed : Array Bool}, HeadInv md ops n listed → i ∈ Region.ready md ops listed → ∀ j ∈ Region.ready md ops listed, (n ≤ j ∧ j < n + m) ∨ j < n := by
    intro listed inv hr j hj
    rcases Nat.lt_or_ge j (n + m) with h | h
    · omega
    · exact absurd hj (tail_waitsA hs hc hn (invA_of inv) _ i rfl hin (mem_ready.1 hr).1 j h)
  induction k with
  | zero =>
    intro listed a w inv _ hr hy H
    refine ⟨⟨i, hr, hin⟩, fun w' hb j hj => ?_⟩
    rcases small inv hr j hj with h | h
    · exact .inl h
    · refine .inr ⟨h, ?_⟩
      by_cases hji : j = i
      · rw [hji]; exact .inl ⟨oi, v, hi, hy (Up.of hb), H.up hb⟩
      · exact absurd h (by have := hdone _ _ _ (H w (Below.refl _ _)) j (ready_mono hj hji); omega)
  | succ k ih =>
    intro listed a w inv hfree hr hy H
    refine ⟨⟨i, hr, hin⟩, fun w' hb j hj => ?_⟩
    rcases small inv hr j hj with h | hjn
    · exact .inl h
    · refine .inr ⟨hjn, ?_⟩
      by_cases hji : j = i
      · rw [hji]; exact .inl ⟨oi, v, hi, hy (Up.of hb), H.up hb⟩
      · obtain ⟨hjun, oj, hoj, hall⟩ := mem_ready.1 hj
        have hnot : ∀ e ∈ oj.after, Region.binds md e = true → e.on ≠ i := fun e he hb heq => by
          have h1 := hall e he hb
          rw [heq, getD_both (mem_ready.1 hr).1] at h1
          cases h1
        obtain ⟨p1, p2, p3⟩ := Oper.apart_spec (hfree j oj hoj hji hjun hnot)
        have hsi := fun cs b => hsel i oi cs b hi
        have hsj := fun cs b => hsel j oj cs b hoj
        have cont : ∀ (x : Value) (w'' : World), Below w'.heap.size w' w'' → anyHeadW P md ops n m L k ((listed.setIfInBounds i true).setIfInBounds j true) ((a.put oi.dst v).put oj.dst x) w'' → anyHeadW P md ops n m L (k + 1) (listed.setIfInBounds j true) (a.put oj.dst x) w'' := by
          intro x w'' hb2 h2
          refine ih (listed.setIfInBounds j true) (a.put oj.dst x) w'' (inv.set hj hjn) ?_ (ready_mono hr (Ne.symm hji)) (fun u0 => (hy (Up.of (w' := u0.val) (btrans (btrans hb hb2) u0.ok))).of_same (execOp_put oi hsi _ _ _ p3) (wanted_put oi _ _ _ p3)) ?_
          · intro o om hm hmi hun hno
            refine hfree o om hm hmi ?_ hno
            by_cases hjm : j = o
            · rw [← hjm]; exact hjun
            · rwa [getD_set_ne true hjm] at hun
          · rw [Array.setIfInBounds_comm _ _ hji, ← Act.put_comm _ _ _ p2]
            exact h2
        rcases H.2 w' hb j (ready_mono hj hji) with h | ⟨_, ⟨oj', x, hoj', hyj, h2⟩ | ⟨oj', hoj', hwt, hC⟩⟩
        · omega
        · have : oj' = oj := Option.some.inj (hoj'.symm.trans hoj)
          subst this
          exact .inl ⟨oj', x, hoj, hyj.of_same (execOp_put oj' hsj _ _ _ p1).symm (wanted_put oj' _ _ _ p1).symm, cont x w' (Below.refl _ _) h2⟩
        · have : oj' = oj := Option.some.inj (hoj'.symm.trans hoj)
          subst this
          refine .inr ⟨oj', hoj, by rw [← wanted_put oj' a oi.dst v p1]; exact hwt, ?_⟩
          rw [← execOp_put oj' hsj a oi.dst v p1]
          exact runsTo_mono hC fun x w'' ⟨hb2, h2⟩ => ⟨hb2, cont x w'' hb2 h2⟩

/-- the chain of calls, each in a world that may have grown -/
def chainW (P : Program) (ops : Array Oper) (Lq : Act → World → Prop) : List Nat → Act → World → Prop
  | [], a, w => ∀ w', Below w.heap.size w w' → Lq a w'
  | i :: cs, a, w => ∀ w', Below w.heap.size w w' → stepV P ops i (chainW P ops Lq cs) a w'
theorem chainW.up {Lq : Act → World → Prop} {cs : List Nat} {a : Act} {w w' : World} (h : chainW P ops Lq cs a w) (hb : Below w.heap.size w w') : chainW P ops Lq cs a w' := by
  cases cs with
  | nil => exact fun w'' h2 => h w'' (btrans hb h2)
  | cons i cs => exact fun w'' h2 => h w'' (btrans hb h2)
def lexC (md : Region.Mode) (ops : Array Oper) (n m g : Nat) : List Nat → Array Bool → Bool
  | [], listed => endB md ops n m g listed
  | i :: cs, listed => (Region.ready md ops listed).contains i && decide (i < n) && (Region.ready md ops listed).all (fun j => j == i || (decide (n ≤ j) && decide (j < n + m))) && lexC md ops n m g cs (listed.setIfInBounds i true)
def lexW (md : Region.Mode) (ops : Array Oper) (n m g : Nat) (cs : List Nat) : List Nat → Array Bool → Bool
  | [], listed => lexC md ops n m g cs listed
  | i :: ps, listed => (Region.ready md ops listed).contains i && decide (i < n) && Region.free md ops listed i && lexW md ops n m g cs ps (listed.setIfInBounds i true)
theorem head_chainW {n m g : Nat} {Lq : Act → World → Prop} (cs : List Nat) : ∀ (listed : Array Bool) (a : Act) (w : World), HeadInv md ops n listed → lexC md ops n m g cs listed = true → chainW P ops Lq cs a w →
    anyHeadW P md ops n m (fun listed' a' w' => endB md ops n m g listed' = true ∧ Lq a' w') cs.length listed a w := by
  induction cs with
  | nil => exact fun listed a w inv hB h w' hb => ⟨hB, h w' hb⟩
  | cons i cs ih =>
    intro listed a w inv hB h
    simp only [lexC, Bool.and_eq_true, decide_eq_true_eq] at hB
    obtain ⟨⟨⟨hr, hin⟩, hall⟩, hB'⟩ := hB
    have hr' : i ∈ Region.ready md ops listed := by simpa using hr
    refine ⟨⟨i, hr', hin⟩, fun w' hb j hj => ?_⟩
    have h1 := List.all_eq_true.1 hall j hj
    simp only [Bool.or_eq_true, Bool.and_eq_true, beq_iff_eq, decide_eq_true_eq] at h1
    rcases h1 with rfl | h1
    · exact .inr ⟨hin, .inr (stepV_mono (h w' hb) fun a' w'' h2 => ih _ a' w'' (inv.set hr' hin) hB' h2)⟩
    · exact .inl h1
theorem head_quietW {n m g : Nat} {Lq : Act → World → Prop} (hsel : Region.noSelect ops = true) (hs : sinkA md ops n m = true) (hc : chainA md ops n m = true) (hn : n + m < ops.size) (cs ps : List Nat) :
    ∀ (listed : Array Bool) (a : Act) (w : World), HeadInv md ops n listed → lexW md ops n m g cs ps listed = true →
    (∀ u0 : Up w, wpQuiet P ops (upC u0.val) (fun a' => chainW P ops Lq cs a' w) (ps.filterMap fun i => ops[i]?) a) →
    anyHeadW P md ops n m (fun listed' a' w' => endB md ops n m g listed' = true ∧ Lq a' w') (cs.length + ps.length) listed a w := by
  induction ps with
  | nil => exact fun listed a w inv hB h => head_chainW cs listed a w inv hB (h (Up.of (Below.refl _ _)))
  | cons i ps ih =>
    intro listed a w inv hB h
    simp only [lexW, Bool.and_eq_true, decide_eq_true_eq] at hB
    obtain ⟨⟨⟨hr, hin⟩, hf⟩, hB'⟩ := hB
    have hr' : i ∈ Region.ready md ops listed := by simpa using hr
    obtain ⟨_, oi, hoi, _⟩ := mem_ready.1 hr'
    have h2 : ∀ u0 : Up w, ∃ v, YieldsIn P ops (upC u0.val) oi v a ∧ wpQuiet P ops (upC u0.val) (fun a' => chainW P ops Lq cs a' w) (ps.filterMap fun i => ops[i]?) (a.put oi.dst v) := fun u0 => by
      have h3 := h u0
      rw [List.filterMap_cons_some hoi] at h3
      exact yieldsIn_of_qOp (i := i) hoi (by unfold qOp; simp only [hoi]; exact h3)
    obtain ⟨v, hy, _⟩ := h2 (Up.of (Below.refl _ _))
    have same : ∀ u0 : Up w, YieldsIn P ops (upC u0.val) oi v a ∧ wpQuiet P ops (upC u0.val) (fun a' => chainW P ops Lq cs a' w) (ps.filterMap fun i => ops[i]?) (a.put oi.dst v) := fun u0 => by
      obtain ⟨v', hy', h'⟩ := h2 u0
      have : v = v' := yields_same hy hy' ⟨u0.val, ⟨Up.of (w' := u0.val) u0.ok, rfl⟩, ⟨Up.of (w' := u0.val) (Below.refl _ _), rfl⟩⟩
      subst this
      exact ⟨hy', h'⟩
    refine head_firstW hoi (Region.noSelect_spec hsel) hs hc hn hin (fun listed' a' w' hL j hj => ?_) (cs.length + ps.length) listed a w inv (Region.free_spec hoi hf) hr' (fun u0 => (same u0).1) (ih _ _ w (inv.set hr' hin) hB' fun u0 => (same u0).2)
    have h1 := hL.1
    simp only [endB, Bool.and_eq_true] at h1
    simpa using List.all_eq_true.1 h1.1 j hj

theorem any_of_allocW {n m g : Nat} {w0 : World} {objs : Nat → Obj} {Lq : Act → World → Prop} {Q' : Exit → Act → World → Prop} (hsel : ∀ (j : Nat) (o : Oper) cs b, ops[j]? = some o → o.op ≠ .select cs b)
    (hs : sinkA md ops n m = true) (hc : chainA md ops n m = true) (hf : freeA md ops n m = true) (hn : n + m < ops.size) (hal : allocOk P objs ops n m)
    (hL : ∀ listed0 a0 blk w', endB md ops n m g listed0 = true → Lq a0 w' → (∃ u : Up w0, w' = u.val) → BlkAt w0 w' n m objs blk (fun _ => true) → wpAny P md ops Q' g (markAll n m listed0) (putsC ops n blk (fun _ => true) m a0) w') (t : Nat) :
    ∀ (k : Nat) (listed0 listed : Array Bool) (a0 : Act) (blk : Nat → Nat) (w' : World), k + cntC n (fun j => listed.getD j false) m = t → HeadInv md ops n listed0 →
      listed.size = ops.size → (∀ j, ¬ (n ≤ j ∧ j < n + m) → listed[j]? = listed0[j]?) → (∃ u : Up w0, w' = u.val) → BlkAt w0 w' n m objs blk (fun j => listed.getD j false) →
      anyHeadW P md ops n m (fun listed' a' w' => endB md ops n m g listed' = true ∧ Lq a' w') k listed0 a0 w' →
      wpAny P md ops Q' (t + g) listed (putsC ops n blk (fun j => listed.getD j false) m a0) w' := by
  have free : ∀ j, j < m → (∀ i, i < n → Region.waitsFor md ops i (n + j) = false) ∧ Region.waitsFor md ops (n + m) (n + j) = true ∧ ∃ o, ops[n + j]? = some o ∧ (∀ e ∈ o.after, Region.binds md e = false) ∧ o.guard = none ∧
      (∀ i oi, i < n → ops[i]? = some oi → o.apart ops oi = true) ∧ ∀ i oi, i < m → i ≠ j → ops[n + i]? = some oi → o.apart ops oi = true := by
    intro j hj
    have h1 := List.all_eq_true.1 hf j (List.mem_range.2 hj)
    simp only [Bool.and_eq_true] at h1
    obtain ⟨⟨h2, h3⟩, h4⟩ := h1
    refine ⟨fun i hi => by simpa using List.all_eq_true.1 h2 i (List.mem_range.2 hi), h3, ?_⟩
    cases ho : ops[n + j]? with
    | none => rw [ho] at h4; cases h4
    | some o =>
      rw [ho] at h4
      simp only [Bool.and_eq_true] at h4
      obtain ⟨⟨⟨h5, h6⟩, h7⟩, h8⟩ := h4
      refine ⟨o, rfl, fun e he => by simpa using Array.all_eq_true_iff_forall_mem.1 h5 e he, by simpa using h6, fun i oi hi hoi => ?_, fun i oi hi hij hoi => ?_⟩
      · have := List.all_eq_true.1 h7 i (List.mem_range.2 hi)
        simpa [hoi] using this
      · have := List.all_eq_true.1 h8 i (List.mem_range.2 hi)
        simpa [hoi, hij] using this
  induction t with
  | zero =>
    intro k listed0 listed a0 blk w' hk inv hsz hR hw hB H
    have hk0 : k = 0 := by omega
    have hc0 : cntC n (fun j => listed.getD j false) m = 0 := by omega
    subst hk0
    obtain ⟨hE, hq⟩ := H w' (Below.refl _ _)
    have hd := cntC_zero m hc0
    have hlm : listed = markAll n m listed0 := by
      apply Array.ext_getElem?
      intro j
      rw [markAll_get m (by rw [inv.size]; omega)]
      by_cases h : n ≤ j ∧ j < n + m
      · rw [if_pos h]
        have h1 := hd (j - n) (by omega)
        rw [show n + (j - n) = j by omega] at h1
        have hlt : j < listed.size := by rw [hsz]; omega
        simpa [hlt] using h1
      · rw [if_neg h]; exact hR j h
    rw [Nat.zero_add, putsC_congr (blk := blk) (done := fun _ => true) m a0 (fun j hj => ⟨hd j hj, rfl⟩)]
    subst hlm
    exact hL listed0 a0 blk w' hE hq hw ⟨fun j hj _ => hB.1 j hj (hd j hj), fun j j' hj hj' _ _ => hB.2 j j' hj hj' (hd j hj) (hd j' hj')⟩
  | succ t ih =>
    intro k listed0 listed a0 blk w' hk inv hsz hR hw hB H
    have hget : ∀ j d, ¬ (n ≤ j ∧ j < n + m) → listed.getD j d = listed0.getD j d := fun j d h => by
      simp only [Array.getD_eq_getD_getElem?]
      rw [hR j h]
    have inv' : InvA md ops n m listed := ⟨hsz, fun j oj hj hoj hl e he hb => by
        rw [hget j false (by omega)] at hl
        have h1 := inv.closed j oj hoj hl e he hb
        by_cases h : n ≤ e.on ∧ e.on < n + m
        · have := (free (e.on - n) (by omega)).1 j hj
          rw [show n + (e.on - n) = e.on by omega] at this
          unfold Region.waitsFor at this
          simp only [hoj] at this
          have h2 : (oj.after.any fun e' => Region.binds md e' && e'.on == e.on) = true := Array.any_eq_true'.2 ⟨e, he, by simp [hb]⟩
          rw [h2] at this
          cases this
        · rw [hget _ _ h]; exact h1, fun t ht ht' => by rw [hget t true (by omega)]; exact inv.tail t (by omega) ht'⟩
    have up : ∀ i, i < n → i ∈ Region.ready md ops listed0 → i ∈ Region.ready md ops listed := by
      intro i hi hr
      obtain ⟨hun, oi, hoi, hall⟩ := mem_ready.1 hr
      refine mem_ready.2 ⟨by rw [hget i true (by omega)]; exact hun, oi, hoi, fun e he hb => ?_⟩
      by_cases h : n ≤ e.on ∧ e.on < n + m
      · have := (free (e.on - n) (by omega)).1 i hi
        rw [show n + (e.on - n) = e.on by omega] at this
        unfold Region.waitsFor at this
        simp only [hoi] at this
        have h2 : (oi.after.any fun e' => Region.binds md e' && e'.on == e.on) = true := Array.any_eq_true'.2 ⟨e, he, by simp [hb]⟩
        rw [h2] at this
        cases this
      · rw [hget _ _ h]; exact hall e he hb
    have down : ∀ i, i < n → i ∈ Region.ready md ops listed → i ∈ Region.ready md ops listed0 := by
      intro i hi hr
      obtain ⟨hun, oi, hoi, hall⟩ := mem_ready.1 hr
      refine mem_ready.2 ⟨by rw [← hget i true (by omega)]; exact hun, oi, hoi, fun e he hb => ?_⟩
      by_cases h : n ≤ e.on ∧ e.on < n + m
      · have := (free (e.on - n) (by omega)).1 i hi
        rw [show n + (e.on - n) = e.on by omega] at this
        unfold Region.waitsFor at this
        simp only [hoi] at this
        have h2 : (oi.after.any fun e' => Region.binds md e' && e'.on == e.on) = true := Array.any_eq_true'.2 ⟨e, he, by simp [hb]⟩
        rw [h2] at this
        cases this
      · rw [← hget _ _ h]; exact hall e he hb
    have undone : k = 0 → ∃ j, j < m ∧ listed.getD (n + j) false = false := fun hk0 => cntC_pos (done := fun j => listed.getD j false) m (by omega)
    have hready : Region.ready md ops listed ≠ [] := by
      cases k with
      | zero =>
        obtain ⟨j, hj, hd⟩ := undone rfl
        obtain ⟨_, _, o, ho, hb, _⟩ := free j hj
        have : n + j ∈ Region.ready md ops listed := mem_ready.2 ⟨getD_in (by rw [hsz]; omega) hd, o, ho, fun e he hb' => by rw [hb e he] at hb'; cases hb'⟩
        intro h; rw [h] at this; cases this
      | succ k =>
        obtain ⟨i, hi, hin⟩ := H.1
        have := up i hin hi
        intro h; rw [h] at this; cases this
    rw [Nat.add_right_comm]
    refine ⟨fun h => absurd h hready, fun i hi => ?_⟩
    rcases Nat.lt_or_ge i n with hin | hin
    · -- a head operation
      cases k with
      | zero =>
        have h1 := (H w' (Below.refl _ _)).1
        simp only [endB, Bool.and_eq_true] at h1
        have := List.all_eq_true.1 h1.1 i (down i hin hi)
        simp at this
        omega
      | succ k =>
        obtain ⟨_, oi, hoi, _⟩ := mem_ready.1 hi
        have hri := down i hin hi
        have hap : ∀ j, j < m → ∀ o, ops[n + j]? = some o → o.apart ops oi = true := fun j hj o ho => by
          obtain ⟨_, _, o', ho', _, _, h3, _⟩ := free j hj
          have : o = o' := Option.some.inj (ho.symm.trans ho')
          subst this
          exact h3 i oi hin hoi
        have hset : ∀ j, n ≤ j → (listed.setIfInBounds i true).getD j false = listed.getD j false := fun j hj => getD_set_ne false (by omega)
        obtain ⟨u, rfl⟩ := hw
        have step : ∀ (v : Value) (w'' : World), Below u.val.heap.size u.val w'' → anyHeadW P md ops n m (fun listed' a' w' => endB md ops n m g listed' = true ∧ Lq a' w') k (listed0.setIfInBounds i true) (a0.put oi.dst v) w'' →
            wpAny P md ops Q' (t + g) (listed.setIfInBounds i true) (putsC ops n blk (fun j => listed.getD j false) m (a0.put oi.dst v)) w'' := by
          intro v w'' hb2 h2
          have := ih k (listed0.setIfInBounds i true) (listed.setIfInBounds i true) (a0.put oi.dst v) blk w'' (by
            rw [cntC_congr (done := fun j => listed.getD j false) m (fun j hj => hset (n + j) (by omega))]; omega) (inv.set hri hin) (by simpa using hsz) (fun j hj => by
            by_cases hij : i = j
            · subst hij
              rw [Array.getElem?_setIfInBounds_self_of_lt (by rw [hsz]; omega), Array.getElem?_setIfInBounds_self_of_lt (by rw [inv.size]; omega)]
            · rw [Array.getElem?_setIfInBounds_ne hij, Array.getElem?_setIfInBounds_ne hij]; exact hR j hj)
            ⟨Up.of (w' := w'') (btrans u.ok hb2), rfl⟩ (by
              have := hB.keep hb2
              exact ⟨fun j hj hd => this.1 j hj ((hset (n + j) (by omega)).symm.trans hd), fun j j' hj hj' hd hd' => this.2 j j' hj hj' ((hset (n + j) (by omega)).symm.trans hd) ((hset (n + j') (by omega)).symm.trans hd')⟩) h2
          rwa [putsC_congr (blk := blk) (done := fun j => listed.getD j false) m _ (fun j hj => ⟨hset (n + j) (by omega), rfl⟩)] at this
        rcases H.2 u.val (Below.refl _ _) i hri with h | ⟨_, ⟨oj, v, hoj, hy, h2⟩ | hst⟩
        · omega
        · have : oj = oi := Option.some.inj (hoj.symm.trans hoi)
          subst this
          obtain ⟨hy2, hp⟩ := puts_yields (n := n) (blk := blk) (done := fun j => listed.getD j false) (fun cs b => hsel i oj cs b hoi) m hap hy
          have hq : qOp P ops (upC u.val) i (fun a' => a' = putsC ops n blk (fun j => listed.getD j false) m (a0.put oj.dst v)) (putsC ops n blk (fun j => listed.getD j false) m a0) := hy2.qOp hoi hp
          refine wpOp_of_qOp (C := upC u.val) ⟨Up.of (w' := u.val) (Below.refl _ _), rfl⟩ (fun a' w'' hw' ha' => ?_) hq
          subst ha'
          obtain ⟨u', rfl⟩ := hw'
          exact step v u'.val u'.ok (h2.up u'.ok)
        · obtain ⟨oj, hoj, hwt, hC⟩ := hst
          have : oj = oi := Option.some.inj (hoj.symm.trans hoi)
          subst this
          obtain ⟨p1, p2, p3⟩ := puts_all (n := n) (blk := blk) (done := fun j => listed.getD j false) (fun cs b => hsel i oj cs b hoi) m hap a0
          unfold wpOp
          simp only [hoi]
          rw [if_pos (by rw [p2]; exact hwt)]
          left
          unfold Oper.wp
          rw [p1]
          rcases hC with ⟨f, args, hr, hC⟩ | ⟨v, w'', hr, hb2, h2⟩
          · rw [hr, Oper.upon_enter]
            refine hC.mono ?_
            rintro e w'' ⟨v, rfl, hb2, h2⟩
            show wpAny _ _ _ _ _ _ ((putsC ops n blk (fun j => listed.getD j false) m a0).put oj.dst v) w''
            rw [p3]
            exact step v w'' hb2 h2
          · rw [hr]
            show wpAny _ _ _ _ _ _ ((putsC ops n blk (fun j => listed.getD j false) m a0).put oj.dst v) w''
            rw [p3]
            exact step v w'' hb2 h2
    · rcases Nat.lt_or_ge i (n + m) with him | him
      · -- an alloc
        obtain ⟨j, rfl⟩ : ∃ j, i = n + j := ⟨i - n, by omega⟩
        have hj : j < m := by omega
        obtain ⟨_, _, o, ho, _, hg, _, _⟩ := free j hj
        have hdf : listed.getD (n + j) false = false := getD_both (mem_ready.1 hi).1
        have hlt : n + j < listed.size := by rw [hsz]; omega
        have hdt : (listed.setIfInBounds (n + j) true).getD (n + j) false = true := by simp [hlt]
        have hset : ∀ i, i ≠ j → (listed.setIfInBounds (n + j) true).getD (n + i) false = listed.getD (n + i) false := fun i hij => getD_set_ne false (by omega)
        unfold wpOp
        simp only [ho]
        rw [if_pos (by unfold Region.wanted; rw [hg])]
        left
        unfold Oper.wp
        rw [hal j hj o ho]
        simp only [Oper.upon]
        obtain ⟨u, rfl⟩ := hw
        have hb1 : Below u.val.heap.size u.val (u.val.alloc (objs j)) := balloc (Below.refl _ _) _
        have hsize : (u.val.alloc (objs j)).heap.size = u.val.heap.size + 1 := by show (u.val.heap.push _).size = _; simp
        have := ih k listed0 (listed.setIfInBounds (n + j) true) a0 (fun i => if i = n + j then u.val.heap.size else blk i) (u.val.alloc (objs j)) (by
            have := cntC_add (n := n) (i := j) (done := fun j => listed.getD j false) (done' := fun i => (listed.setIfInBounds (n + j) true).getD i false) m hdf hdt hset hj
            omega) inv (by simpa using hsz) (fun i' hi' => by
            rw [Array.getElem?_setIfInBounds_ne (by omega)]; exact hR i' hi') ⟨Up.of (w' := u.val.alloc (objs j)) (btrans u.ok hb1), rfl⟩ (by
              have hk := hB.keep hb1
              refine ⟨fun i HX hd => ?_, fun i i' HX HX' hd hd' hne => ?_⟩
              · by_cases hij : i = j
                · subst hij
                  simp only [if_true]
                  refine ⟨u.ok.size, by omega, ?_⟩
                  show (u.val.heap.push _)[u.val.heap.size]? = _
                  simp
                · simp only [show (n + i = n + j) = False by simp [hij], if_false]
                  exact hk.1 i HX ((hset i hij).symm.trans hd)
              · by_cases hij : i = j
                · subst hij
                  have hij' : i' ≠ i := fun h => hne h.symm
                  simp only [if_true, show (n + i' = n + i) = False by simp [hij'], if_false]
                  have := (hB.1 i' HX' ((hset i' hij').symm.trans hd')).2.1
                  omega
                · by_cases hij' : i' = j
                  · subst hij'
                    simp only [if_true, show (n + i = n + i') = False by simp [hij], if_false]
                    have := (hB.1 i HX ((hset i hij).symm.trans hd)).2.1
                    omega
                  · simp only [show (n + i = n + j) = False by simp [hij], show (n + i' = n + j) = False by simp [hij'], if_false]
                    exact hB.2 i i' HX HX' ((hset i hij).symm.trans hd) ((hset i' hij').symm.trans hd') hne) (H.up hb1)
        rw [putsC_add (M := m) (i := j) (B := u.val.heap.size) (blk := blk) (done := fun j => listed.getD j false) (fun x x' hx hx' hxx y y' hy hy' => by
            obtain ⟨_, _, z, hz, _, _, _, h4⟩ := free x hx
            have : y = z := Option.some.inj (hy.symm.trans hz)
            subst this
            exact h4 x' y' hx' (Ne.symm hxx) hy') a0 hdf hdt (by simp) (fun i hij => ⟨hset i hij, by simp [hij]⟩) hj (Nat.le_refl _)] at this
        simpa [ho] using this
      · -- none of the last ones is ready
        exfalso
        cases k with
        | succ k =>
          obtain ⟨i0, hi0, hi0n⟩ := H.1
          exact tail_waitsA hs hc hn inv' _ i0 rfl hi0n (mem_ready.1 (up i0 hi0n hi0)).1 i him hi
        | zero =>
          obtain ⟨j, hj, hd⟩ := undone rfl
          obtain ⟨_, oi, hoi, hall⟩ := mem_ready.1 hi
          have hilt : i < ops.size := (Array.getElem?_eq_some_iff.1 hoi).1
          by_cases hiN : i = n + m
          · subst hiN
            obtain ⟨o', ho', e, he, hb, hon⟩ := Region.waitsFor_spec (free j hj).2.1
            have : o' = oi := Option.some.inj (ho'.symm.trans hoi)
            subst this
            have h2 := hall e he hb
            rw [hon, hd] at h2
            cases h2
          · have h1 := List.all_eq_true.1 hc i (List.mem_range.2 hilt)
            simp only [Bool.or_eq_true, decide_eq_true_eq] at h1
            rcases h1 with h1 | h1
            · omega
            · obtain ⟨o', ho', e, he, hb, hon⟩ := Region.waitsFor_spec h1
              have : o' = oi := Option.some.inj (ho'.symm.trans hoi)
              subst this
              have h2 := hall e he hb
              rw [hon, getD_both (inv'.tail (i - 1) (by omega) (by omega))] at h2
              cases h2
end

theorem any_of_seq_chain {P : Program} {ops : Array Oper} {md : Region.Mode} {Q' : Exit → Act → World → Prop} (l : List Oper) : ∀ (k : Nat) (listed : Array Bool) (a : Act) (w : World), (∀ j, l[j]? = ops[k + j]?) →
    Region.seqB md ops l.length k listed = true → wpList P ops Q' l a w → wpAny P md ops Q' l.length listed a w := by
  induction l with
  | nil => exact fun k listed a w hl hB h => ⟨by simpa [Region.seqB] using hB, h⟩
  | cons o l ih =>
    intro k listed a w hl hB h
    have h0 : ops[k]? = some o := by simpa using (hl 0).symm
    simp only [List.length_cons, Region.seqB, Bool.and_eq_true, decide_eq_true_eq] at hB
    refine ⟨fun h1 => (by rw [hB.1] at h1; cases h1), fun i hi => ?_⟩
    rw [hB.1] at hi
    have hik : i = k := by simpa using hi
    subst hik
    have hw : wpOp P ops Q' i (wpList P ops Q' l) a w := by unfold wpOp; simp only [h0]; exact h
    exact wpOp_mono (fun a' w' h' => ih (i + 1) _ a' w' (fun j => by have := hl (j + 1); simpa [Nat.add_assoc, Nat.add_comm 1 j] using this) hB.2 h') hw

/-- the Bool over a region: n operations of the head (ps: quiet, in an order in which they may be taken first; cs: the chain), m allocs, the forced end -/
def chainB (ops : Array Oper) (n m : Nat) (ps cs : List Nat) : Bool :=
  decide (n + m < ops.size) && decide (cs.length + ps.length = n) && Region.noSelect ops && sinkA .any ops n m && chainA .any ops n m && freeA .any ops n m && lexW .any ops n m (ops.size - (n + m)) cs ps (Array.replicate ops.size false)

theorem wp_region_chain {P : Program} {id : Nat} {Q : Exit → Act → World → Prop} {a : Act} {w : World} {l : List Oper} (n m : Nat) (ps cs : List Nat) (objs : Nat → Obj) (hm : P.follows .mixedOrders = true) (hB : chainB l.toArray n m ps cs = true)
    (hal : allocOk P objs l.toArray n m)
    (h : ∀ u0 : Up w, wpQuiet P l.toArray (upC u0.val) (fun a' => chainW P l.toArray (fun a'' w' => ∀ blk, BlkAt w w' n m objs blk (fun _ => true) → wpList P l.toArray Q (l.drop (n + m)) (putsC l.toArray n blk (fun _ => true) m a'') w') cs a' w) (ps.filterMap fun i => l.toArray[i]?) a) : (Code.region id l.toArray true).wp P Q a w := by
  simp only [chainB, Bool.and_eq_true, decide_eq_true_eq] at hB
  obtain ⟨⟨⟨⟨⟨⟨hn, hlen⟩, hsel⟩, hs⟩, hc⟩, hf⟩, hlex⟩ := hB
  have hdl : (l.drop (n + m)).length = l.toArray.size - (n + m) := by simp
  have inv0 : HeadInv .any l.toArray n (Array.replicate l.toArray.size false) :=
    ⟨by simp, fun j oj _ hl => (by rw [getD_replicate_false] at hl; cases hl), fun t _ ht => getD_in (by simpa using ht) (getD_replicate_false _ _)⟩
  refine wp_region_any hm ?_
  have H := head_quietW (P := P) (Lq := fun a'' w' => ∀ blk, BlkAt w w' n m objs blk (fun _ => true) → wpList P l.toArray Q (l.drop (n + m)) (putsC l.toArray n blk (fun _ => true) m a'') w') hsel hs hc hn cs ps _ a w inv0 hlex h
  have T := any_of_allocW (P := P) (ops := l.toArray) (md := .any) (n := n) (m := m) (g := l.toArray.size - (n + m)) (w0 := w) (objs := objs) (Q' := Q)
    (Lq := fun a'' w' => ∀ blk, BlkAt w w' n m objs blk (fun _ => true) → wpList P l.toArray Q (l.drop (n + m)) (putsC l.toArray n blk (fun _ => true) m a'') w')
    (Region.noSelect_spec hsel) hs hc hf hn hal
    (fun listed0 a0 blk w' hE hq hw hb => by
      have h1 := hq blk hb
      simp only [endB, Bool.and_eq_true] at hE
      have := any_of_seq_chain (P := P) (md := .any) (Q' := Q) (l.drop (n + m)) (n + m) (markAll n m listed0) _ w' (fun j => by simp [List.getElem?_drop]) (by rw [hdl]; exact hE.2) h1
      rwa [hdl] at this)
    (cs.length + ps.length + m) (cs.length + ps.length) _ (Array.replicate l.toArray.size false) a (fun _ => 0) w.drew (by
      rw [cntC_none m (fun j _ => getD_replicate_false _ _)]) inv0 (by simp) (fun j _ => rfl) ⟨Up.of (w' := w.drew) (Below.drew (Below.refl _ _)), rfl⟩ ⟨fun j _ hd => absurd ((getD_replicate_false _ _).symm.trans hd) Bool.false_ne_true, fun j _ _ _ hd => absurd ((getD_replicate_false _ _).symm.trans hd) Bool.false_ne_true⟩
    (H.up (Below.drew (Below.refl _ _)))
  rw [putsC_none m a (fun j _ => getD_replicate_false _ _), hlen, show n + m + (l.toArray.size - (n + m)) = l.toArray.size by omega] at T
  exact T

theorem chainW_mono {P : Program} {ops : Array Oper} {Lq Lq' : Act → World → Prop} (hq : ∀ a w, Lq a w → Lq' a w) (cs : List Nat) : ∀ (a : Act) (w : World), chainW P ops Lq cs a w → chainW P ops Lq' cs a w := by
  induction cs with
  | nil => exact fun a w h w' hb => hq _ _ (h w' hb)
  | cons i cs ih => exact fun a w h w' hb => stepV_mono (h w' hb) ih
/-- four allocs -/
theorem wp_region_chain4 {P : Program} {id : Nat} {Q : Exit → Act → World → Prop} {a : Act} {w : World} {l : List Oper} (n : Nat) (ps cs : List Nat) (b0 b1 b2 b3 : Obj) (o0 o1 o2 o3 : Oper) (hm : P.follows .mixedOrders = true) (hB : chainB l.toArray n 4 ps cs = true)
    (h0 : l.toArray[n]? = some o0) (h1 : l.toArray[n + 1]? = some o1) (h2 : l.toArray[n + 2]? = some o2) (h3 : l.toArray[n + 3]? = some o3)
    (a0 : ∀ ρ w, (execOp ρ o0).run P w = .ok (.value (.pointer (some ⟨w.heap.size, 0, none⟩))) (w.alloc b0)) (a1 : ∀ ρ w, (execOp ρ o1).run P w = .ok (.value (.pointer (some ⟨w.heap.size, 0, none⟩))) (w.alloc b1))
    (a2 : ∀ ρ w, (execOp ρ o2).run P w = .ok (.value (.pointer (some ⟨w.heap.size, 0, none⟩))) (w.alloc b2)) (a3 : ∀ ρ w, (execOp ρ o3).run P w = .ok (.value (.pointer (some ⟨w.heap.size, 0, none⟩))) (w.alloc b3))
    (h : ∀ u0 : Up w, wpQuiet P l.toArray (upC u0.val) (fun a' => chainW P l.toArray (fun a'' w' => ∀ p0 p1 p2 p3, (w.heap.size ≤ p0 ∧ p0 < w'.heap.size ∧ w'.heap[p0]? = some b0) → (w.heap.size ≤ p1 ∧ p1 < w'.heap.size ∧ w'.heap[p1]? = some b1) →
      (w.heap.size ≤ p2 ∧ p2 < w'.heap.size ∧ w'.heap[p2]? = some b2) → (w.heap.size ≤ p3 ∧ p3 < w'.heap.size ∧ w'.heap[p3]? = some b3) → (p0 ≠ p1 ∧ p0 ≠ p2 ∧ p0 ≠ p3) ∧ (p1 ≠ p2 ∧ p1 ≠ p3) ∧ p2 ≠ p3 →
      wpList P l.toArray Q (l.drop (n + 4)) ((((a''.put o0.dst (.pointer (some ⟨p0, 0, none⟩))).put o1.dst (.pointer (some ⟨p1, 0, none⟩))).put o2.dst (.pointer (some ⟨p2, 0, none⟩))).put o3.dst (.pointer (some ⟨p3, 0, none⟩))) w') cs a' w) (ps.filterMap fun i => l.toArray[i]?) a) : (Code.region id l.toArray true).wp P Q a w := by
  refine wp_region_chain n 4 ps cs (fun j => if j = 0 then b0 else if j = 1 then b1 else if j = 2 then b2 else b3) hm hB (fun j hj x hx ρ w => ?_) (fun u0 => quiet_end (fun a' hq => chainW_mono (fun a'' w' hL blk hb => ?_) cs a' w hq) _ _ (h u0))
  · rcases (show j = 0 ∨ j = 1 ∨ j = 2 ∨ j = 3 by omega) with rfl | rfl | rfl | rfl
    · obtain rfl := Option.some.inj (hx.symm.trans h0); exact a0 ρ w
    · obtain rfl := Option.some.inj (hx.symm.trans h1); exact a1 ρ w
    · obtain rfl := Option.some.inj (hx.symm.trans h2); exact a2 ρ w
    · obtain rfl := Option.some.inj (hx.symm.trans h3); exact a3 ρ w
  · have k0 := hb.1 0 (by omega) rfl
    have k1 := hb.1 1 (by omega) rfl
    have k2 := hb.1 2 (by omega) rfl
    have k3 := hb.1 3 (by omega) rfl
    have ne := fun (i j : Nat) (hi : i < 4) (hj : j < 4) (hij : i ≠ j) => hb.2 i j hi hj rfl rfl hij
    have := hL _ _ _ _ k0 k1 k2 k3 ⟨⟨ne 0 1 (by omega) (by omega) (by omega), ne 0 2 (by omega) (by omega) (by omega), ne 0 3 (by omega) (by omega) (by omega)⟩, ⟨ne 1 2 (by omega) (by omega) (by omega), ne 1 3 (by omega) (by omega) (by omega)⟩, ne 2 3 (by omega) (by omega) (by omega)⟩
    simpa [putsC, h0, h1, h2, h3] using this
theorem stepV_of {P : Program} {ops : Array Oper} {i : Nat} {K : Act → World → Prop} {a : Act} {w : World} (o : Oper) (f : FuncId) (args : Array Value) (ho : ops[i]? = some o) (hw : Region.wanted o (yielded ops a.tmps) = true) (hr : (execOp a.eval o).run P w = .ok (.enter f args) w)
    (h : Calls P f args w fun e w' => ∃ v, e = .returned v ∧ Below w.heap.size w w' ∧ K (a.put o.dst v) w') : stepV P ops i K a w := ⟨o, ho, hw, .inl ⟨f, args, hr, h⟩⟩
theorem stepV_val {P : Program} {ops : Array Oper} {i : Nat} {K : Act → World → Prop} {a : Act} {w : World} (o : Oper) (v : Value) (w' : World) (ho : ops[i]? = some o) (hw : Region.wanted o (yielded ops a.tmps) = true) (hr : (execOp a.eval o).run P w = .ok (.value v) w')
    (hb : Below w.heap.size w w') (h : K (a.put o.dst v) w') : stepV P ops i K a w := ⟨o, ho, hw, .inr ⟨v, w', hr, hb, h⟩⟩
/-- an array is loaded whole -/
theorem run_load_array {P : Program} {o : Oper} {a : Act} {w : World} (ty : TypeId) (x : Operand) (ho : o.op = .load ty x) (g : Nat) (hx : a.eval x = .pointer (some ⟨g, 0, none⟩)) (t : TypeId) (cs : Array Value) (fr : Nat × Nat) (d : TypeDesc) (hg : w.heap[g]? = some (.cells cs t fr))
    (hu : P.underlying ty = some d) (hd : (match d with | .struct _ | .array _ _ => true | _ => false) = true) (hi : (P.info? ty).map (·.size) = some cs.size) : (execOp a.eval o).run P w = .ok (.value (.agg cs)) w := by
  unfold execOp
  simp only [ho, hx, Instr.loadAt, Instr.sureAddr, Sem.run_bind, Sem.run_pure, Result.andThen_ok, run_loadVar_row w g t ty cs fr d hg hu hd hi]

section
variable {P : Program} {ops : Array Oper} {md : Region.Mode}

/-- a chain of calls, then quiet operations -/
def chainQ (P : Program) (ops : Array Oper) (Lq : Act → World → Prop) (qs : List Nat) : List Nat → Act → World → Prop
  | [], a, w => ∀ w', Below w.heap.size w w' → ∀ u0 : Up w', wpQuiet P ops (upC u0.val) (fun a' => chainW P ops Lq [] a' w') (qs.filterMap fun i => ops[i]?) a
  | i :: cs, a, w => ∀ w', Below w.heap.size w w' → stepV P ops i (chainQ P ops Lq qs cs) a w'
theorem chainQ.up {Lq : Act → World → Prop} {qs cs : List Nat} {a : Act} {w w' : World} (h : chainQ P ops Lq qs cs a w) (hb : Below w.heap.size w w') : chainQ P ops Lq qs cs a w' := by
  cases cs with
  | nil => exact fun w'' h2 => h w'' (btrans hb h2)
  | cons i cs => exact fun w'' h2 => h w'' (btrans hb h2)
def lexQ (md : Region.Mode) (ops : Array Oper) (n m g : Nat) (qs : List Nat) : List Nat → Array Bool → Bool
  | [], listed => lexW md ops n m g [] qs listed
  | i :: cs, listed => (Region.ready md ops listed).contains i && decide (i < n) && (Region.ready md ops listed).all (fun j => j == i || (decide (n ≤ j) && decide (j < n + m))) && lexQ md ops n m g qs cs (listed.setIfInBounds i true)
def lexP (md : Region.Mode) (ops : Array Oper) (n m g : Nat) (qs cs : List Nat) : List Nat → Array Bool → Bool
  | [], listed => lexQ md ops n m g qs cs listed
  | i :: ps, listed => (Region.ready md ops listed).contains i && decide (i < n) && Region.free md ops listed i && lexP md ops n m g qs cs ps (listed.setIfInBounds i true)
theorem head_chainQ {n m g : Nat} {Lq : Act → World → Prop} (hsel : Region.noSelect ops = true) (hs : sinkA md ops n m = true) (hc : chainA md ops n m = true) (hn : n + m < ops.size) (qs cs : List Nat) :
    ∀ (listed : Array Bool) (a : Act) (w : World), HeadInv md ops n listed → lexQ md ops n m g qs cs listed = true → chainQ P ops Lq qs cs a w →
    anyHeadW P md ops n m (fun listed' a' w' => endB md ops n m g listed' = true ∧ Lq a' w') (cs.length + qs.length) listed a w := by
  induction cs with
  | nil =>
    intro listed a w inv hB h
    have := head_quietW (P := P) (g := g) (Lq := Lq) hsel hs hc hn [] qs listed a w inv hB (fun u0 => h w (Below.refl _ _) u0)
    simpa using this
  | cons i cs ih =>
    intro listed a w inv hB h
    simp only [lexQ, Bool.and_eq_true, decide_eq_true_eq] at hB
    obtain ⟨⟨⟨hr, hin⟩, hall⟩, hB'⟩ := hB
    have hr' : i ∈ Region.ready md ops listed := by simpa using hr
    rw [show (i :: cs).length + qs.length = (cs.length + qs.length) + 1 by simp; omega]
    refine ⟨⟨i, hr', hin⟩, fun w' hb j hj => ?_⟩
    have h1 := List.all_eq_true.1 hall j hj
    simp only [Bool.or_eq_true, Bool.and_eq_true, beq_iff_eq, decide_eq_true_eq] at h1
    rcases h1 with rfl | h1
    · exact .inr ⟨hin, .inr (stepV_mono (h w' hb) fun a' w'' h2 => ih _ a' w'' (inv.set hr' hin) hB' h2)⟩
    · exact .inl h1
theorem head_quietQ {n m g : Nat} {Lq : Act → World → Prop} (hsel : Region.noSelect ops = true) (hs : sinkA md ops n m = true) (hc : chainA md ops n m = true) (hn : n + m < ops.size) (qs cs ps : List Nat) :
    ∀ (listed : Array Bool) (a : Act) (w : World), HeadInv md ops n listed → lexP md ops n m g qs cs ps listed = true →
    (∀ u0 : Up w, wpQuiet P ops (upC u0.val) (fun a' => chainQ P ops Lq qs cs a' w) (ps.filterMap fun i => ops[i]?) a) →
    anyHeadW P md ops n m (fun listed' a' w' => endB md ops n m g listed' = true ∧ Lq a' w') (cs.length + qs.length + ps.length) listed a w := by
  induction ps with
  | nil => exact fun listed a w inv hB h => head_chainQ hsel hs hc hn qs cs listed a w inv hB (h (Up.of (Below.refl _ _)))
  | cons i ps ih =>
    intro listed a w inv hB h
    simp only [lexP, Bool.and_eq_true, decide_eq_true_eq] at hB
    obtain ⟨⟨⟨hr, hin⟩, hf⟩, hB'⟩ := hB
    have hr' : i ∈ Region.ready md ops listed := by simpa using hr
    obtain ⟨_, oi, hoi, _⟩ := mem_ready.1 hr'
    have h2 : ∀ u0 : Up w, ∃ v, YieldsIn P ops (upC u0.val) oi v a ∧ wpQuiet P ops (upC u0.val) (fun a' => chainQ P ops Lq qs cs a' w) (ps.filterMap fun i => ops[i]?) (a.put oi.dst v) := fun u0 => by
      have h3 := h u0
      rw [List.filterMap_cons_some hoi] at h3
      exact yieldsIn_of_qOp (i := i) hoi (by unfold qOp; simp only [hoi]; exact h3)
    obtain ⟨v, hy, _⟩ := h2 (Up.of (Below.refl _ _))
    have same : ∀ u0 : Up w, YieldsIn P ops (upC u0.val) oi v a ∧ wpQuiet P ops (upC u0.val) (fun a' => chainQ P ops Lq qs cs a' w) (ps.filterMap fun i => ops[i]?) (a.put oi.dst v) := fun u0 => by
      obtain ⟨v', hy', h'⟩ := h2 u0
      have : v = v' := yields_same hy hy' ⟨u0.val, ⟨Up.of (w' := u0.val) u0.ok, rfl⟩, ⟨Up.of (w' := u0.val) (Below.refl _ _), rfl⟩⟩
      subst this
      exact ⟨hy', h'⟩
    refine head_firstW hoi (Region.noSelect_spec hsel) hs hc hn hin (fun listed' a' w' hL j hj => ?_) (cs.length + qs.length + ps.length) listed a w inv (Region.free_spec hoi hf) hr' (fun u0 => (same u0).1) (ih _ _ w (inv.set hr' hin) hB' fun u0 => (same u0).2)
    have h1 := hL.1
    simp only [endB, Bool.and_eq_true] at h1
    simpa using List.all_eq_true.1 h1.1 j hj

theorem stepV_late {N : Nat} {late : List Nat} {i : Nat} {K : Act → World → Prop} {a : Act} {w : World} (hi : i ≠ N) (h : stepV P ops i K a w) : stepV P (withLate ops N late) i K a w := by
  obtain ⟨o, h1, h2, h3⟩ := h
  exact ⟨o, (late_ne hi).trans h1, by rw [late_yielded]; exact h2, h3⟩
theorem filter_late {N : Nat} {late : List Nat} (l : List Nat) (h : ∀ i ∈ l, i ≠ N) : (l.filterMap fun i => (withLate ops N late)[i]?) = l.filterMap fun i => ops[i]? := by
  induction l with
  | nil => rfl
  | cons i l ih =>
    have h1 : (withLate ops N late)[i]? = ops[i]? := late_ne (h i (by simp))
    simp only [List.filterMap_cons, h1, ih (fun j hj => h j (by simp [hj]))]
theorem chainQ_late {N : Nat} {late : List Nat} {Lq : Act → World → Prop} {qs : List Nat} (hq : ∀ i ∈ qs, i ≠ N) (cs : List Nat) (hc : ∀ i ∈ cs, i ≠ N) : ∀ (a : Act) (w : World), chainQ P ops Lq qs cs a w → chainQ P (withLate ops N late) Lq qs cs a w := by
  induction cs with
  | nil =>
    intro a w h w' hb u0
    have h1 := quiet_late (N := N) (late := late) _ _ (h w' hb u0)
    rw [filter_late qs hq]
    exact quiet_end (fun a' h2 => h2) _ _ h1
  | cons i cs ih =>
    intro a w h w' hb
    exact stepV_late (hc i (by simp)) (stepV_mono (h w' hb) fun a' w'' h2 => ih (fun j hj => hc j (by simp [hj])) a' w'' h2)
theorem chainQ_mono {Lq Lq' : Act → World → Prop} {qs : List Nat} (hq : ∀ a w, Lq a w → Lq' a w) (cs : List Nat) : ∀ (a : Act) (w : World), chainQ P ops Lq qs cs a w → chainQ P ops Lq' qs cs a w := by
  induction cs with
  | nil => exact fun a w h w' hb u0 => quiet_end (fun a' h2 w'' hb2 => hq _ _ (h2 w'' hb2)) _ _ (h w' hb u0)
  | cons i cs ih => exact fun a w h w' hb => stepV_mono (h w' hb) ih
end

/-- the Bool over a region: n operations of the head (ps: quiet; cs: the chain; qs: quiet, behind it), m allocs, the forced end -/
def chainQB (ops : Array Oper) (n m : Nat) (late ps cs qs : List Nat) : Bool :=
  lateB ops (n + m) late && (decide (cs.length + qs.length + ps.length = n) && (ps ++ cs ++ qs).all (fun i => decide (i < n))) &&
  (Region.noSelect (withLate ops (n + m) late) && sinkA .any (withLate ops (n + m) late) n m && chainA .any (withLate ops (n + m) late) n m && freeA .any (withLate ops (n + m) late) n m && lexP .any (withLate ops (n + m) late) n m (ops.size - (n + m)) qs cs ps (Array.replicate ops.size false))

theorem wp_region_chainQ {P : Program} {id : Nat} {Q : Exit → Act → World → Prop} {a : Act} {w : World} {l : List Oper} (n m : Nat) (late ps cs qs : List Nat) (objs : Nat → Obj) (hm : P.follows .mixedOrders = true) (hB : chainQB l.toArray n m late ps cs qs = true)
    (hQ : ∀ d v c a w, Q (.panic c) (Act.put a d v) w → Q (.panic c) a w) (hal : allocOk P objs l.toArray n m)
    (h : ∀ u0 : Up w, wpQuiet P l.toArray (upC u0.val) (fun a' => chainQ P l.toArray (fun a'' w' => ∀ blk, BlkAt w w' n m objs blk (fun _ => true) → wpList P l.toArray Q (l.drop (n + m)) (putsC l.toArray n blk (fun _ => true) m a'') w') qs cs a' w) (ps.filterMap fun i => l.toArray[i]?) a) : (Code.region id l.toArray true).wp P Q a w := by
  simp only [chainQB, Bool.and_eq_true, decide_eq_true_eq] at hB
  obtain ⟨⟨hlate, hlen, hsmall⟩, ⟨⟨⟨hsel, hs⟩, hc⟩, hf⟩, hlex⟩ := hB
  have hsm : ∀ i, (i ∈ ps ∨ i ∈ cs) ∨ i ∈ qs → i ≠ n + m := fun i hi => by
    have := List.all_eq_true.1 hsmall i (by simp only [List.mem_append]; exact hi)
    simp only [decide_eq_true_eq] at this
    omega
  have hn : n + m < l.toArray.size := by
    have := hlate
    simp only [lateB, Bool.and_eq_true, decide_eq_true_eq] at this
    exact this.1.2
  have hn' : n + m < l.length := by simpa using hn
  have hdl : (l.drop (n + m)).length = l.toArray.size - (n + m) := by simp
  have inv0 : HeadInv .any (withLate l.toArray (n + m) late) n (Array.replicate l.toArray.size false) :=
    ⟨by simp [late_size], fun j oj _ hl => (by rw [getD_replicate_false] at hl; cases hl), fun t _ ht => getD_in (by simpa [late_size] using ht) (getD_replicate_false _ _)⟩
  refine wp_region_any hm (any_late hQ hlate _ _ _ _ (by simp) ?_)
  have H := head_quietQ (P := P) (Lq := fun a'' w' => ∀ blk, BlkAt w w' n m objs blk (fun _ => true) → wpList P l.toArray Q (l.drop (n + m)) (putsC l.toArray n blk (fun _ => true) m a'') w') hsel hs hc (by rw [late_size]; exact hn) qs cs ps _ a w inv0 hlex
    (fun u0 => by
      have h1 := quiet_late (N := n + m) (late := late) _ _ (h u0)
      rw [filter_late ps (fun i hi => hsm i (.inl (.inl hi)))]
      exact quiet_end (fun a' h2 => chainQ_late (fun i hi => hsm i (.inr hi)) cs (fun i hi => hsm i (.inl (.inr hi))) a' w h2) _ _ h1)
  have T := any_of_allocW (P := P) (ops := withLate l.toArray (n + m) late) (md := .any) (n := n) (m := m) (g := l.toArray.size - (n + m)) (w0 := w) (objs := objs) (Q' := Q)
    (Lq := fun a'' w' => ∀ blk, BlkAt w w' n m objs blk (fun _ => true) → wpList P l.toArray Q (l.drop (n + m)) (putsC l.toArray n blk (fun _ => true) m a'') w')
    (Region.noSelect_spec hsel) hs hc hf (by rw [late_size]; exact hn) (fun j hj o ho => by
      rw [late_ne (by omega)] at ho
      exact hal j hj o ho)
    (fun listed0 a0 blk w' hE hq hw hb => by
      have h1 := hq blk hb
      have e : putsC (withLate l.toArray (n + m) late) n blk (fun _ => true) m a0 = putsC l.toArray n blk (fun _ => true) m a0 := by
        have : ∀ k, k ≤ m → putsC (withLate l.toArray (n + m) late) n blk (fun _ => true) k a0 = putsC l.toArray n blk (fun _ => true) k a0 := by
          intro k
          induction k with
          | zero => exact fun _ => rfl
          | succ k ih =>
            intro hk
            simp only [putsC]
            rw [ih (by omega), late_ne (by omega)]
        exact this m (Nat.le_refl _)
      rw [e]
      simp only [endB, Bool.and_eq_true] at hE
      have := any_of_seq_late (P := P) (md := .any) (Q' := Q) (l.drop (n + m)) (n + m) (markAll n m listed0) _ w' (fun j => by simp [List.getElem?_drop]) (by rw [hdl]; exact hE.2) h1
      rwa [hdl] at this)
    (cs.length + qs.length + ps.length + m) (cs.length + qs.length + ps.length) _ (Array.replicate l.toArray.size false) a (fun _ => 0) w.drew (by
      rw [cntC_none m (fun j _ => getD_replicate_false _ _)]) inv0 (by simp [late_size]) (fun j _ => rfl) ⟨Up.of (w' := w.drew) (Below.drew (Below.refl _ _)), rfl⟩ ⟨fun j _ hd => absurd ((getD_replicate_false _ _).symm.trans hd) Bool.false_ne_true, fun j _ _ _ hd => absurd ((getD_replicate_false _ _).symm.trans hd) Bool.false_ne_true⟩
    (H.up (Below.drew (Below.refl _ _)))
  rw [putsC_none m a (fun j _ => getD_replicate_false _ _), hlen, show n + m + (l.toArray.size - (n + m)) = l.toArray.size by omega] at T
  exact T

/-- one alloc -/
theorem wp_region_chainQ1 {P : Program} {id : Nat} {Q : Exit → Act → World → Prop} {a : Act} {w : World} {l : List Oper} (n : Nat) (late ps cs qs : List Nat) (b0 : Obj) (o0 : Oper) (hm : P.follows .mixedOrders = true) (hB : chainQB l.toArray n 1 late ps cs qs = true)
    (hQ : ∀ d v c a w, Q (.panic c) (Act.put a d v) w → Q (.panic c) a w)
    (h0 : l.toArray[n]? = some o0) (a0 : ∀ ρ w, (execOp ρ o0).run P w = .ok (.value (.pointer (some ⟨w.heap.size, 0, none⟩))) (w.alloc b0))
    (h : ∀ u0 : Up w, wpQuiet P l.toArray (upC u0.val) (fun a' => chainQ P l.toArray (fun a'' w' => ∀ p0, (w.heap.size ≤ p0 ∧ p0 < w'.heap.size ∧ w'.heap[p0]? = some b0) →
      wpList P l.toArray Q (l.drop (n + 1)) (a''.put o0.dst (.pointer (some ⟨p0, 0, none⟩))) w') qs cs a' w) (ps.filterMap fun i => l.toArray[i]?) a) : (Code.region id l.toArray true).wp P Q a w := by
  refine wp_region_chainQ n 1 late ps cs qs (fun _ => b0) hm hB hQ (fun j hj x hx ρ w => ?_) (fun u0 => quiet_end (fun a' hq => chainQ_mono (fun a'' w' hL blk hb => ?_) cs a' w hq) _ _ (h u0))
  · obtain rfl : j = 0 := by omega
    obtain rfl := Option.some.inj (hx.symm.trans h0); exact a0 ρ w
  · have := hL _ (hb.1 0 (by omega) rfl)
    simpa [putsC, h0] using this
/-- no alloc -/
theorem wp_region_chain0 {P : Program} {id : Nat} {Q : Exit → Act → World → Prop} {a : Act} {w : World} {l : List Oper} (n : Nat) (ps cs : List Nat) (hm : P.follows .mixedOrders = true) (hB : chainB l.toArray n 0 ps cs = true)
    (h : ∀ u0 : Up w, wpQuiet P l.toArray (upC u0.val) (fun a' => chainW P l.toArray (fun a'' w' => wpList P l.toArray Q (l.drop n) a'' w') cs a' w) (ps.filterMap fun i => l.toArray[i]?) a) : (Code.region id l.toArray true).wp P Q a w :=
  wp_region_chain n 0 ps cs (fun _ => .cells #[] 0) hm hB (fun j hj => by omega) (fun u0 => quiet_end (fun a' hq => chainW_mono (fun a'' w' hL blk _ => hL) cs a' w hq) _ _ (h u0))

end Go.Proofs.Ytegpjjkbbdfggaa.bg

/-
  Layer 37: the reference's Region.
-/
namespace Go.Proofs.Ytegpjjkbbdfggaa.im
set_option linter.unusedVariables false
set_option linter.unusedSimpArgs false
open Go.RowKit bs sp ik rg mt

theorem Runs.setBool {w : World} {p : Addr} {x : Bool} (hp : w.cell? p = some (.bool x)) (u : Value) {A : Option Addr} {n c : Nat} {l : List (Int × Int)} (h : sp.Runs w A n c l) : sp.Runs (w.setCell p u) A n c l := rg.Runs.setInt (fun k v e => by rw [hp] at e; cases e) u h
theorem IntsV.setBool {w : World} {v : Value} {l : List Int} (h : IntsV w v l) {p : Addr} {x : Bool} (hp : w.cell? p = some (.bool x)) (u : Value) : IntsV (w.setCell p u) v l := by
  obtain ⟨A, c, e, h⟩ := h
  refine ⟨A, c, e, fun hn => ?_⟩
  obtain ⟨b, e2, hlt, hc⟩ := h hn
  refine ⟨b, e2, by simpa using hlt, fun j hj => ?_⟩
  have hcj := hc j hj
  have hne : p ≠ ⟨b, j, none⟩ := fun e => by
    rw [e, hcj] at hp
    cases hp
  first
    | exact (World.cell?_setCell_other w _ _ u hne).trans hcj
    | exact (World.cell?_setCell_other w _ _ u hne.symm).trans hcj
theorem row_next (f : Nat → Bool) (i : Nat) (hi : i < 64) (b : Bool) (hb : f i = b) : (rowC fun x => decide (x < i) && f x).setIfInBounds i (.bool b) = rowC fun x => decide (x < i + 1) && f x := by
  rw [rowC_set _ i hi]
  congr 1
  funext x
  by_cases h : x = i
  · subst h; simp [hb]
  · have : x < i + 1 ↔ x < i := by omega
    simp [h, this]
theorem row_all (f : Nat → Bool) (W : Nat) : rl (fun x => decide (x < W) && f x) W = rl f W := rl_ext W fun i hi => by simp [hi]
theorem row_none (f : Nat → Bool) : (rowC fun x => decide (x < 0) && f x) = rowC fun _ => false := by
  congr 1
/-- a slice that is owned lies as it lay, behind a store elsewhere -/
theorem ownsRow_far {w : World} {base size n : Nat} {e : TypeId} {v : Value} {xs : List Value} (h : w.ownsRow base e size v n xs) {p : Addr} (hp : p.block < base) (u : Value) : (w.setCell p u).ownsRow base e size v n xs := by
  refine ⟨h.1, ?_⟩
  rcases h.2 with h0 | ⟨g, cap, cur, e, h1, hg, h2⟩
  · exact .inl h0
  · exact .inr ⟨g, cap, cur, e, h1, (Below.heap_setCell w p u g (by omega)).trans hg, h2⟩
theorem rr_put {wr w1 : World} {base W k : Nat} {ov v1 : Value} {A : Option Addr} {c : Nat} {R : Nat → Nat → Bool} {xs : List Value} (h1 : wr.ownsRow base 107 1 ov k xs) (h2 : MdRows wr W k ov R xs)
    (hr : sp.Runs wr A (rowsOf W R k).length c (rowsOf W R k)) (hf : 0 < (rowsOf W R k).length → ∀ q, (Value.slice A (rowsOf W R k).length c).ownBlock = some q → ov.ownBlock ≠ some q)
    (hg : wr.grownBy w1 ov.ownBlock) (hv : v1.ownBlock = ov.ownBlock ∨ v1.ownBlock = some wr.heap.size) : MdRows w1 W (k + 1) v1 R (xs ++ [.slice A (rowsOf W R k).length c]) := by
  have hxl : xs.length = k := by simpa using h1.1
  have ap : ∀ {A : Option Addr} {n c : Nat} {l : List (Int × Int)}, sp.Runs wr A n c l → (0 < n → ∀ q, (Value.slice A n c).ownBlock = some q → ov.ownBlock ≠ some q) → 0 < n → ∀ q, (Value.slice A n c).ownBlock = some q → v1.ownBlock ≠ some q := by
    intro A n c l hr hf hn q hq
    rcases hv with hv | hv
    · rw [hv]; exact hf hn q hq
    · have h5 := Runs.lt hr hn q hq
      rw [hv]
      simp
      omega
  have ga : ∀ {A : Option Addr} {n c : Nat} {l : List (Int × Int)}, sp.Runs wr A n c l → (0 < n → ∀ q, (Value.slice A n c).ownBlock = some q → ov.ownBlock ≠ some q) → sp.Runs w1 A n c l := fun hr hf => Runs.grown hr hg hf
  intro j hj
  by_cases e : j = k
  · subst e
    exact ⟨A, c, by rw [List.getElem?_append_right (by omega), hxl, Nat.sub_self]; rfl, ga hr hf, ap hr hf⟩
  · obtain ⟨Aj, cj, a1, a2, a3⟩ := h2 j (by omega)
    exact ⟨Aj, cj, by rw [List.getElem?_append_left (by omega)]; exact a1, ga a2 a3, ap a2 a3⟩
/-- the loop's world behind k rows -/
def RgRel (w : World) (q : Nat) (iv mv : Array Value) (W H : Nat) (R : Nat → Nat → Bool) (k : Nat) (wr : World) : Prop :=
  ∃ ov xs, wr.ownsRow (q + 1) 107 1 ov k xs ∧ MdRows wr W k ov R xs ∧ Blk wr w.heap.size 23 iv ∧ Blk wr (w.heap.size + 1) 25 mv ∧ Blk wr (w.heap.size + 1 + 1) 51 #[.int .i64 0, .int .i64 0, .slice none 0 0] ∧ Blk wr q 51 #[.int .i64 (W : Int), .int .i64 (H : Int), ov] ∧ Below w.heap.size w wr
theorem RgRel.below {w : World} {q : Nat} {iv mv : Array Value} {W H : Nat} {R : Nat → Nat → Bool} {k : Nat} {wr w' : World} (h : RgRel w q iv mv W H R k wr) (hb : Below wr.heap.size wr w') : RgRel w q iv mv W H R k w' := by
  obtain ⟨ov, xs, h1, h2, h3, h4, h5, h6, h7⟩ := h
  refine ⟨ov, xs, rg.own_below h1 hb, fun j hj => ?_, h3.below hb h3.lt, h4.below hb h4.lt, h5.below hb h5.lt, h6.below hb h6.lt, btrans h7 hb⟩
  obtain ⟨Aj, cj, a1, a2, a3⟩ := h2 j hj
  exact ⟨Aj, cj, a1, a2.below hb, a3⟩
theorem own_slice {w : World} {base size n : Nat} {e : TypeId} {v : Value} {xs : List Value} (h : w.ownsRow base e size v n xs) : ∃ A m c, v = .slice A m c := by
  rcases h.2 with ⟨h0, _⟩ | ⟨g, cap, cur, e, _⟩
  · exact ⟨_, _, _, h0⟩
  · exact ⟨_, _, _, e⟩
theorem RgRel.put {w w2 w1 : World} {q : Nat} {iv mv : Array Value} {W H : Nat} {R : Nat → Nat → Bool} {k : Nat} {A : Option Addr} {c : Nat} {v1 : Value} {ov : Value} {xs : List Value} (hq : w.heap.size + 1 + 1 < q)
    (h1 : w2.ownsRow (q + 1) 107 1 ov k xs) (h2 : MdRows w2 W k ov R xs) (h3 : Blk w2 w.heap.size 23 iv) (h4 : Blk w2 (w.heap.size + 1) 25 mv) (h5 : Blk w2 (w.heap.size + 1 + 1) 51 #[.int .i64 0, .int .i64 0, .slice none 0 0]) (h6 : Blk w2 q 51 #[.int .i64 (W : Int), .int .i64 (H : Int), ov]) (h7 : Below w.heap.size w w2)
    (hr : sp.Runs w2 A (rowsOf W R k).length c (rowsOf W R k)) (hf : 0 < (rowsOf W R k).length → ∀ q, (Value.slice A (rowsOf W R k).length c).ownBlock = some q → ov.ownBlock ≠ some q)
    (hown : w1.ownsRow (q + 1) 107 1 v1 (k + 1) (xs ++ [.slice A (rowsOf W R k).length c])) (hg : w2.grownBy w1 ov.ownBlock) (hv : v1.ownBlock = ov.ownBlock ∨ v1.ownBlock = some w2.heap.size) :
    RgRel w q iv mv W H R (k + 1) (w1.setCell ⟨q, 2, none⟩ v1) ∧ w1.cell? ⟨q, 2, none⟩ = some ov ∧ w1.frozen? ⟨q, 2, none⟩ = false := by
  have hlo : ∀ b, b ≤ q → some b ≠ ov.ownBlock := fun b hb e => by have := (h1.lt b e.symm).1; omega
  have gb : ∀ {b t cs}, Blk w2 b t cs → b ≤ q → Blk w1 b t cs := fun h hb => h.grown hg (hlo _ hb)
  have k6 := gb h6 (Nat.le_refl _)
  have k3 := gb h3 (by omega)
  have k4 := gb h4 (by omega)
  have k5 := gb h5 (by omega)
  have hb1 : Below w.heap.size w w1 := Below.grown h7 hg h7.size (fun b hb => by have := (h1.lt b hb).1; omega)
  have hm := rr_put h1 h2 hr hf hg hv
  obtain ⟨A0, n0, c0, rfl⟩ := own_slice h1
  have hc : w1.cell? ⟨q, 2, none⟩ = some (.slice A0 n0 c0) := by rw [k6.cell]; rfl
  refine ⟨⟨v1, _, ownsRow_far hown (show q < q + 1 by omega) _, fun j hj => ?_, k3.far (show w.heap.size ≠ q by omega) _, k4.far (show w.heap.size + 1 ≠ q by omega) _, k5.far (show w.heap.size + 1 + 1 ≠ q by omega) _, k6.set_ 2 _, bset hb1 (show w.heap.size ≤ q by omega) _⟩, hc, k6.frozen 2⟩
  obtain ⟨Aj, cj, a1, a2, a3⟩ := hm j hj
  exact ⟨Aj, cj, a1, rg.Runs.setSlice hc _ a2, a3⟩
theorem rput5 {w w2 w1 : World} {q : Nat} {iv mv : Array Value} {W H : Nat} {R : Nat → Nat → Bool} {k ln : Nat} {A : Option Addr} {c : Nat} {v1 : Value} {ov : Value} {xs : List Value} (hln : (rowsOf W R k).length = ln) (hq : w.heap.size + 1 + 1 < q)
    (h1 : w2.ownsRow (q + 1) 107 1 ov k xs) (h2 : MdRows w2 W k ov R xs) (h3 : Blk w2 w.heap.size 23 iv) (h4 : Blk w2 (w.heap.size + 1) 25 mv) (h5 : Blk w2 (w.heap.size + 1 + 1) 51 #[.int .i64 0, .int .i64 0, .slice none 0 0]) (h6 : Blk w2 q 51 #[.int .i64 (W : Int), .int .i64 (H : Int), ov]) (h7 : Below w.heap.size w w2)
    (hr : sp.Runs w2 A ln c (rowsOf W R k)) (hf : 0 < ln → ∀ q, (Value.slice A ln c).ownBlock = some q → ov.ownBlock ≠ some q)
    (hown : w1.ownsRow (q + 1) 107 1 v1 (k + 1) (xs ++ [.slice A ln c])) (hg : w2.grownBy w1 ov.ownBlock) (hv : v1.ownBlock = ov.ownBlock ∨ v1.ownBlock = some w2.heap.size) :
    RgRel w q iv mv W H R (k + 1) (w1.setCell ⟨q, 2, none⟩ v1) ∧ w1.cell? ⟨q, 2, none⟩ = some ov ∧ w1.frozen? ⟨q, 2, none⟩ = false := by
  subst hln
  exact RgRel.put hq h1 h2 h3 h4 h5 h6 h7 hr hf hown hg hv
theorem RgRel.rows {w : World} {q : Nat} {iv mv : Array Value} {W H : Nat} {R : Nat → Nat → Bool} {k : Nat} {wr : World} (h : RgRel w q iv mv W H R k wr) (hk : 0 < k) (hW : W ≤ 64) :
    ∃ g cap, Blk wr q 51 #[.int .i64 (W : Int), .int .i64 (H : Int), .slice (some ⟨g, 0, none⟩) k cap] ∧ rg.Rows wr (some ⟨g, 0, none⟩) k cap (rowsOf W R) ∧ q + 1 ≤ g := by
  obtain ⟨ov, xs, h1, h2, h3, h4, h5, h6, h7⟩ := h
  obtain ⟨g, cap, cs, hv, hg, hB, hcap, hs, ht⟩ := own_out hk h1
  refine ⟨g, cap, hv ▸ h6, ⟨hcap, fun _ => ⟨g, 0, rfl, hB.lt, fun j hj => ?_⟩⟩, hg⟩
  obtain ⟨Aj, cj, a1, a2, a3⟩ := h2 j hj
  refine ⟨by have := rowsOf_len W R j hW; omega, Aj, cj, ?_, a2⟩
  rw [Nat.zero_add, hB.cell]
  rw [← ht, List.getElem?_take, if_pos hj] at a1
  simpa using a1
set_option maxRecDepth 100000 in
set_option maxHeartbeats 3200000 in
theorem rover_any (IW IH IB ma mb mc md me mf t : Int) (s : ByteArray) (W H : Nat) (w : World) (hW : 1 ≤ W ∧ W ≤ 64) (hH : 1 ≤ H ∧ H ≤ 64) (hs : (s.size : Int) ≤ 9223372036854775807) (hi : mayI IW IH IB s.size = true) (hm : mt.mayB ma mb mc md me mf = true) (ht : ma * md - mb * mc = t) (h0 : ¬ t = 0) :
    Calls Try.prog 39 #[.agg #[.int .i64 IW, .int .i64 IH, .int .i64 IB, .string s], .agg #[.int .i64 ma, .int .i64 mb, .int .i64 mc, .int .i64 md, .int .i64 me, .int .i64 mf], .int .i64 (W : Int), .int .i64 (H : Int)] w fun e w' =>
      ∃ g d, e = .returned (.tuple #[.agg #[.int .i64 (W : Int), .int .i64 (H : Int), .slice (some ⟨g, 0, none⟩) H d], .int .i64 0]) ∧ rg.Rows w' (some ⟨g, 0, none⟩) H d (rowsOf W (overB IW IH IB s ma mb mc md me mf)) ∧ Below w.heap.size w w' := by
  obtain ⟨i0, hi0, hz0, hz1, hz2⟩ := info_parts (show (Try.prog.info? 107).map (fun i => (i.zero, i.size, i.bytes)) = some (some (.slice none 0 0), 1, 24) by kernel_rfl)
  have HMI := Lib.hid (fun W' => by have := rmay37_any IW IH IB s W' hs; rwa [hi] at this)
  have HMM := Lib.hid (fun W' => by have := mt.rmay_any ma mb mc md me mf W'; rwa [hm] at this)
  have HDT := Lib.hid (fun W' => by have := mt.rdet_any ma mb mc md me mf W' hm; rwa [ht] at this)
  have HSW := Lib.hid (fun W' => isside_yes W hW W')
  have HSH := Lib.hid (fun W' => isside_yes H hH W')
  obtain ⟨S, hS⟩ : ∃ S : Nat → Nat → Int, (fun (j i : Nat) => atV IW IH IB s ma mb mc md me mf (16 * (i : Int) + 8) (16 * (j : Int) + 8)) = S := ⟨_, rfl⟩
  have hS1 : ∀ j i : Nat, atV IW IH IB s ma mb mc md me mf (16 * (i : Int) + 8) (16 * (j : Int) + 8) = S j i := fun j i => by rw [← hS]
  have hAV : ∀ j i : Nat, AtV IW IH IB s ma mb mc md me mf (16 * (i : Int) + 8) (16 * (j : Int) + 8) = S j i := fun j i => by
    unfold AtV
    rw [if_pos (by rw [hi, hm]; rfl), hS1]
  have HLN := Lib.hid (fun (j : Nat) W' => show Calls Try.prog 22 #[.agg #[.int .i64 IW, .int .i64 IH, .int .i64 IB, .string s], .agg #[.int .i64 ma, .int .i64 mb, .int .i64 mc, .int .i64 md, .int .i64 me, .int .i64 mf], .int .i64 (16 * (j : Int) + 8), .int .i64 (W : Int)] W' fun ed w' => ∃ lb lc l, ed = .returned (.slice (some ⟨lb, 0, none⟩) W lc) ∧ IntsV w' (.slice (some ⟨lb, 0, none⟩) W lc) l ∧ l.length = W ∧ (∀ (i : Nat) (hi : i < l.length), l[i] = S j i) ∧ Below W'.heap.size W' w' from
    (rLine_any IW IH IB ma mb mc md me mf (16 * (j : Int) + 8) W s W' hs hW.2).mono fun ed w' ⟨lv, e1, e2, e3⟩ => by
      have hll := lineL_len IW IH IB s ma mb mc md me mf (16 * (j : Int) + 8) W
      obtain ⟨lb, lc, e4⟩ := e2.shape (by rw [hll]; exact hW.1)
      rw [hll] at e4
      subst e4
      exact ⟨lb, lc, _, e1, e2, hll, fun i hi => by rw [lineL_get, hAV], e3⟩)
  have hR : overB IW IH IB s ma mb mc md me mf = fun j i => decide (0 < S j i) := by
    funext j i
    unfold overB
    rw [hS1]
  obtain ⟨R, hRe⟩ : ∃ R : Nat → Nat → Bool, overB IW IH IB s ma mb mc md me mf = R := ⟨_, rfl⟩
  rw [hRe] at hR ⊢
  have HRB := Lib.hid (fun j i => show R j i = decide (0 < S j i) by rw [hR])
  have HRU := Lib.hid (fun (k : Nat) W' => show Calls Try.prog 76 #[.agg (rowC fun x => decide (x < W) && R k x), .int .i64 (W : Int)] W' fun e w' => ∃ A c, e = .returned (.slice A (rowsOf W R k).length c) ∧ sp.Runs w' A (rowsOf W R k).length c (rowsOf W R k) ∧ (∀ q, (Value.slice A (rowsOf W R k).length c).ownBlock = some q → W'.heap.size ≤ q) ∧ Below W'.heap.size W' w' by
    have := rruns_own (fun x => decide (x < W) && R k x) (W : Int) W'
    rw [show (max 0 (min (W : Int) 64)).toNat = W by omega, row_all] at this
    exact this)
  have ht0 : (t == 0) = false := by simp; exact h0
  obtain ⟨hW0, hW1⟩ := hW
  obtain ⟨hH0, hH1⟩ := hH
  clear hs hi hm ht hS hS1 hAV hR hRe
  go_enter Try.func39, Try.ntmps39
  go_wp2_with fail
  have hst0 : Below w.heap.size w (((w.alloc (.cells #[.int .i64 IW, .int .i64 IH, .int .i64 IB, .string s] 23)).alloc (.cells #[.int .i64 ma, .int .i64 mb, .int .i64 mc, .int .i64 md, .int .i64 me, .int .i64 mf] 25)).alloc (.cells #[.int .i64 0, .int .i64 0, .slice none 0 0] 51)) := by (repeat' (first | exact Below.refl _ _ | exact Below.refl _ _ | refine balloc ?_ _ | refine Below.drew ?_ | refine below_drewN ?_ _ | refine bset ?_ (by first | omega | (simp <;> omega)) _))
  refine (HMI.out _).mono ?_
  rintro e_ w1 ⟨rfl, hb⟩
  have hst : Below w.heap.size w w1 := btrans hst0 hb
  have Ki := (((Blk.new w 23 #[.int .i64 IW, .int .i64 IH, .int .i64 IB, .string s]).alloc (.cells #[.int .i64 ma, .int .i64 mb, .int .i64 mc, .int .i64 md, .int .i64 me, .int .i64 mf] 25)).alloc (.cells #[.int .i64 0, .int .i64 0, .slice none 0 0] 51))
  have Km := ((Blk.new (w.alloc (.cells #[.int .i64 IW, .int .i64 IH, .int .i64 IB, .string s] 23)) 25 #[.int .i64 ma, .int .i64 mb, .int .i64 mc, .int .i64 md, .int .i64 me, .int .i64 mf]).alloc (.cells #[.int .i64 0, .int .i64 0, .slice none 0 0] 51))
  have hz_Km : (w.alloc (.cells #[.int .i64 IW, .int .i64 IH, .int .i64 IB, .string s] 23)).heap.size = w.heap.size + 1 := by simp
  rw [hz_Km] at Km
  clear hz_Km
  have Kz := (Blk.new ((w.alloc (.cells #[.int .i64 IW, .int .i64 IH, .int .i64 IB, .string s] 23)).alloc (.cells #[.int .i64 ma, .int .i64 mb, .int .i64 mc, .int .i64 md, .int .i64 me, .int .i64 mf] 25)) 51 #[.int .i64 0, .int .i64 0, .slice none 0 0])
  have hz_Kz : ((w.alloc (.cells #[.int .i64 IW, .int .i64 IH, .int .i64 IB, .string s] 23)).alloc (.cells #[.int .i64 ma, .int .i64 mb, .int .i64 mc, .int .i64 md, .int .i64 me, .int .i64 mf] 25)).heap.size = w.heap.size + 1 + 1 := by simp
  rw [hz_Kz] at Kz
  clear hz_Kz
  replace Ki := Ki.below hb Ki.lt
  replace Km := Km.below hb Km.lt
  replace Kz := Kz.below hb Kz.lt
  have hbw : Below w.heap.size w w1 := hst
  clear hst hst0 hb 
  have lKi := Ki.lt
  have cKi0 := Ki.cell 0
  have cKi1 := Ki.cell 1
  have cKi2 := Ki.cell 2
  have cKi3 := Ki.cell 3
  have lKm := Km.lt
  have cKm0 := Km.cell 0
  have cKm1 := Km.cell 1
  have cKm2 := Km.cell 2
  have cKm3 := Km.cell 3
  have cKm4 := Km.cell 4
  have cKm5 := Km.cell 5
  have lKz := Kz.lt
  have cKz0 := Kz.cell 0
  have cKz1 := Kz.cell 1
  have cKz2 := Kz.cell 2
  simp only [List.getElem?_toArray, List.getElem?_cons_succ, List.getElem?_cons_zero] at cKi0 cKi1 cKi2 cKi3 cKm0 cKm1 cKm2 cKm3 cKm4 cKm5 cKz0 cKz1 cKz2
  go_wp2_with fail
  have hst0 : Below w1.heap.size w1 w1 := by (repeat' (first | exact Below.refl _ _ | exact Below.refl _ _ | refine balloc ?_ _ | refine Below.drew ?_ | refine below_drewN ?_ _ | refine bset ?_ (by first | omega | (simp <;> omega)) _))
  refine (HMM.out _).mono ?_
  rintro e_ w2 ⟨rfl, hb⟩
  have hst : Below w1.heap.size w1 w2 := btrans hst0 hb
  replace Ki := Ki.below hb Ki.lt
  replace Km := Km.below hb Km.lt
  replace Kz := Kz.below hb Kz.lt
  replace hbw : Below w.heap.size w w2 := btrans hbw hst
  clear hst hst0 hb lKi cKi0 cKi1 cKi2 cKi3 lKm cKm0 cKm1 cKm2 cKm3 cKm4 cKm5 lKz cKz0 cKz1 cKz2
  have lKi := Ki.lt
  have cKi0 := Ki.cell 0
  have cKi1 := Ki.cell 1
  have cKi2 := Ki.cell 2
  have cKi3 := Ki.cell 3
  have lKm := Km.lt
  have cKm0 := Km.cell 0
  have cKm1 := Km.cell 1
  have cKm2 := Km.cell 2
  have cKm3 := Km.cell 3
  have cKm4 := Km.cell 4
  have cKm5 := Km.cell 5
  have lKz := Kz.lt
  have cKz0 := Kz.cell 0
  have cKz1 := Kz.cell 1
  have cKz2 := Kz.cell 2
  simp only [List.getElem?_toArray, List.getElem?_cons_succ, List.getElem?_cons_zero] at cKi0 cKi1 cKi2 cKi3 cKm0 cKm1 cKm2 cKm3 cKm4 cKm5 cKz0 cKz1 cKz2
  go_wp2_with fail
  refine (HSW.out _).mono ?_
  rintro e_ w_ ⟨rfl, rfl⟩
  go_wp2_with fail
  refine (HSH.out _).mono ?_
  rintro e_ w_ ⟨rfl, rfl⟩
  go_wp2_with fail
  have hst0 : Below w2.heap.size w2 w2 := by (repeat' (first | exact Below.refl _ _ | exact Below.refl _ _ | refine balloc ?_ _ | refine Below.drew ?_ | refine below_drewN ?_ _ | refine bset ?_ (by first | omega | (simp <;> omega)) _))
  refine (HDT.out _).mono ?_
  rintro e_ w3 ⟨rfl, hb⟩
  have hst : Below w2.heap.size w2 w3 := btrans hst0 hb
  replace Ki := Ki.below hb Ki.lt
  replace Km := Km.below hb Km.lt
  replace Kz := Kz.below hb Kz.lt
  replace hbw : Below w.heap.size w w3 := btrans hbw hst
  clear hst hst0 hb lKi cKi0 cKi1 cKi2 cKi3 lKm cKm0 cKm1 cKm2 cKm3 cKm4 cKm5 lKz cKz0 cKz1 cKz2
  have lKi := Ki.lt
  have cKi0 := Ki.cell 0
  have cKi1 := Ki.cell 1
  have cKi2 := Ki.cell 2
  have cKi3 := Ki.cell 3
  have lKm := Km.lt
  have cKm0 := Km.cell 0
  have cKm1 := Km.cell 1
  have cKm2 := Km.cell 2
  have cKm3 := Km.cell 3
  have cKm4 := Km.cell 4
  have cKm5 := Km.cell 5
  have lKz := Kz.lt
  have cKz0 := Kz.cell 0
  have cKz1 := Kz.cell 1
  have cKz2 := Kz.cell 2
  simp only [List.getElem?_toArray, List.getElem?_cons_succ, List.getElem?_cons_zero] at cKi0 cKi1 cKi2 cKi3 cKm0 cKm1 cKm2 cKm3 cKm4 cKm5 cKz0 cKz1 cKz2
  have hq0 : w.heap.size + 1 + 1 < w3.heap.size := lKz
  go_wp2_with fail
  replace Ki := (Ki.alloc (.cells #[.int .i64 (W : Int), .int .i64 (H : Int), .slice none 0 0] 51))
  replace Km := (Km.alloc (.cells #[.int .i64 (W : Int), .int .i64 (H : Int), .slice none 0 0] 51))
  replace Kz := (Kz.alloc (.cells #[.int .i64 (W : Int), .int .i64 (H : Int), .slice none 0 0] 51))
  have Kq := (Blk.new w3 51 #[.int .i64 (W : Int), .int .i64 (H : Int), .slice none 0 0])
  have hbw2 : Below w.heap.size w (w3.alloc (.cells #[.int .i64 (W : Int), .int .i64 (H : Int), .slice none 0 0] 51)) := by (repeat' (first | exact hbw | exact Below.refl _ _ | refine balloc ?_ _ | refine Below.drew ?_ | refine below_drewN ?_ _ | refine bset ?_ (by first | omega | (simp <;> omega)) _))
  have HREL := Lib.hid (show RgRel w w3.heap.size #[.int .i64 IW, .int .i64 IH, .int .i64 IB, .string s] #[.int .i64 ma, .int .i64 mb, .int .i64 mc, .int .i64 md, .int .i64 me, .int .i64 mf] W H R 0 (w3.alloc (.cells #[.int .i64 (W : Int), .int .i64 (H : Int), .slice none 0 0] 51)) from ⟨.slice none 0 0, [], ⟨rfl, .inl ⟨rfl, rfl⟩⟩, fun j hj => absurd hj (by omega), Ki, Km, Kz, Kq, hbw2⟩)
  clear Ki Km Kz Kq hbw hbw2 HMI HMM HDT HSW HSH lKi cKi0 cKi1 cKi2 cKi3 lKm cKm0 cKm1 cKm2 cKm3 cKm4 cKm5 lKz cKz0 cKz1 cKz2
  obtain ⟨q, hqe⟩ : ∃ q, w3.heap.size = q := ⟨_, rfl⟩
  rw [hqe] at hq0 HREL
  simp only [hqe]
  go_loopw [11] (fun jv wr => ∃ k : Nat, k ≤ H ∧ jv = .int .i64 (k : Int) ∧ Hid (RgRel w q #[.int .i64 IW, .int .i64 IH, .int .i64 IB, .string s] #[.int .i64 ma, .int .i64 mb, .int .i64 mc, .int .i64 md, .int .i64 me, .int .i64 mf] W H R k wr)) (fun jv _ => 64 - (intOf jv).toNat)
  case atStart => exact ⟨0, Nat.zero_le _, rfl, HREL⟩
  case round =>
    clear HREL hqe
    obtain ⟨k, hk, rfl, hM⟩ := hrel
    obtain ⟨wo, rfl⟩ : ∃ wo, wo = wr := ⟨_, rfl⟩
    by_cases hlt : k < H
    · have d1 : decide ((k : Int) < (H : Int)) = true := by simp; omega
      obtain ⟨ov0, xs0, _, _, g3, g4, _, g6, g7⟩ := id hM.out
      have i0 := g3.cell 0; have i1 := g3.cell 1; have i2 := g3.cell 2; have i3 := g3.cell 3
      have m0 := g4.cell 0; have m1 := g4.cell 1; have m2 := g4.cell 2; have m3 := g4.cell 3; have m4 := g4.cell 4; have m5 := g4.cell 5
      have l3 := g3.lt; have l4 := g4.lt; have l6 := g6.lt
      simp only [List.getElem?_toArray, List.getElem?_cons_succ, List.getElem?_cons_zero] at i0 i1 i2 i3 m0 m1 m2 m3 m4 m5
      have HBR := Lib.hid g7
      clear g3 g4 g6 g7
      go_wp2_with fail
      refine (HLN.out k _).mono ?_
      rintro e_ w7 ⟨lb, lc, l, rfl, hIV, hLen, hGet, hb7⟩
      have HK1 := Lib.hid ((Blk.new wo 114 #[.bool false, .bool false, .bool false, .bool false, .bool false, .bool false, .bool false, .bool false, .bool false, .bool false, .bool false, .bool false, .bool false, .bool false, .bool false, .bool false, .bool false, .bool false, .bool false, .bool false, .bool false, .bool false, .bool false, .bool false, .bool false, .bool false, .bool false, .bool false, .bool false, .bool false, .bool false, .bool false, .bool false, .bool false, .bool false, .bool false, .bool false, .bool false, .bool false, .bool false, .bool false, .bool false, .bool false, .bool false, .bool false, .bool false, .bool false, .bool false, .bool false, .bool false, .bool false, .bool false, .bool false, .bool false, .bool false, .bool false, .bool false, .bool false, .bool false, .bool false, .bool false, .bool false, .bool false, .bool false]).below hb7 (by simp))
      have HB7 := Lib.hid (show Below wo.heap.size wo w7 from btrans (balloc (Below.refl _ _) _) hb7)
      have HIV := Lib.hid hIV
      have HGET := Lib.hid hGet
      have HLEN := Lib.hid hLen
      clear hIV hGet hLen hb7 i0 i1 i2 i3 m0 m1 m2 m3 m4 m5 l3 l4
      go_wp2_with fail
      go_loopw [14] (fun iv wi => ∃ i : Nat, i ≤ W ∧ iv = .int .i64 (i : Int) ∧ Blk wi wo.heap.size 114 (rowC fun x => decide (x < i) && R k x) ∧ IntsV wi (.slice (some ⟨lb, 0, none⟩) W lc) l ∧ Below wo.heap.size wo wi) (fun iv _ => 64 - (intOf iv).toNat)
      case atStart => exact ⟨0, Nat.zero_le _, rfl, by rw [row_none, ← rowC_zero]; exact HK1.out, HIV.out, HB7.out⟩
      case round =>
        clear HK1 HIV HB7
        obtain ⟨i, hi, rfl, hB, hIV, hbo⟩ := hrel
        by_cases hil : i < W
        · have d2 : decide ((i : Int) < (W : Int)) = true := by simp; omega
          obtain ⟨hlb, hlci⟩ := hIV.at_ HLEN.out _ HGET.out i hil
          have hRB := HRB.out k i
          obtain ⟨v, hv⟩ : ∃ v, S k i = v := ⟨_, rfl⟩
          rw [hv] at hlci hRB
          obtain ⟨bv, hbv⟩ : ∃ b, decide (0 < v) = b := ⟨_, rfl⟩
          rw [hbv] at hRB
          have hbv2 : decide (v > 0) = bv := hbv
          have hbc : wr.cell? ⟨wo.heap.size, i, none⟩ = some (.bool (decide (i < i) && R k i)) := by rw [hB.cell, rowC_get _ i (by omega)]
          have hbf := hB.frozen i
          have hi64 : (i : Int) < 64 := by omega
          have HNX := Lib.hid (show Blk (wr.setCell ⟨wo.heap.size, i, none⟩ (.bool bv)) wo.heap.size 114 (rowC fun x => decide (x < i + 1) && R k x) ∧ IntsV (wr.setCell ⟨wo.heap.size, i, none⟩ (.bool bv)) (.slice (some ⟨lb, 0, none⟩) W lc) l ∧ Below wo.heap.size wo (wr.setCell ⟨wo.heap.size, i, none⟩ (.bool bv)) from
            ⟨(row_next (R k) i (by omega) bv hRB) ▸ hB.set_ i (.bool bv), hIV.setBool hbc _, bset hbo (Nat.le_refl _) _⟩)
          clear hB hIV hbo hRB hv
          go_wp2_with fail
          go_roundw
          case rel => exact ⟨i + 1, by omega, by go_num, HNX.out⟩
          case measure => simp [intOf]; omega
        · obtain rfl : i = W := by omega
          have d2 : decide ((i : Int) < (i : Int)) = false := by simp
          have HB := Lib.hid hB
          have HBO := Lib.hid hbo
          have hrel2 := RgRel.below hM.out hbo
          clear hIV
          obtain ⟨ov, xs, o1, o2, o3, o4, o5, o6, o7⟩ := hrel2
          have q2 := o6.cell 2
          have lq := o6.lt
          simp only [List.getElem?_toArray, List.getElem?_cons_succ, List.getElem?_cons_zero] at q2
          have hOV : ∀ b, ov.ownBlock = some b → b < wr.heap.size := fun b hb => (o1.lt b hb).2
          have HO1 := Lib.hid o1; have HO2 := Lib.hid o2; have HO3 := Lib.hid o3; have HO4 := Lib.hid o4; have HO5 := Lib.hid o5; have HO6 := Lib.hid o6; have HO7 := Lib.hid o7
          have HOV := Lib.hid hOV
          have hrl := HB.out.lt
          clear hM hB hbo o1 o2 o3 o4 o5 o6 o7 hOV
          go_wp2_with fail
          refine bg.wp_region_chain0 6 [0, 1, 3] [2, 4, 5] (by kernel_rfl) (by kernel_rfl) ?_
          intro u0
          have U2 : ∀ u : Up u0.val, u.val.cell? ⟨q, 2, none⟩ = some ov := fun u => ((u.cell (Nat.lt_of_lt_of_le lq u0.ok.size)).trans (u0.cell lq)).trans q2
          change wpQuiet _ _ _ _ (_ :: _ :: _ :: []) _
          unfold bg.upC
          simp only [List.getElem_toArray, List.getElem_cons_succ, List.getElem_cons_zero]
          repeat (go_big_quiet_step (fail))
          refine wpQuiet_nil ?_
          clear U2 u0
          refine fun V1 hV1 => ?_
          refine bg.stepV_val _ (.agg (rowC fun x => decide (x < i) && R k x)) V1 rfl (by kernel_rfl) (bg.run_load_array 114 (.tmp 12) rfl wo.heap.size rfl 114 _ _ _ (HB.out.below hV1 hrl) Try.underlying114 rfl (by rw [rowC_size]; kernel_rfl)) (Below.refl _ _) ?_
          refine fun V2 hV2 => ?_
          refine bg.stepV_of _ 76 #[.agg (rowC fun x => decide (x < i) && R k x), .int .i64 (i : Int)] rfl (by kernel_rfl) (by kernel_rfl) ?_
          refine (HRU.out k V2).mono ?_
          rintro e_ V3 ⟨A2, c2, rfl, hr2, hf2, hb3⟩
          refine ⟨_, rfl, hb3, ?_⟩
          obtain ⟨ln, hln⟩ : ∃ ln, (rowsOf i R k).length = ln := ⟨_, rfl⟩
          have HLNN := Lib.hid hln
          rw [hln] at hr2 hf2
          simp only [hln]
          clear hln
          refine fun V4 hV4 => ?_
          refine bg.stepV_val _ (.slice (some ⟨V4.heap.size, 0, none⟩) 1 1) (V4.alloc (.cells #[.slice A2 ln c2] 107)) rfl (by kernel_rfl) (by kernel_rfl) (balloc (Below.refl _ _) _) ?_
          refine fun V5 hV5 => ?_
          have hst := btrans (btrans (btrans hV1 hV2) (btrans hb3 hV4)) (btrans (balloc (Below.refl _ _) (.cells #[.slice A2 ln c2] 107)) hV5)
          have hnew := (Blk.new V4 107 #[.slice A2 ln c2]).below hV5 (by simp)
          have HNEW := Lib.hid (show ∀ (j : Nat) (u : Value), [Value.slice A2 ln c2][j]? = some u → V5.cell? ((⟨V4.heap.size, 0, none⟩ : Addr).add j) = some u from fun j u hu => by
            have hadd : (⟨V4.heap.size, 0, none⟩ : Addr).add j = ⟨V4.heap.size, j, none⟩ := by unfold Addr.add; split <;> simp_all
            rw [hadd, hnew.cell]
            simpa using hu)
          have hq5 : q + 1 ≤ V5.heap.size := Nat.le_trans lq hst.size
          have hr5 := hr2.below (btrans hV4 (btrans (balloc (Below.refl _ _) (.cells #[.slice A2 ln c2] 107)) hV5))
          have hf5 : 0 < ln → ∀ b, (Value.slice A2 ln c2).ownBlock = some b → ov.ownBlock ≠ some b := fun _ b hb e => by
            have h1 := hf2 b hb
            have h2 := HOV.out b e
            have h3 := (btrans hV1 hV2).size
            omega
          have hx5 := rg.own_below HO1.out hst
          have HXO := Lib.hid hx5
          have HPUT := Lib.hid (fun v1 w1 => rput5 (v1 := v1) (w1 := w1) HLNN.out hq0 hx5 (fun j hj => (HO2.out j hj).elim fun Aj h => h.elim fun cj h => ⟨Aj, cj, h.1, h.2.1.below hst, h.2.2⟩) (HO3.out.below hst HO3.out.lt) (HO4.out.below hst HO4.out.lt) (HO5.out.below hst HO5.out.lt) (HO6.out.below hst HO6.out.lt) (btrans HO7.out hst) hr5 hf5)
          clear hst hnew hr5 hf5 hx5 hr2 hf2 hV1 hV2 hb3 hV4 hV5 HO1 HO2 HO3 HO4 HO5 HO6 HO7 HOV HB HBO q2 HLNN
          simp only [Act.put, List.setIfInBounds_toArray, List.set_cons_zero, List.set_cons_succ, List.drop_succ_cons, List.drop_zero]
          go_wp2_with (at_builtin; refine wpList_append_own_at _ rfl (.tmp 66) (.tmp 70) 49 rfl (q + 1) 107 i0 (.slice none 0 0) 1 24 Try.underlying49 hi0 hz0 hz1 hz2 rfl (by omega) ov k xs rfl HXO.out ⟨V4.heap.size, 0, none⟩ 1 1 [.slice A2 ln c2] rfl rfl HNEW.out (by simp [Value.oneCell']) (by simp [maxLen]; omega) (by omega) hq5 ?_; intro v1 w1 hown1 hg1 _ hv1; obtain ⟨hN, hc, hfz⟩ := HPUT.out v1 w1 hown1 hg1 hv1; have HN := Lib.hid hN; obtain ⟨A5, n5, c5, hv5⟩ := own_slice hown1; subst hv5; clear hN hown1 hg1 hv1 HPUT HXO HNEW)
          go_roundw
          case rel => exact ⟨k + 1, by omega, by go_num, HN⟩
          case measure => simp [intOf]; omega
    · obtain rfl : k = H := by omega
      have d1 : decide ((k : Int) < (k : Int)) = false := by simp
      obtain ⟨g, cap, k6, hrw, hg⟩ := hM.out.rows (by omega) hW1
      obtain ⟨_, _, _, _, _, _, k5, _, k7⟩ := id hM.out
      have z0 := k5.cell 0; have z1 := k5.cell 1; have z2 := k5.cell 2
      have f0 := k5.frozen 0; have f1 := k5.frozen 1; have f2 := k5.frozen 2
      have q0 := k6.cell 0; have q1 := k6.cell 1; have q2 := k6.cell 2
      simp only [List.getElem?_toArray, List.getElem?_cons_succ, List.getElem?_cons_zero] at z0 z1 z2 q0 q1 q2
      have HK5 := Lib.hid k5
      have HBW := Lib.hid k7
      have HRW := Lib.hid hrw
      clear k5 k6 k7 hrw hM
      go_wp2_with fail
      refine ret_struct2 (g := w.heap.size + 1 + 1) (t := 51) (cs := #[.int .i64 (W : Int), .int .i64 (k : Int), .slice (some ⟨g, 0, none⟩) k cap]) rfl rfl ?_ Try.underlying51 rfl rfl rfl ?_
      · exact ((HK5.out.set_ 0 (.int .i64 (W : Int))).set_ 1 (.int .i64 (k : Int))).set_ 2 (.slice (some ⟨g, 0, none⟩) k cap)
      · exact ⟨g, cap, rfl, rows_box HRW.out (by omega) HK5.out _ _ _, by (repeat' (first | refine bset ?_ (by first | omega | (simp <;> omega)) _ | refine balloc ?_ _ | refine Below.drew ?_ | refine below_drewN ?_ _ | exact HBW.out | exact Below.refl _ _))⟩
end Go.Proofs.Ytegpjjkbbdfggaa.im

/-
  Layer 37: the reference's Region and Paint by a matrix whose determinant is 0.
-/
namespace Go.Proofs.Ytegpjjkbbdfggaa.im
set_option linter.unusedVariables false
set_option linter.unusedSimpArgs false
open Go.RowKit bs rg mt
set_option maxRecDepth 100000 in
set_option maxHeartbeats 3200000 in
theorem rover_det0 (IW IH IB ma mb mc md me mf : Int) (s : ByteArray) (W H : Nat) (w : World) (hW : 1 ≤ W ∧ W ≤ 64) (hH : 1 ≤ H ∧ H ≤ 64) (hs : (s.size : Int) ≤ 9223372036854775807) (hi : mayI IW IH IB s.size = true) (hm : mt.mayB ma mb mc md me mf = true) (ht : ma * md - mb * mc = 0) :
    Calls Try.prog 39 #[.agg #[.int .i64 IW, .int .i64 IH, .int .i64 IB, .string s], .agg #[.int .i64 ma, .int .i64 mb, .int .i64 mc, .int .i64 md, .int .i64 me, .int .i64 mf], .int .i64 (W : Int), .int .i64 (H : Int)] w fun e w' => e = .returned (.tuple #[.agg #[.int .i64 0, .int .i64 0, .slice none 0 0], .int .i64 14]) ∧ Below w.heap.size w w' := by
  have HMI := Lib.hid (fun W' => by have := rmay37_any IW IH IB s W' hs; rwa [hi] at this)
  have HMM := Lib.hid (fun W' => by have := mt.rmay_any ma mb mc md me mf W'; rwa [hm] at this)
  have HDT := Lib.hid (fun W' => by have := mt.rdet_any ma mb mc md me mf W' hm; rwa [ht] at this)
  have HSW := Lib.hid (fun W' => isside_yes W hW W')
  have HSH := Lib.hid (fun W' => isside_yes H hH W')
  clear hs hi hm ht hW hH
  go_enter Try.func39, Try.ntmps39
  go_wp2_with fail
  have hst0 : Below w.heap.size w (((w.alloc (.cells #[.int .i64 IW, .int .i64 IH, .int .i64 IB, .string s] 23)).alloc (.cells #[.int .i64 ma, .int .i64 mb, .int .i64 mc, .int .i64 md, .int .i64 me, .int .i64 mf] 25)).alloc (.cells #[.int .i64 0, .int .i64 0, .slice none 0 0] 51)) := by (repeat' (first | exact Below.refl _ _ | exact Below.refl _ _ | refine balloc ?_ _ | refine Below.drew ?_ | refine below_drewN ?_ _ | refine bset ?_ (by first | omega | (simp <;> omega)) _))
  refine (HMI.out _).mono ?_
  rintro e_ w1 ⟨rfl, hb⟩
  have hst : Below w.heap.size w w1 := btrans hst0 hb
  have Ki := (((Blk.new w 23 #[.int .i64 IW, .int .i64 IH, .int .i64 IB, .string s]).alloc (.cells #[.int .i64 ma, .int .i64 mb, .int .i64 mc, .int .i64 md, .int .i64 me, .int .i64 mf] 25)).alloc (.cells #[.int .i64 0, .int .i64 0, .slice none 0 0] 51))
  have Km := ((Blk.new (w.alloc (.cells #[.int .i64 IW, .int .i64 IH, .int .i64 IB, .string s] 23)) 25 #[.int .i64 ma, .int .i64 mb, .int .i64 mc, .int .i64 md, .int .i64 me, .int .i64 mf]).alloc (.cells #[.int .i64 0, .int .i64 0, .slice none 0 0] 51))
  have hz_Km : (w.alloc (.cells #[.int .i64 IW, .int .i64 IH, .int .i64 IB, .string s] 23)).heap.size = w.heap.size + 1 := by simp
  rw [hz_Km] at Km
  clear hz_Km
  have Kz := (Blk.new ((w.alloc (.cells #[.int .i64 IW, .int .i64 IH, .int .i64 IB, .string s] 23)).alloc (.cells #[.int .i64 ma, .int .i64 mb, .int .i64 mc, .int .i64 md, .int .i64 me, .int .i64 mf] 25)) 51 #[.int .i64 0, .int .i64 0, .slice none 0 0])
  have hz_Kz : ((w.alloc (.cells #[.int .i64 IW, .int .i64 IH, .int .i64 IB, .string s] 23)).alloc (.cells #[.int .i64 ma, .int .i64 mb, .int .i64 mc, .int .i64 md, .int .i64 me, .int .i64 mf] 25)).heap.size = w.heap.size + 1 + 1 := by simp
  rw [hz_Kz] at Kz
  clear hz_Kz
  replace Ki := Ki.below hb Ki.lt
  replace Km := Km.below hb Km.lt
  replace Kz := Kz.below hb Kz.lt
  have hbw : Below w.heap.size w w1 := hst
  clear hst hst0 hb 
  have lKi := Ki.lt
  have cKi0 := Ki.cell 0
  have cKi1 := Ki.cell 1
  have cKi2 := Ki.cell 2
  have cKi3 := Ki.cell 3
  have lKm := Km.lt
  have cKm0 := Km.cell 0
  have cKm1 := Km.cell 1
  have cKm2 := Km.cell 2
  have cKm3 := Km.cell 3
  have cKm4 := Km.cell 4
  have cKm5 := Km.cell 5
  have lKz := Kz.lt
  have cKz0 := Kz.cell 0
  have cKz1 := Kz.cell 1
  have cKz2 := Kz.cell 2
  have fKz0 := Kz.frozen 0
  have fKz1 := Kz.frozen 1
  have fKz2 := Kz.frozen 2
  simp only [List.getElem?_toArray, List.getElem?_cons_succ, List.getElem?_cons_zero] at cKi0 cKi1 cKi2 cKi3 cKm0 cKm1 cKm2 cKm3 cKm4 cKm5 cKz0 cKz1 cKz2
  go_wp2_with fail
  have hst0 : Below w1.heap.size w1 w1 := by (repeat' (first | exact Below.refl _ _ | exact Below.refl _ _ | refine balloc ?_ _ | refine Below.drew ?_ | refine below_drewN ?_ _ | refine bset ?_ (by first | omega | (simp <;> omega)) _))
  refine (HMM.out _).mono ?_
  rintro e_ w2 ⟨rfl, hb⟩
  have hst : Below w1.heap.size w1 w2 := btrans hst0 hb
  replace Ki := Ki.below hb Ki.lt
  replace Km := Km.below hb Km.lt
  replace Kz := Kz.below hb Kz.lt
  replace hbw : Below w.heap.size w w2 := btrans hbw hst
  clear hst hst0 hb lKi cKi0 cKi1 cKi2 cKi3 lKm cKm0 cKm1 cKm2 cKm3 cKm4 cKm5 lKz cKz0 cKz1 cKz2 fKz0 fKz1 fKz2
  have lKi := Ki.lt
  have cKi0 := Ki.cell 0
  have cKi1 := Ki.cell 1
  have cKi2 := Ki.cell 2
  have cKi3 := Ki.cell 3
  have lKm := Km.lt
  have cKm0 := Km.cell 0
  have cKm1 := Km.cell 1
  have cKm2 := Km.cell 2
  have cKm3 := Km.cell 3
  have cKm4 := Km.cell 4
  have cKm5 := Km.cell 5
  have lKz := Kz.lt
  have cKz0 := Kz.cell 0
  have cKz1 := Kz.cell 1
  have cKz2 := Kz.cell 2
  have fKz0 := Kz.frozen 0
  have fKz1 := Kz.frozen 1
  have fKz2 := Kz.frozen 2
  simp only [List.getElem?_toArray, List.getElem?_cons_succ, List.getElem?_cons_zero] at cKi0 cKi1 cKi2 cKi3 cKm0 cKm1 cKm2 cKm3 cKm4 cKm5 cKz0 cKz1 cKz2
  go_wp2_with fail
  refine (HSW.out _).mono ?_
  rintro e_ w_ ⟨rfl, rfl⟩
  go_wp2_with fail
  refine (HSH.out _).mono ?_
  rintro e_ w_ ⟨rfl, rfl⟩
  go_wp2_with fail
  have hst0 : Below w2.heap.size w2 w2 := by (repeat' (first | exact Below.refl _ _ | exact Below.refl _ _ | refine balloc ?_ _ | refine Below.drew ?_ | refine below_drewN ?_ _ | refine bset ?_ (by first | omega | (simp <;> omega)) _))
  refine (HDT.out _).mono ?_
  rintro e_ w3 ⟨rfl, hb⟩
  have hst : Below w2.heap.size w2 w3 := btrans hst0 hb
  replace Ki := Ki.below hb Ki.lt
  replace Km := Km.below hb Km.lt
  replace Kz := Kz.below hb Kz.lt
  replace hbw : Below w.heap.size w w3 := btrans hbw hst
  clear hst hst0 hb lKi cKi0 cKi1 cKi2 cKi3 lKm cKm0 cKm1 cKm2 cKm3 cKm4 cKm5 lKz cKz0 cKz1 cKz2 fKz0 fKz1 fKz2
  have lKi := Ki.lt
  have cKi0 := Ki.cell 0
  have cKi1 := Ki.cell 1
  have cKi2 := Ki.cell 2
  have cKi3 := Ki.cell 3
  have lKm := Km.lt
  have cKm0 := Km.cell 0
  have cKm1 := Km.cell 1
  have cKm2 := Km.cell 2
  have cKm3 := Km.cell 3
  have cKm4 := Km.cell 4
  have cKm5 := Km.cell 5
  have lKz := Kz.lt
  have cKz0 := Kz.cell 0
  have cKz1 := Kz.cell 1
  have cKz2 := Kz.cell 2
  have fKz0 := Kz.frozen 0
  have fKz1 := Kz.frozen 1
  have fKz2 := Kz.frozen 2
  simp only [List.getElem?_toArray, List.getElem?_cons_succ, List.getElem?_cons_zero] at cKi0 cKi1 cKi2 cKi3 cKm0 cKm1 cKm2 cKm3 cKm4 cKm5 cKz0 cKz1 cKz2
  have HKz := Lib.hid Kz
  have HBW := Lib.hid hbw
  clear Kz hbw
  go_wp2_with fail
  have K := ((HKz.out.set_ 0 (.int .i64 0)).set_ 1 (.int .i64 0)).set_ 2 (.slice none 0 0)
  refine ret_struct2 (g := w.heap.size + 1 + 1) (t := 51) (cs := #[.int .i64 0, .int .i64 0, .slice none 0 0]) rfl rfl ?_ Try.underlying51 rfl rfl rfl ?_
  · first | exact K | exact K.alloc _
  · exact ⟨rfl, by (repeat' (first | refine bset ?_ (by first | omega | (simp <;> omega)) _ | refine balloc ?_ _ | refine Below.drew ?_ | refine below_drewN ?_ _ | exact HBW.out | exact Below.refl _ _))⟩
set_option maxRecDepth 100000 in
set_option maxHeartbeats 3200000 in
theorem rpaint_det0 (IW IH IB ma mb mc md me mf : Int) (s : ByteArray) (W H n c d : Nat) (A D : Option Addr) (R : Nat → Nat → Bool) (w : World) (hW : 1 ≤ W ∧ W ≤ 64) (hH : 1 ≤ H ∧ H ≤ 64) (hn : n = 3 * (W * H)) (hs : (s.size : Int) ≤ 9223372036854775807) (hi : mayI IW IH IB s.size = true) (hm : mt.mayB ma mb mc md me mf = true) (ht : ma * md - mb * mc = 0) (hr : rg.Rows w D H d (rowsOf W R)) :
    Calls Try.prog 40 #[.agg #[.int .i64 (W : Int), .int .i64 (H : Int), .slice A n c], .agg #[.int .i64 IW, .int .i64 IH, .int .i64 IB, .string s], .agg #[.int .i64 ma, .int .i64 mb, .int .i64 mc, .int .i64 md, .int .i64 me, .int .i64 mf], .agg #[.int .i64 (W : Int), .int .i64 (H : Int), .slice D H d]] w fun e w' => e = .returned (.tuple #[.agg #[.int .i64 0, .int .i64 0, .slice none 0 0], .int .i64 14]) ∧ Below w.heap.size w w' := by
  have HMI := Lib.hid (fun W' => by have := rmay37_any IW IH IB s W' hs; rwa [hi] at this)
  have HMM := Lib.hid (fun W' => by have := mt.rmay_any ma mb mc md me mf W'; rwa [hm] at this)
  have HDT := Lib.hid (fun W' => by have := mt.rdet_any ma mb mc md me mf W' hm; rwa [ht] at this)
  have HF := Lib.hid (fun W' hr => fair_yes W H n c d A D R W' hW hH hn hr)
  have HR := Lib.hid hr
  clear hs hi hm ht hW hH hn hr
  go_enter Try.func40, Try.ntmps40
  go_wp2_with fail
  have hst0 : Below w.heap.size w (((((w.alloc (.cells #[.int .i64 (W : Int), .int .i64 (H : Int), .slice A n c] 46)).alloc (.cells #[.int .i64 IW, .int .i64 IH, .int .i64 IB, .string s] 23)).alloc (.cells #[.int .i64 ma, .int .i64 mb, .int .i64 mc, .int .i64 md, .int .i64 me, .int .i64 mf] 25)).alloc (.cells #[.int .i64 (W : Int), .int .i64 (H : Int), .slice D H d] 51)).alloc (.cells #[.int .i64 0, .int .i64 0, .slice none 0 0] 46)) := by (repeat' (first | exact Below.refl _ _ | exact Below.refl _ _ | refine balloc ?_ _ | refine Below.drew ?_ | refine below_drewN ?_ _ | refine bset ?_ (by first | omega | (simp <;> omega)) _))
  refine (HMI.out _).mono ?_
  rintro e_ w1 ⟨rfl, hb⟩
  have hst : Below w.heap.size w w1 := btrans hst0 hb
  have Kp := (((((Blk.new w 46 #[.int .i64 (W : Int), .int .i64 (H : Int), .slice A n c]).alloc (.cells #[.int .i64 IW, .int .i64 IH, .int .i64 IB, .string s] 23)).alloc (.cells #[.int .i64 ma, .int .i64 mb, .int .i64 mc, .int .i64 md, .int .i64 me, .int .i64 mf] 25)).alloc (.cells #[.int .i64 (W : Int), .int .i64 (H : Int), .slice D H d] 51)).alloc (.cells #[.int .i64 0, .int .i64 0, .slice none 0 0] 46))
  have Ki := ((((Blk.new (w.alloc (.cells #[.int .i64 (W : Int), .int .i64 (H : Int), .slice A n c] 46)) 23 #[.int .i64 IW, .int .i64 IH, .int .i64 IB, .string s]).alloc (.cells #[.int .i64 ma, .int .i64 mb, .int .i64 mc, .int .i64 md, .int .i64 me, .int .i64 mf] 25)).alloc (.cells #[.int .i64 (W : Int), .int .i64 (H : Int), .slice D H d] 51)).alloc (.cells #[.int .i64 0, .int .i64 0, .slice none 0 0] 46))
  have hz_Ki : (w.alloc (.cells #[.int .i64 (W : Int), .int .i64 (H : Int), .slice A n c] 46)).heap.size = w.heap.size + 1 := by simp
  rw [hz_Ki] at Ki
  clear hz_Ki
  have Km := (((Blk.new ((w.alloc (.cells #[.int .i64 (W : Int), .int .i64 (H : Int), .slice A n c] 46)).alloc (.cells #[.int .i64 IW, .int .i64 IH, .int .i64 IB, .string s] 23)) 25 #[.int .i64 ma, .int .i64 mb, .int .i64 mc, .int .i64 md, .int .i64 me, .int .i64 mf]).alloc (.cells #[.int .i64 (W : Int), .int .i64 (H : Int), .slice D H d] 51)).alloc (.cells #[.int .i64 0, .int .i64 0, .slice none 0 0] 46))
  have hz_Km : ((w.alloc (.cells #[.int .i64 (W : Int), .int .i64 (H : Int), .slice A n c] 46)).alloc (.cells #[.int .i64 IW, .int .i64 IH, .int .i64 IB, .string s] 23)).heap.size = w.heap.size + 1 + 1 := by simp
  rw [hz_Km] at Km
  clear hz_Km
  have Kr := ((Blk.new (((w.alloc (.cells #[.int .i64 (W : Int), .int .i64 (H : Int), .slice A n c] 46)).alloc (.cells #[.int .i64 IW, .int .i64 IH, .int .i64 IB, .string s] 23)).alloc (.cells #[.int .i64 ma, .int .i64 mb, .int .i64 mc, .int .i64 md, .int .i64 me, .int .i64 mf] 25)) 51 #[.int .i64 (W : Int), .int .i64 (H : Int), .slice D H d]).alloc (.cells #[.int .i64 0, .int .i64 0, .slice none 0 0] 46))
  have hz_Kr : (((w.alloc (.cells #[.int .i64 (W : Int), .int .i64 (H : Int), .slice A n c] 46)).alloc (.cells #[.int .i64 IW, .int .i64 IH, .int .i64 IB, .string s] 23)).alloc (.cells #[.int .i64 ma, .int .i64 mb, .int .i64 mc, .int .i64 md, .int .i64 me, .int .i64 mf] 25)).heap.size = w.heap.size + 1 + 1 + 1 := by simp
  rw [hz_Kr] at Kr
  clear hz_Kr
  have Kz := (Blk.new ((((w.alloc (.cells #[.int .i64 (W : Int), .int .i64 (H : Int), .slice A n c] 46)).alloc (.cells #[.int .i64 IW, .int .i64 IH, .int .i64 IB, .string s] 23)).alloc (.cells #[.int .i64 ma, .int .i64 mb, .int .i64 mc, .int .i64 md, .int .i64 me, .int .i64 mf] 25)).alloc (.cells #[.int .i64 (W : Int), .int .i64 (H : Int), .slice D H d] 51)) 46 #[.int .i64 0, .int .i64 0, .slice none 0 0])
  have hz_Kz : ((((w.alloc (.cells #[.int .i64 (W : Int), .int .i64 (H : Int), .slice A n c] 46)).alloc (.cells #[.int .i64 IW, .int .i64 IH, .int .i64 IB, .string s] 23)).alloc (.cells #[.int .i64 ma, .int .i64 mb, .int .i64 mc, .int .i64 md, .int .i64 me, .int .i64 mf] 25)).alloc (.cells #[.int .i64 (W : Int), .int .i64 (H : Int), .slice D H d] 51)).heap.size = w.heap.size + 1 + 1 + 1 + 1 := by simp
  rw [hz_Kz] at Kz
  clear hz_Kz
  replace Kp := Kp.below hb Kp.lt
  replace Ki := Ki.below hb Ki.lt
  replace Km := Km.below hb Km.lt
  replace Kr := Kr.below hb Kr.lt
  replace Kz := Kz.below hb Kz.lt
  have hbw : Below w.heap.size w w1 := hst
  replace HR := Lib.hid (HR.out.below hst)
  clear hst hst0 hb 
  have lKp := Kp.lt
  have cKp0 := Kp.cell 0
  have cKp1 := Kp.cell 1
  have cKp2 := Kp.cell 2
  have lKi := Ki.lt
  have cKi0 := Ki.cell 0
  have cKi1 := Ki.cell 1
  have cKi2 := Ki.cell 2
  have cKi3 := Ki.cell 3
  have lKm := Km.lt
  have cKm0 := Km.cell 0
  have cKm1 := Km.cell 1
  have cKm2 := Km.cell 2
  have cKm3 := Km.cell 3
  have cKm4 := Km.cell 4
  have cKm5 := Km.cell 5
  have lKr := Kr.lt
  have cKr0 := Kr.cell 0
  have cKr1 := Kr.cell 1
  have cKr2 := Kr.cell 2
  have lKz := Kz.lt
  have cKz0 := Kz.cell 0
  have cKz1 := Kz.cell 1
  have cKz2 := Kz.cell 2
  have fKz0 := Kz.frozen 0
  have fKz1 := Kz.frozen 1
  have fKz2 := Kz.frozen 2
  simp only [List.getElem?_toArray, List.getElem?_cons_succ, List.getElem?_cons_zero] at cKp0 cKp1 cKp2 cKi0 cKi1 cKi2 cKi3 cKm0 cKm1 cKm2 cKm3 cKm4 cKm5 cKr0 cKr1 cKr2 cKz0 cKz1 cKz2
  go_wp2_with fail
  have hst0 : Below w1.heap.size w1 w1 := by (repeat' (first | exact Below.refl _ _ | exact Below.refl _ _ | refine balloc ?_ _ | refine Below.drew ?_ | refine below_drewN ?_ _ | refine bset ?_ (by first | omega | (simp <;> omega)) _))
  refine (HMM.out _).mono ?_
  rintro e_ w2 ⟨rfl, hb⟩
  have hst : Below w1.heap.size w1 w2 := btrans hst0 hb
  replace Kp := Kp.below hb Kp.lt
  replace Ki := Ki.below hb Ki.lt
  replace Km := Km.below hb Km.lt
  replace Kr := Kr.below hb Kr.lt
  replace Kz := Kz.below hb Kz.lt
  replace hbw : Below w.heap.size w w2 := btrans hbw hst
  replace HR := Lib.hid (HR.out.below hst)
  clear hst hst0 hb lKp cKp0 cKp1 cKp2 lKi cKi0 cKi1 cKi2 cKi3 lKm cKm0 cKm1 cKm2 cKm3 cKm4 cKm5 lKr cKr0 cKr1 cKr2 lKz cKz0 cKz1 cKz2 fKz0 fKz1 fKz2
  have lKp := Kp.lt
  have cKp0 := Kp.cell 0
  have cKp1 := Kp.cell 1
  have cKp2 := Kp.cell 2
  have lKi := Ki.lt
  have cKi0 := Ki.cell 0
  have cKi1 := Ki.cell 1
  have cKi2 := Ki.cell 2
  have cKi3 := Ki.cell 3
  have lKm := Km.lt
  have cKm0 := Km.cell 0
  have cKm1 := Km.cell 1
  have cKm2 := Km.cell 2
  have cKm3 := Km.cell 3
  have cKm4 := Km.cell 4
  have cKm5 := Km.cell 5
  have lKr := Kr.lt
  have cKr0 := Kr.cell 0
  have cKr1 := Kr.cell 1
  have cKr2 := Kr.cell 2
  have lKz := Kz.lt
  have cKz0 := Kz.cell 0
  have cKz1 := Kz.cell 1
  have cKz2 := Kz.cell 2
  have fKz0 := Kz.frozen 0
  have fKz1 := Kz.frozen 1
  have fKz2 := Kz.frozen 2
  simp only [List.getElem?_toArray, List.getElem?_cons_succ, List.getElem?_cons_zero] at cKp0 cKp1 cKp2 cKi0 cKi1 cKi2 cKi3 cKm0 cKm1 cKm2 cKm3 cKm4 cKm5 cKr0 cKr1 cKr2 cKz0 cKz1 cKz2
  go_wp2_with fail
  have hst0 : Below w2.heap.size w2 w2 := by (repeat' (first | exact Below.refl _ _ | exact Below.refl _ _ | refine balloc ?_ _ | refine Below.drew ?_ | refine below_drewN ?_ _ | refine bset ?_ (by first | omega | (simp <;> omega)) _))
  refine (HF.out _ (HR.out.below hst0)).mono ?_
  rintro e_ w3 ⟨rfl, hb⟩
  have hst : Below w2.heap.size w2 w3 := btrans hst0 hb
  replace Kp := Kp.below hb Kp.lt
  replace Ki := Ki.below hb Ki.lt
  replace Km := Km.below hb Km.lt
  replace Kr := Kr.below hb Kr.lt
  replace Kz := Kz.below hb Kz.lt
  replace hbw : Below w.heap.size w w3 := btrans hbw hst
  replace HR := Lib.hid (HR.out.below hst)
  clear hst hst0 hb lKp cKp0 cKp1 cKp2 lKi cKi0 cKi1 cKi2 cKi3 lKm cKm0 cKm1 cKm2 cKm3 cKm4 cKm5 lKr cKr0 cKr1 cKr2 lKz cKz0 cKz1 cKz2 fKz0 fKz1 fKz2
  have lKp := Kp.lt
  have cKp0 := Kp.cell 0
  have cKp1 := Kp.cell 1
  have cKp2 := Kp.cell 2
  have lKi := Ki.lt
  have cKi0 := Ki.cell 0
  have cKi1 := Ki.cell 1
  have cKi2 := Ki.cell 2
  have cKi3 := Ki.cell 3
  have lKm := Km.lt
  have cKm0 := Km.cell 0
  have cKm1 := Km.cell 1
  have cKm2 := Km.cell 2
  have cKm3 := Km.cell 3
  have cKm4 := Km.cell 4
  have cKm5 := Km.cell 5
  have lKr := Kr.lt
  have cKr0 := Kr.cell 0
  have cKr1 := Kr.cell 1
  have cKr2 := Kr.cell 2
  have lKz := Kz.lt
  have cKz0 := Kz.cell 0
  have cKz1 := Kz.cell 1
  have cKz2 := Kz.cell 2
  have fKz0 := Kz.frozen 0
  have fKz1 := Kz.frozen 1
  have fKz2 := Kz.frozen 2
  simp only [List.getElem?_toArray, List.getElem?_cons_succ, List.getElem?_cons_zero] at cKp0 cKp1 cKp2 cKi0 cKi1 cKi2 cKi3 cKm0 cKm1 cKm2 cKm3 cKm4 cKm5 cKr0 cKr1 cKr2 cKz0 cKz1 cKz2
  go_wp2_with fail
  have hst0 : Below w3.heap.size w3 w3 := by (repeat' (first | exact Below.refl _ _ | exact Below.refl _ _ | refine balloc ?_ _ | refine Below.drew ?_ | refine below_drewN ?_ _ | refine bset ?_ (by first | omega | (simp <;> omega)) _))
  refine (HDT.out _).mono ?_
  rintro e_ w4 ⟨rfl, hb⟩
  have hst : Below w3.heap.size w3 w4 := btrans hst0 hb
  replace Kp := Kp.below hb Kp.lt
  replace Ki := Ki.below hb Ki.lt
  replace Km := Km.below hb Km.lt
  replace Kr := Kr.below hb Kr.lt
  replace Kz := Kz.below hb Kz.lt
  replace hbw : Below w.heap.size w w4 := btrans hbw hst
  replace HR := Lib.hid (HR.out.below hst)
  clear hst hst0 hb lKp cKp0 cKp1 cKp2 lKi cKi0 cKi1 cKi2 cKi3 lKm cKm0 cKm1 cKm2 cKm3 cKm4 cKm5 lKr cKr0 cKr1 cKr2 lKz cKz0 cKz1 cKz2 fKz0 fKz1 fKz2
  have lKp := Kp.lt
  have cKp0 := Kp.cell 0
  have cKp1 := Kp.cell 1
  have cKp2 := Kp.cell 2
  have lKi := Ki.lt
  have cKi0 := Ki.cell 0
  have cKi1 := Ki.cell 1
  have cKi2 := Ki.cell 2
  have cKi3 := Ki.cell 3
  have lKm := Km.lt
  have cKm0 := Km.cell 0
  have cKm1 := Km.cell 1
  have cKm2 := Km.cell 2
  have cKm3 := Km.cell 3
  have cKm4 := Km.cell 4
  have cKm5 := Km.cell 5
  have lKr := Kr.lt
  have cKr0 := Kr.cell 0
  have cKr1 := Kr.cell 1
  have cKr2 := Kr.cell 2
  have lKz := Kz.lt
  have cKz0 := Kz.cell 0
  have cKz1 := Kz.cell 1
  have cKz2 := Kz.cell 2
  have fKz0 := Kz.frozen 0
  have fKz1 := Kz.frozen 1
  have fKz2 := Kz.frozen 2
  simp only [List.getElem?_toArray, List.getElem?_cons_succ, List.getElem?_cons_zero] at cKp0 cKp1 cKp2 cKi0 cKi1 cKi2 cKi3 cKm0 cKm1 cKm2 cKm3 cKm4 cKm5 cKr0 cKr1 cKr2 cKz0 cKz1 cKz2
  have HKz := Lib.hid Kz
  have HBW := Lib.hid hbw
  clear Kz hbw
  go_wp2_with fail
  have K := ((HKz.out.set_ 0 (.int .i64 0)).set_ 1 (.int .i64 0)).set_ 2 (.slice none 0 0)
  refine ret_struct2 (g := w.heap.size + 1 + 1 + 1 + 1) (t := 46) (cs := #[.int .i64 0, .int .i64 0, .slice none 0 0]) rfl rfl ?_ Try.underlying46 rfl rfl rfl ?_
  · first | exact K | exact K.alloc _
  · exact ⟨rfl, by (repeat' (first | refine bset ?_ (by first | omega | (simp <;> omega)) _ | refine balloc ?_ _ | refine Below.drew ?_ | refine below_drewN ?_ _ | exact HBW.out | exact Below.refl _ _))⟩
end Go.Proofs.Ytegpjjkbbdfggaa.im

/-
  The contract of tympanhelp.Same at runs; the reference's Two.
-/
namespace Go.Proofs.Ytegpjjkbbdfggaa.sp
set_option linter.unusedVariables false
set_option linter.unusedSimpArgs false
open Go.RowKit bs

theorem same_step {l m : List (Int × Int)} {k : Nat} (hl : k < l.length) (hm : k < m.length) (h : l.take k = m.take k) (e1 : l[k].1 = m[k].1) (e2 : l[k].2 = m[k].2) : l.take (k + 1) = m.take (k + 1) := by
  rw [List.take_succ_eq_append_getElem hl, List.take_succ_eq_append_getElem hm, h]
  congr 2
  exact Prod.ext e1 e2

set_option maxRecDepth 100000 in
set_option maxHeartbeats 1600000 in
theorem same_any (A B : Option Addr) (n c m d : Nat) (l k : List (Int × Int)) (w : World) (hl : Runs w A n c l) (hk : Runs w B m d k) (hn : n ≤ 9223372036854775807) (hm : m ≤ 9223372036854775807) :
    Calls Try.prog 118 #[.slice A n c, .slice B m d] w fun e w' => e = .returned (.bool (decide (l = k))) ∧ Below w.heap.size w w' := by
  by_cases hnm : n = m
  · subst hnm
    go_enter Try.func118, Try.ntmps118
    go_wp2_with fail
    go_loopw [5] (fun iv wr => ∃ i : Nat, i ≤ n ∧ iv = .int .i64 i ∧ Hid (l.take i = k.take i) ∧ ∃ q, wr = w.drewN q) (fun iv _ => n - (intOf iv).toNat)
    case atStart => exact ⟨0, by omega, rfl, rfl, 0, rfl⟩
    case round =>
      obtain ⟨i, hi, rfl, heq, q, rfl⟩ := hrel
      by_cases hlt : i < n
      · obtain ⟨hl1, hl2, hlc⟩ := hl
        obtain ⟨b1, o1, rfl, hb1, hlc⟩ := hlc (by omega)
        obtain ⟨hk1, hk2, hkc⟩ := hk
        obtain ⟨b2, o2, rfl, hb2, hkc⟩ := hkc (by omega)
        obtain ⟨c1, c2⟩ := hlc i (by omega)
        obtain ⟨c3, c4⟩ := hkc i (by omega)
        have hstep := same_step (l := l) (m := k) (k := i) (by omega) (by omega) heq.out
        have hno1 : l = k → l[i].1 = k[i].1 ∧ l[i].2 = k[i].2 := fun e => by subst e; exact ⟨rfl, rfl⟩
        generalize l[i].1 = x1 at *
        generalize l[i].2 = y1 at *
        generalize k[i].1 = x2 at *
        generalize k[i].2 = y2 at *
        have HST := Lib.hid hstep
        have HNO := Lib.hid hno1
        have hi2 : (i : Int) < (n : Int) := by omega
        clear hstep hno1 hlc hkc hl1 hk1
        by_cases e1 : x1 = x2
        · have b1 : (x1 == x2) = true := by simp [e1]
          by_cases e2 : y1 = y2
          · have b2 : (y1 == y2) = true := by simp [e2]
            have hnext := Lib.hid (HST.out e1 e2)
            clear e1 e2
            go_wp2_with fail
            go_quiet (fail)
            go_wp2_with fail
            go_roundw
            case rel => exact ⟨i + 1, by omega, by go_num, hnext, _, rfl⟩
            case measure => simp [intOf]; omega
          · have b2 : (y1 == y2) = false := by simp [e2]
            have hf : decide (l = k) = false := by simp; intro e; exact e2 (HNO.out e).2
            have HF := Lib.hid hf
            clear e1 e2 hf
            go_wp2_with fail
            go_quiet (fail)
            go_wp2_with fail
            go_ret
            exact ⟨ret_bool HF.out.symm, by (repeat' (first | exact Below.refl _ _ | exact Below.refl _ _ | refine balloc ?_ _ | refine Below.drew ?_ | refine below_drewN ?_ _ | refine bset ?_ (by first | omega | (simp <;> omega)) _))⟩
        · have b1 : (x1 == x2) = false := by simp [e1]
          have hf : decide (l = k) = false := by simp; intro e; exact e1 (HNO.out e).1
          have HF := Lib.hid hf
          clear e1 hf
          go_wp2_with fail
          go_quiet (fail)
          go_wp2_with fail
          go_ret
          exact ⟨ret_bool HF.out.symm, by (repeat' (first | exact Below.refl _ _ | exact Below.refl _ _ | refine balloc ?_ _ | refine Below.drew ?_ | refine below_drewN ?_ _ | refine bset ?_ (by first | omega | (simp <;> omega)) _))⟩
      · obtain rfl : i = n := by omega
        have ht : l = k := by
          have h1 := heq.out
          rwa [List.take_of_length_le (by have := hl.1; omega), List.take_of_length_le (by have := hk.1; omega)] at h1
        have HT := Lib.hid ht
        clear ht
        go_wp2_with fail
        go_ret
        exact ⟨ret_bool (by simp [HT.out]), by (repeat' (first | exact Below.refl _ _ | exact Below.refl _ _ | refine balloc ?_ _ | refine Below.drew ?_ | refine below_drewN ?_ _ | refine bset ?_ (by first | omega | (simp <;> omega)) _))⟩
  · have he : decide (l = k) = false := by simp; intro e; exact hnm (by rw [← hl.1, ← hk.1, e])
    rw [he]
    clear he
    have d1 : ((n : Int) != (m : Int)) = true := by rw [bne_iff_ne]; omega
    clear hnm
    go_enter Try.func118, Try.ntmps118
    go_wp2_with fail
    go_ret
    exact ⟨rfl, Below.refl _ _⟩
end Go.Proofs.Ytegpjjkbbdfggaa.sp

/-
  tympanhelp's Page and Region of two that are alike.
-/
namespace Go.Proofs.Ytegpjjkbbdfggaa.im
set_option linter.unusedVariables false
set_option linter.unusedSimpArgs false
open Go.RowKit bs sp rg

set_option maxRecDepth 100000 in
set_option maxHeartbeats 1600000 in
theorem hbytes_same (n c d : Nat) (A D : Option Addr) (B : Nat → Int) (w : World) (hp : Pg w A n c B) (hq : Pg w D n d B) :
    Calls Try.prog 82 #[.slice A n c, .slice D n d] w fun e w' => e = .returned (.bool true) ∧ Below w.heap.size w w' := by
  have S1 := hp.str
  have S2 := hq.str
  obtain ⟨s, hs⟩ : ∃ s : ByteArray, ⟨(listB n B).toArray⟩ = s := ⟨_, rfl⟩
  rw [hs] at S1 S2
  clear hs hp hq
  go_enter Try.func82, Try.ntmps82
  go_wp2_with fail
  go_ret
  exact ⟨by simp, Below.refl _ _⟩
set_option maxRecDepth 100000 in
set_option maxHeartbeats 1600000 in
theorem hpage_same (W H : Int) (n c d : Nat) (A D : Option Addr) (B C : Nat → Int) (w : World) (hp : Pg w A n c B) (hq : Pg w D n d C) (hBC : ∀ j, j < n → B j = C j) :
    Calls Try.prog 42 #[.agg #[.int .i64 W, .int .i64 H, .slice A n c], .agg #[.int .i64 W, .int .i64 H, .slice D n d]] w fun e w' => e = .returned (.bool true) ∧ Below w.heap.size w w' := by
  have hq2 := hq.ext fun j hj => (hBC j hj).symm
  have HB := Lib.hid (fun W' (hW' : Below w.heap.size w W') => hbytes_same n c d A D B W' (hp.below hW') (hq2.below hW'))
  clear hq2 hBC hp hq
  go_enter Try.func42, Try.ntmps42
  go_wp2_with fail
  refine (HB.out _ (by (repeat' (first | exact Below.refl _ _ | exact Below.refl _ _ | refine balloc ?_ _ | refine Below.drew ?_ | refine below_drewN ?_ _ | refine bset ?_ (by first | omega | (simp <;> omega)) _)))).mono ?_
  rintro e_ w1 ⟨rfl, hb1⟩
  have hbw : Below w.heap.size w w1 := btrans (by (repeat' (first | exact Below.refl _ _ | exact Below.refl _ _ | refine balloc ?_ _ | refine Below.drew ?_ | refine below_drewN ?_ _ | refine bset ?_ (by first | omega | (simp <;> omega)) _))) hb1
  clear hb1 HB
  go_wp2_with fail
  go_ret
  exact ⟨rfl, hbw⟩

set_option maxRecDepth 100000 in
set_option maxHeartbeats 3200000 in
theorem hrows_same (W H c d : Nat) (A D : Option Addr) (R : Nat → Nat → Bool) (w : World) (hH : 1 ≤ H ∧ H ≤ 64) (ha : rg.Rows w A H c (rowsOf W R)) (hb : rg.Rows w D H d (rowsOf W R)) :
    Calls Try.prog 81 #[.slice A H c, .slice D H d] w fun e w' => e = .returned (.bool true) ∧ Below w.heap.size w w' := by
  obtain ⟨hac, ha⟩ := ha
  obtain ⟨ab, ao, rfl, hal, ha⟩ := ha (by omega)
  obtain ⟨hbc, hb⟩ := hb
  obtain ⟨bb, bo, rfl, hbl, hb⟩ := hb (by omega)
  have HA := Lib.hid ha
  have HB := Lib.hid hb
  obtain ⟨h0, h1⟩ := hH
  clear ha hb
  go_enter Try.func81, Try.ntmps81
  go_wp2_with fail
  go_loopw [5] (fun kv wr => ∃ k : Nat, k ≤ H ∧ kv = .int .i64 (k : Int) ∧ Below w.heap.size w wr) (fun kv _ => H - (intOf kv).toNat)
  case atStart => exact ⟨0, by omega, rfl, Below.refl _ _⟩
  case round =>
    obtain ⟨k, hk, rfl, hbw⟩ := hrel
    by_cases hlt : k < H
    · have d1 : decide ((k : Int) < (H : Int)) = true := by simp; omega
      obtain ⟨hlen, A1, c1, q1, r1⟩ := HA.out k hlt
      obtain ⟨_, A2, c2, q2, r2⟩ := HB.out k hlt
      have hki : (k : Int) < (H : Int) := by omega
      have hkn : ((k : Int)).toNat = k := by omega
      have U1 := fun u : Up wr => ((u.cell (p := ⟨ab, ao + k, none⟩) (Nat.lt_of_lt_of_le hal hbw.size)).trans (hbw.cell (p := ⟨ab, ao + k, none⟩) hal)).trans q1
      have U2 := fun u : Up wr => ((u.cell (p := ⟨bb, bo + k, none⟩) (Nat.lt_of_lt_of_le hbl hbw.size)).trans (hbw.cell (p := ⟨bb, bo + k, none⟩) hbl)).trans q2
      have HU := Lib.hid (fun u : Up wr => up_of (u := u) (by
        have h3 := same_any A1 A2 _ c1 _ c2 _ _ u.val (r1.below (btrans hbw u.ok)) (r2.below (btrans hbw u.ok)) hlen hlen
        simp only [decide_true] at h3
        exact h3.mono fun e w' h4 => ⟨h4.1, h4.2⟩))
      obtain ⟨ln, hln⟩ : ∃ ln, (rowsOf W R k).length = ln := ⟨_, rfl⟩
      rw [hln] at U1 U2 HU
      have HBW := Lib.hid hbw
      clear hlen q1 q2 r1 r2 hln hbw
      go_wp2_with fail
      (refine wp_region_up (by kernel_rfl) (by kernel_rfl) ?_; (repeat (go_big_quiet_step (exact HU.out _))); refine wpQuiet_nil ?_; rintro _ ⟨uq, rfl⟩)
      have HB2 := Lib.hid (btrans HBW.out uq.ok)
      generalize hwx : uq.val = wz at *
      clear hwx uq U1 U2 HU HBW
      go_wp2_with fail
      go_roundw
      case rel => exact ⟨k + 1, by omega, by go_num, HB2.out⟩
      case measure => simp [intOf]; omega
    · obtain rfl : k = H := by omega
      have d1 : decide ((k : Int) < (k : Int)) = false := by simp
      go_wp2_with fail
      go_ret
      exact ⟨rfl, hbw⟩
set_option maxRecDepth 100000 in
set_option maxHeartbeats 1600000 in
theorem hregion_same (W H c d : Nat) (A D : Option Addr) (R S : Nat → Nat → Bool) (w : World) (hH : 1 ≤ H ∧ H ≤ 64) (ha : rg.Rows w A H c (rowsOf W R)) (hb : rg.Rows w D H d (rowsOf W S)) (hRS : ∀ j, j < H → ∀ i, i < W → R j i = S j i) :
    Calls Try.prog 41 #[.agg #[.int .i64 (W : Int), .int .i64 (H : Int), .slice A H c], .agg #[.int .i64 (W : Int), .int .i64 (H : Int), .slice D H d]] w fun e w' => e = .returned (.bool true) ∧ Below w.heap.size w w' := by
  replace hb : rg.Rows w D H d (rowsOf W R) := hb.ext fun j hj => (rowsOf_ext (fun i hi => hRS j hj i hi)).symm
  have HB := Lib.hid (fun W' (hW' : Below w.heap.size w W') => hrows_same W H c d A D R W' hH (ha.below hW') (hb.below hW'))
  clear hRS ha hb
  go_enter Try.func41, Try.ntmps41
  go_wp2_with fail
  refine (HB.out _ (by (repeat' (first | exact Below.refl _ _ | exact Below.refl _ _ | refine balloc ?_ _ | refine Below.drew ?_ | refine below_drewN ?_ _ | refine bset ?_ (by first | omega | (simp <;> omega)) _)))).mono ?_
  rintro e_ w1 ⟨rfl, hb1⟩
  have hbw : Below w.heap.size w w1 := btrans (by (repeat' (first | exact Below.refl _ _ | exact Below.refl _ _ | refine balloc ?_ _ | refine Below.drew ?_ | refine below_drewN ?_ _ | refine bset ?_ (by first | omega | (simp <;> omega)) _))) hb1
  clear hb1 HB
  go_wp2_with fail
  go_ret
  exact ⟨rfl, hbw⟩
set_option maxRecDepth 100000 in
set_option maxHeartbeats 1600000 in
theorem hbytes_nil (w : World) : Calls Try.prog 82 #[.slice none 0 0, .slice none 0 0] w fun e w' => e = .returned (.bool true) ∧ Below w.heap.size w w' := by
  have S1 : (convert 44 9 (.slice none 0 0)).run Try.prog w = .ok (.string ⟨#[]⟩) w := by kernel_rfl
  go_enter Try.func82, Try.ntmps82
  go_wp2_with fail
  go_ret
  exact ⟨by first | rfl | simp, Below.refl _ _⟩
set_option maxRecDepth 100000 in
set_option maxHeartbeats 1600000 in
theorem hpage_nil (w : World) : Calls Try.prog 42 #[.agg #[.int .i64 0, .int .i64 0, .slice none 0 0], .agg #[.int .i64 0, .int .i64 0, .slice none 0 0]] w fun e w' => e = .returned (.bool true) ∧ Below w.heap.size w w' := by
  have HB := Lib.hid (fun W' => hbytes_nil W')
  go_enter Try.func42, Try.ntmps42
  go_wp2_with fail
  refine (HB.out _).mono ?_
  rintro e_ w1 ⟨rfl, hb1⟩
  have hbw : Below w.heap.size w w1 := btrans (by (repeat' (first | exact Below.refl _ _ | exact Below.refl _ _ | refine balloc ?_ _ | refine Below.drew ?_ | refine below_drewN ?_ _ | refine bset ?_ (by first | omega | (simp <;> omega)) _))) hb1
  clear hb1 HB
  go_wp2_with fail
  go_ret
  exact ⟨rfl, hbw⟩
set_option maxRecDepth 100000 in
set_option maxHeartbeats 1600000 in
theorem hrows_nil (w : World) : Calls Try.prog 81 #[.slice none 0 0, .slice none 0 0] w fun e w' => e = .returned (.bool true) ∧ Below w.heap.size w w' := by
  go_enter Try.func81, Try.ntmps81
  go_wp2_with fail
  go_loopw [5] (fun kv wr => kv = .int .i64 0 ∧ Below w.heap.size w wr) (fun _ _ => 0)
  case atStart => exact ⟨rfl, Below.refl _ _⟩
  case round =>
    obtain ⟨rfl, hbw⟩ := hrel
    go_wp2_with fail
    go_ret
    exact ⟨rfl, hbw⟩
set_option maxRecDepth 100000 in
set_option maxHeartbeats 1600000 in
theorem hregion_nil (w : World) : Calls Try.prog 41 #[.agg #[.int .i64 0, .int .i64 0, .slice none 0 0], .agg #[.int .i64 0, .int .i64 0, .slice none 0 0]] w fun e w' => e = .returned (.bool true) ∧ Below w.heap.size w w' := by
  have HB := Lib.hid (fun W' => hrows_nil W')
  go_enter Try.func41, Try.ntmps41
  go_wp2_with fail
  refine (HB.out _).mono ?_
  rintro e_ w1 ⟨rfl, hb1⟩
  have hbw : Below w.heap.size w w1 := btrans (by (repeat' (first | exact Below.refl _ _ | exact Below.refl _ _ | refine balloc ?_ _ | refine Below.drew ?_ | refine below_drewN ?_ _ | refine bset ?_ (by first | omega | (simp <;> omega)) _))) hb1
  clear hb1 HB
  go_wp2_with fail
  go_ret
  exact ⟨rfl, hbw⟩
end Go.Proofs.Ytegpjjkbbdfggaa.im
