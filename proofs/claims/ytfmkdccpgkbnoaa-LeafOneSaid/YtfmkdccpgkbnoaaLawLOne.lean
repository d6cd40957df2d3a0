/-
  LeafOne: two pages have the same bytes just if they are the same page.
-/
import Derived.Test.YtfmkdccpgkbnoaaLeafT
import Derived.Test.YtfmkdccpgkbnoaaLawMade
import Derived.Test.YtfmkdccpgkbnoaaLay
import Derived.Deep.CutRange
import Derived.Deep.RegionHeld3
namespace Go.Proofs.Ytfmkdccpgkbnoaa.lf
set_option linter.unusedVariables false
set_option linter.unusedSimpArgs false
open Go.RowKit bs rg op

/-- a box that a call's world has just made -/
theorem box_in {P : Program} {f : FuncId} {args : Array Value} {w : World} {t : TypeId} {cs : Array Value} {Q : Ending → World → Prop} (h : Blk (w.alloc (.cells cs t)) w.heap.size t cs → Calls P f args (w.alloc (.cells cs t)) Q) : Calls P f args (w.alloc (.cells cs t)) Q := h (Blk.new _ _ _)
theorem box_inD {P : Program} {f : FuncId} {args : Array Value} {w : World} {t : TypeId} {cs : Array Value} {Q : Ending → World → Prop} (h : Blk (w.alloc (.cells cs t)).drew w.heap.size t cs → Calls P f args (w.alloc (.cells cs t)).drew Q) : Calls P f args (w.alloc (.cells cs t)).drew Q := h (Blk.drew (Blk.new _ _ _))
def S6 (W0 : World) (b : Nat) (v0 v1 v2 : Value) (d : Nat) (u0 u1 u2 : Value) (a : World) : Prop :=
  Below W0.heap.size W0 a ∧ a.cell? ⟨b, 0, none⟩ = some v0 ∧ a.cell? ⟨b, 1, none⟩ = some v1 ∧ a.cell? ⟨b, 2, none⟩ = some v2 ∧ a.cell? ⟨d, 0, none⟩ = some u0 ∧ a.cell? ⟨d, 1, none⟩ = some u1 ∧ a.cell? ⟨d, 2, none⟩ = some u2
theorem keepL6 {W0 a w' : World} {b d : Nat} {v0 v1 v2 u0 u1 u2 : Value} (hb : Below a.heap.size a w') (h : Below W0.heap.size W0 a ∧ a.cell? ⟨b, 0, none⟩ = some v0 ∧ a.cell? ⟨b, 1, none⟩ = some v1 ∧ a.cell? ⟨b, 2, none⟩ = some v2 ∧ a.cell? ⟨d, 0, none⟩ = some u0 ∧ a.cell? ⟨d, 1, none⟩ = some u1 ∧ a.cell? ⟨d, 2, none⟩ = some u2) :
    Below W0.heap.size W0 w' ∧ w'.cell? ⟨b, 0, none⟩ = some v0 ∧ w'.cell? ⟨b, 1, none⟩ = some v1 ∧ w'.cell? ⟨b, 2, none⟩ = some v2 ∧ w'.cell? ⟨d, 0, none⟩ = some u0 ∧ w'.cell? ⟨d, 1, none⟩ = some u1 ∧ w'.cell? ⟨d, 2, none⟩ = some u2 := by
  obtain ⟨h1, h2, h3, h4, h5, h6, h7⟩ := h
  exact ⟨btrans h1 hb, (hb.cell (p := ⟨b, 0, none⟩) (block_lt_of_cell h2)).trans h2, (hb.cell (p := ⟨b, 1, none⟩) (block_lt_of_cell h3)).trans h3, (hb.cell (p := ⟨b, 2, none⟩) (block_lt_of_cell h4)).trans h4, (hb.cell (p := ⟨d, 0, none⟩) (block_lt_of_cell h5)).trans h5, (hb.cell (p := ⟨d, 1, none⟩) (block_lt_of_cell h6)).trans h6, (hb.cell (p := ⟨d, 2, none⟩) (block_lt_of_cell h7)).trans h7⟩
theorem keepS6 {W0 a : World} {b d q : Nat} {v0 v1 v2 u0 u1 u2 : Value} (x0 x1 x2 : Value) (hq : W0.heap.size ≤ q) (hb : b < W0.heap.size) (hd : d < W0.heap.size) (h : Below W0.heap.size W0 a ∧ a.cell? ⟨b, 0, none⟩ = some v0 ∧ a.cell? ⟨b, 1, none⟩ = some v1 ∧ a.cell? ⟨b, 2, none⟩ = some v2 ∧ a.cell? ⟨d, 0, none⟩ = some u0 ∧ a.cell? ⟨d, 1, none⟩ = some u1 ∧ a.cell? ⟨d, 2, none⟩ = some u2) :
    Below W0.heap.size W0 (((a.setCell ⟨q, 0, none⟩ x0).setCell ⟨q, 1, none⟩ x1).setCell ⟨q, 2, none⟩ x2) ∧ (((a.setCell ⟨q, 0, none⟩ x0).setCell ⟨q, 1, none⟩ x1).setCell ⟨q, 2, none⟩ x2).cell? ⟨b, 0, none⟩ = some v0 ∧
      (((a.setCell ⟨q, 0, none⟩ x0).setCell ⟨q, 1, none⟩ x1).setCell ⟨q, 2, none⟩ x2).cell? ⟨b, 1, none⟩ = some v1 ∧ (((a.setCell ⟨q, 0, none⟩ x0).setCell ⟨q, 1, none⟩ x1).setCell ⟨q, 2, none⟩ x2).cell? ⟨b, 2, none⟩ = some v2 ∧
      (((a.setCell ⟨q, 0, none⟩ x0).setCell ⟨q, 1, none⟩ x1).setCell ⟨q, 2, none⟩ x2).cell? ⟨d, 0, none⟩ = some u0 ∧ (((a.setCell ⟨q, 0, none⟩ x0).setCell ⟨q, 1, none⟩ x1).setCell ⟨q, 2, none⟩ x2).cell? ⟨d, 1, none⟩ = some u1 ∧ (((a.setCell ⟨q, 0, none⟩ x0).setCell ⟨q, 1, none⟩ x1).setCell ⟨q, 2, none⟩ x2).cell? ⟨d, 2, none⟩ = some u2 := by
  obtain ⟨h1, h2, h3, h4, h5, h6, h7⟩ := h
  have far : ∀ (e : Nat) (he : e < W0.heap.size) (v : World) (o1 o2 : Nat) (u : Value), (v.setCell ⟨q, o1, none⟩ u).cell? ⟨e, o2, none⟩ = v.cell? ⟨e, o2, none⟩ := fun e he v o1 o2 u => World.cell?_setCell_other v _ _ u (fun h => by have := (Addr.mk.inj h).1; omega)
  exact ⟨bset (bset (bset h1 hq _) hq _) hq _, by rw [far _ hb, far _ hb, far _ hb]; exact h2, by rw [far _ hb, far _ hb, far _ hb]; exact h3, by rw [far _ hb, far _ hb, far _ hb]; exact h4, by rw [far _ hd, far _ hd, far _ hd]; exact h5, by rw [far _ hd, far _ hd, far _ hd]; exact h6, by rw [far _ hd, far _ hd, far _ hd]; exact h7⟩
theorem setPg {w : World} {A : Option Addr} {g n c q : Nat} {B : Nat → Int} (h : Pg w (some ⟨g, 0, none⟩) n c B) (hq : g ≠ q) (x0 x1 x2 : Value) : Pg (((w.setCell ⟨q, 0, none⟩ x0).setCell ⟨q, 1, none⟩ x1).setCell ⟨q, 2, none⟩ x2) (some ⟨g, 0, none⟩) n c B := by
  obtain ⟨h1, b, o, e, h3, h4⟩ := h
  cases e
  have far : ∀ (v : World) (o1 o2 : Nat) (u : Value), (v.setCell ⟨q, o1, none⟩ u).cell? ⟨g, o2, none⟩ = v.cell? ⟨g, o2, none⟩ := fun v o1 o2 u => World.cell?_setCell_other v _ _ u (fun h => by have := (Addr.mk.inj h).1; omega)
  refine ⟨h1, g, 0, rfl, by simpa using h3, fun j hj => ⟨?_, (h4 j hj).2⟩⟩
  rw [far, far, far]
  exact (h4 j hj).1
theorem putL_inj {W H : Nat} (hW : 1 ≤ W ∧ W ≤ 64) (hH : 1 ≤ H ∧ H ≤ 64) {l k : List UInt8} (hl : l.length = 3 * W * H) (hk : k.length = 3 * W * H) : putL W H l = putL W H k ↔ l = k := by
  constructor
  · intro h
    have a := takeB_put hW hH l hl
    rw [h, takeB_put hW hH k hk] at a
    simp only [Prod.mk.injEq] at a
    exact a.2.2.1.symm
  · rintro rfl; rfl
set_option maxRecDepth 100000 in
set_option maxHeartbeats 3200000 in
theorem one_law (A1 : Option Addr) (n1 c1 : Nat) (ns1 : Nat → Int) (A2 : Option Addr) (n2 c2 : Nat) (ns2 : Nat → Int) (A3 : Option Addr) (n3 c3 : Nat) (ns3 : Nat → Int) (x y : Int) (w : World) (hr1 : Ints w A1 n1 c1 ns1) (hn1 : n1 ≤ 9223372036854775807) (hr2 : Ints w A2 n2 c2 ns2) (hn2 : n2 ≤ 9223372036854775807) (hr3 : Ints w A3 n3 c3 ns3) (hn3 : n3 ≤ 9223372036854775807) (_hx : -9223372036854775808 ≤ x ∧ x ≤ 9223372036854775807) (_hy : -9223372036854775808 ≤ y ∧ y ≤ 9223372036854775807) :
    Calls Try.prog 9 #[.slice A1 n1 c1, .slice A2 n2 c2, .slice A3 n3 c3, .int .i64 x, .int .i64 y] w fun ed w' => ed = .returned (.bool true) ∧ Below w.heap.size w w' := by
  obtain ⟨W, hW, hW2, hxW, hx0, hx1⟩ := side_fix x 10 (by decide) (by decide)
  obtain ⟨H, hH, hH2, hyH, hy0, hy1⟩ := side_fix y 10 (by decide) (by decide)
  have hPX := fun W => place_any x 10 W (by decide) (by decide)
  have hPY := fun W => place_any y 10 W (by decide) (by decide)
  obtain ⟨zx, hzx⟩ : ∃ z, x % 10 = z := ⟨_, rfl⟩
  obtain ⟨zy, hzy⟩ : ∃ z, y % 10 = z := ⟨_, rfl⟩
  rw [hzx] at hPX hxW hx0 hx1
  rw [hzy] at hPY hyH hy0 hy1
  have HPX := Lib.hid hPX
  have HPY := Lib.hid hPY
  obtain ⟨N, hN⟩ : ∃ N, N = 3 * (W * H) := ⟨_, rfl⟩
  have HPG := Lib.hid (fun W' h => lpage_any A1 n1 c1 ns1 W H N W' h hn1 hW hH hN)
  have HPS := Lib.hid (fun W' h => lpage_any A2 n2 c2 ns2 W H N W' h hn2 hW hH hN)
  have HM3 := Lib.hid (fun W' h => lmade_any A3 n3 c3 ns3 W H W' h hn3 hW hH)
  have HLA := Lib.hid (fun c d e A E D R B C W' hp hq hr => lay_any W H N c d e A E D R B C W' hW hH hN hp hq hr)
  have HPU := Lib.hid (fun A c l W' hb => lput_any W H N c A l W' hW hH hN hb)
  have HIJ := Lib.hid (show ∀ l k : List UInt8, l.length = N → k.length = N → (putL W H l = putL W H k ↔ l = k) from fun l k hl hk => putL_inj hW hH (by rw [hl, hN, three_mul]) (by rw [hk, hN, three_mul]))
  have HI1 := Lib.hid hr1
  have HI2 := Lib.hid hr2
  have HI3 := Lib.hid hr3
  clear hPX hPY hzx hzy hN hr1 hr2 hr3 hn1 hn2 hn3 _hx _hy hW2 hH2 hW hH
  go_enter Try.func9, Try.ntmps9
  go_wp2_with fail
  have hst0 : Below w.heap.size w w := by (repeat' (first | exact Below.refl _ _ | exact Below.refl _ _ | refine balloc ?_ _ | refine Below.drew ?_ | refine below_drewN ?_ _ | refine bset ?_ (by first | omega | (simp <;> omega)) _))
  refine (lknown_any _).mono ?_
  rintro e_ w1 ⟨rfl, hb⟩
  have hst : Below w.heap.size w w1 := btrans hst0 hb
  have hbw : Below w.heap.size w w1 := hst
  replace HI1 := Lib.hid (HI1.out.below hst)
  replace HI2 := Lib.hid (HI2.out.below hst)
  replace HI3 := Lib.hid (HI3.out.below hst)
  clear hst hst0 hb 
  go_wp2_with fail
  refine (HPX.out _).mono ?_
  rintro e_ w_ ⟨rfl, rfl⟩
  go_wp2_with fail
  refine (HPY.out _).mono ?_
  rintro e_ w_ ⟨rfl, rfl⟩
  go_wp2_with fail
  clear hx0 hx1 hy0 hy1 hxW hyH
  have hst0 : Below w1.heap.size w1 w1 := by (repeat' (first | exact Below.refl _ _ | exact Below.refl _ _ | refine balloc ?_ _ | refine Below.drew ?_ | refine below_drewN ?_ _ | refine bset ?_ (by first | omega | (simp <;> omega)) _))
  refine (HPG.out _ (HI1.out.below hst0)).mono ?_
  rintro e_ w2 ⟨gp, B, rfl, hP, hb⟩
  have hst : Below w1.heap.size w1 w2 := btrans hst0 hb
  replace hbw : Below w.heap.size w w2 := btrans hbw hst
  replace HI1 := Lib.hid (HI1.out.below hst)
  replace HI2 := Lib.hid (HI2.out.below hst)
  replace HI3 := Lib.hid (HI3.out.below hst)
  clear hst hst0 hb 
  have HhP := Lib.hid hP
  clear hP
  go_wp2_with fail
  have hst0 : Below w2.heap.size w2 w2 := by (repeat' (first | exact Below.refl _ _ | exact Below.refl _ _ | refine balloc ?_ _ | refine Below.drew ?_ | refine below_drewN ?_ _ | refine bset ?_ (by first | omega | (simp <;> omega)) _))
  refine (HM3.out _ (HI3.out.below hst0)).mono ?_
  rintro e_ w3 ⟨D1, d1, R, rfl, hR, hb⟩
  have hst : Below w2.heap.size w2 w3 := btrans hst0 hb
  replace hbw : Below w.heap.size w w3 := btrans hbw hst
  replace HI1 := Lib.hid (HI1.out.below hst)
  replace HI2 := Lib.hid (HI2.out.below hst)
  replace HI3 := Lib.hid (HI3.out.below hst)
  replace HhP := Lib.hid (HhP.out.below hst)
  clear hst hst0 hb 
  have HhR := Lib.hid hR
  clear hR
  go_wp2_with fail
  have hst : Below w3.heap.size w3 ((w3.alloc (.cells #[.int .i64 (W : Int), .int .i64 (H : Int), .slice (some ⟨gp, 0, none⟩) N N] 24)).alloc (.cells #[.int .i64 (W : Int), .int .i64 (H : Int), .slice D1 H d1] 49)) := by (repeat' (first | exact Below.refl _ _ | exact Below.refl _ _ | refine balloc ?_ _ | refine Below.drew ?_ | refine below_drewN ?_ _ | refine bset ?_ (by first | omega | (simp <;> omega)) _))
  replace HI1 := Lib.hid (HI1.out.below hst)
  replace HI2 := Lib.hid (HI2.out.below hst)
  replace HI3 := Lib.hid (HI3.out.below hst)
  replace HhP := Lib.hid (HhP.out.below hst)
  replace HhR := Lib.hid (HhR.out.below hst)
  clear hst
  have Kp := ((Blk.new w3 24 #[.int .i64 (W : Int), .int .i64 (H : Int), .slice (some ⟨gp, 0, none⟩) N N]).alloc (.cells #[.int .i64 (W : Int), .int .i64 (H : Int), .slice D1 H d1] 49))
  have Kr := (Blk.new (w3.alloc (.cells #[.int .i64 (W : Int), .int .i64 (H : Int), .slice (some ⟨gp, 0, none⟩) N N] 24)) 49 #[.int .i64 (W : Int), .int .i64 (H : Int), .slice D1 H d1])
  have hz_Kr : (w3.alloc (.cells #[.int .i64 (W : Int), .int .i64 (H : Int), .slice (some ⟨gp, 0, none⟩) N N] 24)).heap.size = w3.heap.size + 1 := by simp
  rw [hz_Kr] at Kr
  clear hz_Kr
  replace hbw : Below w.heap.size w ((w3.alloc (.cells #[.int .i64 (W : Int), .int .i64 (H : Int), .slice (some ⟨gp, 0, none⟩) N N] 24)).alloc (.cells #[.int .i64 (W : Int), .int .i64 (H : Int), .slice D1 H d1] 49)) := by (repeat' (first | refine bset ?_ (by first | omega | (simp <;> omega)) _ | refine balloc ?_ _ | refine Below.drew ?_ | refine below_drewN ?_ _ | exact hbw | exact Below.refl _ _))
  generalize hwx : ((w3.alloc (.cells #[.int .i64 (W : Int), .int .i64 (H : Int), .slice (some ⟨gp, 0, none⟩) N N] 24)).alloc (.cells #[.int .i64 (W : Int), .int .i64 (H : Int), .slice D1 H d1] 49)) = w4 at *
  clear hwx
  have lKp := Kp.lt
  have cKp0 := Kp.cell 0
  have cKp1 := Kp.cell 1
  have cKp2 := Kp.cell 2
  have lKr := Kr.lt
  have cKr0 := Kr.cell 0
  have cKr1 := Kr.cell 1
  have cKr2 := Kr.cell 2
  simp only [List.getElem?_toArray, List.getElem?_cons_succ, List.getElem?_cons_zero] at cKp0 cKp1 cKp2 cKr0 cKr1 cKr2
  go_cut [15, 16] from 37 to 46 (fun s15 s16 wx => ∃ (bb g f : Nat) (C : Nat → Int), s15 = .pointer (some ⟨bb, 0, none⟩) ∧ s16 = .int .i64 0 ∧ Blk wx bb 24 #[.int .i64 (W : Int), .int .i64 (H : Int), .slice (some ⟨g, 0, none⟩) N f] ∧ Pg wx (some ⟨g, 0, none⟩) N f (layB W R B C) ∧ Below w4.heap.size w4 wx)
  case first =>
    have HS0 : (fun wX : World => Below w4.heap.size w4 wX ∧ wX.cell? ⟨w3.heap.size, 0, none⟩ = some (.int .i64 (W : Int)) ∧ wX.cell? ⟨w3.heap.size, 1, none⟩ = some (.int .i64 (H : Int)) ∧ wX.cell? ⟨w3.heap.size, 2, none⟩ = some (.slice (some ⟨gp, 0, none⟩) N N) ∧ wX.cell? ⟨(w3.heap.size + 1), 0, none⟩ = some (.int .i64 (W : Int)) ∧ wX.cell? ⟨(w3.heap.size + 1), 1, none⟩ = some (.int .i64 (H : Int)) ∧ wX.cell? ⟨(w3.heap.size + 1), 2, none⟩ = some (.slice D1 H d1)) w4.drew := ⟨Below.drew (Below.refl _ _), cKp0, cKp1, cKp2, cKr0, cKr1, cKr2⟩
    have lKp2 := lKp
    have lKr2 := lKr
    clear lKp cKp0 cKp1 cKp2 lKr cKr0 cKr1 cKr2
    go_region_held3 (fun wX : World => Below w4.heap.size w4 wX ∧ wX.cell? ⟨w3.heap.size, 0, none⟩ = some (.int .i64 (W : Int)) ∧ wX.cell? ⟨w3.heap.size, 1, none⟩ = some (.int .i64 (H : Int)) ∧ wX.cell? ⟨w3.heap.size, 2, none⟩ = some (.slice (some ⟨gp, 0, none⟩) N N) ∧ wX.cell? ⟨(w3.heap.size + 1), 0, none⟩ = some (.int .i64 (W : Int)) ∧ wX.cell? ⟨(w3.heap.size + 1), 1, none⟩ = some (.int .i64 (H : Int)) ∧ wX.cell? ⟨(w3.heap.size + 1), 2, none⟩ = some (.slice D1 H d1)) (first | exact HS0 | exact keepL6 (by assumption) (by assumption) | exact keepL6 (balloc (Below.refl _ _) _) (by assumption) | exact keepS6 _ _ _ (by first | exact Nat.le_refl _ | exact hSm.1.size | (simp; done)) lKp2 lKr2 (by assumption) | assumption) (first
      | (go_at_call 20; (first | refine box_in ?_ | refine box_inD ?_); intro hbx; refine (HPS.out _ (HI2.out.below (And.left (by assumption)))).mono ?_; rintro e_ wm ⟨gs, C, rfl, hS, hb⟩; have hSm := keepL6 hb (by assumption); replace hbx := hbx.below hb hbx.lt)
      | (go_at_call 20; refine (HPS.out _ (HI2.out.below (And.left (by assumption)))).mono ?_; rintro e_ wm ⟨gs, C, rfl, hS, hb⟩; have hSm := keepL6 hb (by assumption))
      | (go_at_call 25; (first | refine box_in ?_ | refine box_inD ?_); intro hbx; refine (HLA.out _ _ _ _ _ _ _ _ _ _ (HhP.out.below (And.left (by assumption))) (hS.below (by (repeat' (first | exact Below.refl _ _ | exact Below.refl _ _ | refine balloc ?_ _ | refine Below.drew ?_ | refine below_drewN ?_ _ | refine bset ?_ (by first | omega | (simp <;> omega)) _)))) (HhR.out.below (And.left (by assumption)))).mono ?_; rintro e_ wl ⟨g, f, hg, rfl, hL, hb⟩; have hSl := keepL6 hb (by assumption); have hql := hbx.lt; replace hbx := hbx.below hb hbx.lt; have x0 := hbx.cell 0; have x1 := hbx.cell 1; have x2 := hbx.cell 2; have y0 := hbx.frozen 0; have y1 := hbx.frozen 1; have y2 := hbx.frozen 2; simp only [List.getElem?_toArray, List.getElem?_cons_succ, List.getElem?_cons_zero] at x0 x1 x2)
      | (go_at_call 25; refine (HLA.out _ _ _ _ _ _ _ _ _ _ (HhP.out.below (And.left (by assumption))) (hS.below (by (repeat' (first | exact Below.refl _ _ | exact Below.refl _ _ | refine balloc ?_ _ | refine Below.drew ?_ | refine below_drewN ?_ _ | refine bset ?_ (by first | omega | (simp <;> omega)) _)))) (HhR.out.below (And.left (by assumption)))).mono ?_; rintro e_ wl ⟨g, f, hg, rfl, hL, hb⟩; have hSl := keepL6 hb (by assumption); (try have hql := hbx.lt); (try replace hbx := hbx.below hb hbx.lt); (try have x0 := hbx.cell 0); (try have x1 := hbx.cell 1); (try have x2 := hbx.cell 2); (try have y0 := hbx.frozen 0); (try have y1 := hbx.frozen 1); (try have y2 := hbx.frozen 2); (try simp only [List.getElem?_toArray, List.getElem?_cons_succ, List.getElem?_cons_zero] at x0 x1 x2)))
    all_goals (go_wp2_with fail; go_meet)
    all_goals first
      | exact ⟨_, g, f, C, rfl, rfl, Blk.new _ _ _, hL.below (by (repeat' (first | exact Below.refl _ _ | exact Below.refl _ _ | refine balloc ?_ _ | refine Below.drew ?_ | refine below_drewN ?_ _ | refine bset ?_ (by first | omega | (simp <;> omega)) _))), And.left (by assumption)⟩
      | exact ⟨_, g, f, C, rfl, rfl, Blk.drew (Blk.new _ _ _), hL.below (by (repeat' (first | exact Below.refl _ _ | exact Below.refl _ _ | refine balloc ?_ _ | refine Below.drew ?_ | refine below_drewN ?_ _ | refine bset ?_ (by first | omega | (simp <;> omega)) _))), And.left (by assumption)⟩
      | exact ⟨_, g, f, C, rfl, rfl, ((hbx.set_ 0 _).set_ 1 _).set_ 2 _, setPg (A := none) hL (Nat.ne_of_gt (Nat.lt_of_lt_of_le hql hg)) _ _ _, And.left (by assumption)⟩
  case rest =>
    obtain ⟨bb, g, f, C, rfl, rfl, Kq, hQ0, hst⟩ := hcut
    replace Kp := Kp.below hst lKp
    replace Kr := Kr.below hst lKr
    replace hbw : Below w.heap.size w wc := btrans hbw hst
    replace HI1 := Lib.hid (HI1.out.below hst)
    replace HI2 := Lib.hid (HI2.out.below hst)
    replace HI3 := Lib.hid (HI3.out.below hst)
    replace HhP := Lib.hid (HhP.out.below hst)
    replace HhR := Lib.hid (HhR.out.below hst)
    clear hst lKp cKp0 cKp1 cKp2 lKr cKr0 cKr1 cKr2
    have hQ := lf.Pg.lb hQ0
    have hPb := lf.Pg.lb HhP.out
    generalize listB N (layB W R B C) = k at hQ
    generalize listB N B = l at hPb
    have HLL := Lib.hid (show l.length = N from hPb.len)
    have HKL := Lib.hid (show k.length = N from hQ.len)
    clear hQ0
    have HhQ := Lib.hid hQ
    clear hQ
    have HhPb := Lib.hid hPb
    clear hPb
    have lKp := Kp.lt
    have cKp0 := Kp.cell 0
    have cKp1 := Kp.cell 1
    have cKp2 := Kp.cell 2
    have lKr := Kr.lt
    have cKr0 := Kr.cell 0
    have cKr1 := Kr.cell 1
    have cKr2 := Kr.cell 2
    have lKq := Kq.lt
    have cKq0 := Kq.cell 0
    have cKq1 := Kq.cell 1
    have cKq2 := Kq.cell 2
    simp only [List.getElem?_toArray, List.getElem?_cons_succ, List.getElem?_cons_zero] at cKp0 cKp1 cKp2 cKr0 cKr1 cKr2 cKq0 cKq1 cKq2
    go_wp2_with fail
    have hst0 : Below wc.heap.size wc wc := by (repeat' (first | exact Below.refl _ _ | exact Below.refl _ _ | refine balloc ?_ _ | refine Below.drew ?_ | refine below_drewN ?_ _ | refine bset ?_ (by first | omega | (simp <;> omega)) _))
    refine (HPU.out _ _ _ _ (HhPb.out.below hst0)).mono ?_
    rintro e_ w6 ⟨Da, ma, da, rfl, ha, hma, hb⟩
    clear hma
    have hst : Below wc.heap.size wc w6 := btrans hst0 hb
    replace Kp := Kp.below hb Kp.lt
    replace Kr := Kr.below hb Kr.lt
    replace Kq := Kq.below hb Kq.lt
    replace hbw : Below w.heap.size w w6 := btrans hbw hst
    replace HI1 := Lib.hid (HI1.out.below hst)
    replace HI2 := Lib.hid (HI2.out.below hst)
    replace HI3 := Lib.hid (HI3.out.below hst)
    replace HhP := Lib.hid (HhP.out.below hst)
    replace HhR := Lib.hid (HhR.out.below hst)
    replace HhQ := Lib.hid (HhQ.out.below hst)
    replace HhPb := Lib.hid (HhPb.out.below hst)
    clear hst hst0 hb lKp cKp0 cKp1 cKp2 lKr cKr0 cKr1 cKr2 lKq cKq0 cKq1 cKq2
    have Hha := Lib.hid ha
    clear ha
    have lKp := Kp.lt
    have cKp0 := Kp.cell 0
    have cKp1 := Kp.cell 1
    have cKp2 := Kp.cell 2
    have lKr := Kr.lt
    have cKr0 := Kr.cell 0
    have cKr1 := Kr.cell 1
    have cKr2 := Kr.cell 2
    have lKq := Kq.lt
    have cKq0 := Kq.cell 0
    have cKq1 := Kq.cell 1
    have cKq2 := Kq.cell 2
    simp only [List.getElem?_toArray, List.getElem?_cons_succ, List.getElem?_cons_zero] at cKp0 cKp1 cKp2 cKr0 cKr1 cKr2 cKq0 cKq1 cKq2
    go_wp2_with fail
    have hst0 : Below w6.heap.size w6 w6 := by (repeat' (first | exact Below.refl _ _ | exact Below.refl _ _ | refine balloc ?_ _ | refine Below.drew ?_ | refine below_drewN ?_ _ | refine bset ?_ (by first | omega | (simp <;> omega)) _))
    refine (HPU.out _ _ _ _ (HhQ.out.below hst0)).mono ?_
    rintro e_ w7 ⟨Db, mb, db, rfl, hbb, hmb, hb⟩
    clear hmb
    have hst : Below w6.heap.size w6 w7 := btrans hst0 hb
    replace Kp := Kp.below hb Kp.lt
    replace Kr := Kr.below hb Kr.lt
    replace Kq := Kq.below hb Kq.lt
    replace hbw : Below w.heap.size w w7 := btrans hbw hst
    replace HI1 := Lib.hid (HI1.out.below hst)
    replace HI2 := Lib.hid (HI2.out.below hst)
    replace HI3 := Lib.hid (HI3.out.below hst)
    replace HhP := Lib.hid (HhP.out.below hst)
    replace HhR := Lib.hid (HhR.out.below hst)
    replace HhQ := Lib.hid (HhQ.out.below hst)
    replace HhPb := Lib.hid (HhPb.out.below hst)
    replace Hha := Lib.hid (Hha.out.below hst)
    clear hst hst0 hb lKp cKp0 cKp1 cKp2 lKr cKr0 cKr1 cKr2 lKq cKq0 cKq1 cKq2
    have Hhbb := Lib.hid hbb
    clear hbb
    have lKp := Kp.lt
    have cKp0 := Kp.cell 0
    have cKp1 := Kp.cell 1
    have cKp2 := Kp.cell 2
    have lKr := Kr.lt
    have cKr0 := Kr.cell 0
    have cKr1 := Kr.cell 1
    have cKr2 := Kr.cell 2
    have lKq := Kq.lt
    have cKq0 := Kq.cell 0
    have cKq1 := Kq.cell 1
    have cKq2 := Kq.cell 2
    simp only [List.getElem?_toArray, List.getElem?_cons_succ, List.getElem?_cons_zero] at cKp0 cKp1 cKp2 cKr0 cKr1 cKr2 cKq0 cKq1 cKq2
    obtain ⟨sb, hsb⟩ : ∃ sb, decide (l = k) = sb := ⟨_, rfl⟩
    have hsp : decide (putL W H l = putL W H k) = sb := by rw [← hsb]; exact decide_eq_decide.mpr (HIJ.out l k HLL.out HKL.out)
    have HB1 := Lib.hid (fun (u : World) hu => hsp ▸ hbytes_any Da Db ma da mb db (putL W H l) (putL W H k) u (Hha.out.below hu) (Hhbb.out.below hu))
    have HB2 := Lib.hid (fun (u : World) hu => hsb ▸ lsame_eq (W : Int) (H : Int) (some ⟨gp, 0, none⟩) (some ⟨g, 0, none⟩) N N N f l k u (HhPb.out.below hu) (HhQ.out.below hu))
    clear hsp hsb
    go_wp2_with fail
    have uKp0 : ∀ u : Up w7, u.val.cell? ⟨w3.heap.size, 0, none⟩ = some (.int .i64 (W : Int)) := fun u => (u.cell lKp).trans cKp0
    have uKp1 : ∀ u : Up w7, u.val.cell? ⟨w3.heap.size, 1, none⟩ = some (.int .i64 (H : Int)) := fun u => (u.cell lKp).trans cKp1
    have uKp2 : ∀ u : Up w7, u.val.cell? ⟨w3.heap.size, 2, none⟩ = some (.slice (some ⟨gp, 0, none⟩) N N) := fun u => (u.cell lKp).trans cKp2
    have uKq0 : ∀ u : Up w7, u.val.cell? ⟨bb, 0, none⟩ = some (.int .i64 (W : Int)) := fun u => (u.cell lKq).trans cKq0
    have uKq1 : ∀ u : Up w7, u.val.cell? ⟨bb, 1, none⟩ = some (.int .i64 (H : Int)) := fun u => (u.cell lKq).trans cKq1
    have uKq2 : ∀ u : Up w7, u.val.cell? ⟨bb, 2, none⟩ = some (.slice (some ⟨g, 0, none⟩) N f) := fun u => (u.cell lKq).trans cKq2
    have HU1 := Lib.hid (fun u : Up w7 => up_of (u := u) (HB1.out u.val u.ok))
    have HU2 := Lib.hid (fun u : Up w7 => up_of (u := u) (HB2.out u.val u.ok))
    refine wp_region_up (by kernel_rfl) (by kernel_rfl) ?_
    repeat (go_big_quiet_step (fail))
    go_big_quiet_step (exact HU1.out _)
    repeat (go_big_quiet_step (fail))
    go_big_quiet_step (exact HU2.out _)
    repeat (go_big_quiet_step (fail))
    refine wpQuiet_nil ?_
    rintro _ ⟨uq, rfl⟩
    go_wp2_with fail
    go_ret
    exact ⟨by first | rfl | (simp; done), btrans hbw uq.ok⟩
end Go.Proofs.Ytfmkdccpgkbnoaa.lf
