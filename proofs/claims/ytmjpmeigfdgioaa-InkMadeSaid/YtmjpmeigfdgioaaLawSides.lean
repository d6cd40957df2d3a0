/-
  InkSides: inks on disjoint regions can be put in any order; the same ink on both is the ink on their union.
-/
import Derived.Test.YtmjpmeigfdgioaaLawMade
import Derived.Test.YtmjpmeigfdgioaaPut
import Derived.Test.YtmjpmeigfdgioaaSameP
import Derived.Test.YtmjpmeigfdgioaaRegOps2
import Derived.Test.YtmjpmeigfdgioaaKnown
import Derived.Deep.CutRange
namespace Go.Proofs.Ytmjpmeigfdgioaa.rg
set_option linter.unusedVariables false
set_option linter.unusedSimpArgs false
open Go.RowKit bs sp ik op

theorem lside_fix (v : Int) : ∃ k : Nat, (1 ≤ k ∧ k ≤ 64) ∧ ∀ w, Calls Try.prog 11 #[.int .i64 v] w fun e w' => e = .returned (.int .i64 (k : Int)) ∧ w = w' := by
  have h0 := Int.emod_nonneg v (show (9 : Int) ≠ 0 by omega)
  have h1 := Int.emod_lt_of_pos v (show (0 : Int) < 9 by omega)
  refine ⟨(v % 9 + 1).toNat, by omega, fun w => (lside_any v w).mono ?_⟩
  rintro e w' ⟨k, h2, h3, h4, he, hw⟩
  refine ⟨?_, hw⟩
  rw [he, ← h4]
  exact ret_int (by omega)
/-- a box that a call's world has just made -/
theorem box_in {P : Program} {f : FuncId} {args : Array Value} {w : World} {t : TypeId} {cs : Array Value} {Q : Ending → World → Prop} (h : Blk (w.alloc (.cells cs t)) w.heap.size t cs → Calls P f args (w.alloc (.cells cs t)) Q) : Calls P f args (w.alloc (.cells cs t)) Q := h (Blk.new _ _ _)
theorem box_inD {P : Program} {f : FuncId} {args : Array Value} {w : World} {t : TypeId} {cs : Array Value} {Q : Ending → World → Prop} (h : Blk (w.alloc (.cells cs t)).drew w.heap.size t cs → Calls P f args (w.alloc (.cells cs t)).drew Q) : Calls P f args (w.alloc (.cells cs t)).drew Q := h (Blk.drew (Blk.new _ _ _))
theorem keepS3 {W0 a : World} {b q : Nat} {v0 v1 v2 : Value} (u0 u1 u2 : Value) (hq : W0.heap.size ≤ q) (hb : b < W0.heap.size) (h : Below W0.heap.size W0 a ∧ a.cell? ⟨b, 0, none⟩ = some v0 ∧ a.cell? ⟨b, 1, none⟩ = some v1 ∧ a.cell? ⟨b, 2, none⟩ = some v2) :
    Below W0.heap.size W0 (((a.setCell ⟨q, 0, none⟩ u0).setCell ⟨q, 1, none⟩ u1).setCell ⟨q, 2, none⟩ u2) ∧ (((a.setCell ⟨q, 0, none⟩ u0).setCell ⟨q, 1, none⟩ u1).setCell ⟨q, 2, none⟩ u2).cell? ⟨b, 0, none⟩ = some v0 ∧
      (((a.setCell ⟨q, 0, none⟩ u0).setCell ⟨q, 1, none⟩ u1).setCell ⟨q, 2, none⟩ u2).cell? ⟨b, 1, none⟩ = some v1 ∧ (((a.setCell ⟨q, 0, none⟩ u0).setCell ⟨q, 1, none⟩ u1).setCell ⟨q, 2, none⟩ u2).cell? ⟨b, 2, none⟩ = some v2 := by
  obtain ⟨h1, h2, h3, h4⟩ := h
  have far : ∀ (v : World) (o1 o2 : Nat) (u : Value), (v.setCell ⟨q, o1, none⟩ u).cell? ⟨b, o2, none⟩ = v.cell? ⟨b, o2, none⟩ := fun v o1 o2 u => World.cell?_setCell_other v _ _ u (fun e => by have := (Addr.mk.inj e).1; omega)
  exact ⟨bset (bset (bset h1 hq _) hq _) hq _, by rw [far, far, far]; exact h2, by rw [far, far, far]; exact h3, by rw [far, far, far]; exact h4⟩
theorem putB_swap (W : Nat) (R S : Nat → Nat → Bool) (x y z a x' y' z' a' : Int) (B : Nat → Int) (j : Nat) :
    putB W (fun j i => S j i && !R j i) x' y' z' a' (putB W R x y z a B) j = putB W R x y z a (putB W (fun j i => S j i && !R j i) x' y' z' a' B) j := by
  unfold putB
  cases hR : R (j / 3 / W) (j / 3 % W) <;> simp [hR]
theorem putB_join (W : Nat) (R S : Nat → Nat → Bool) (x y z a : Int) (B : Nat → Int) (j : Nat) :
    putB W (fun j i => S j i && !R j i) x y z a (putB W R x y z a B) j = putB W (fun j i => R j i || (S j i && !R j i)) x y z a B j := by
  unfold putB
  cases hR : R (j / 3 / W) (j / 3 % W) <;> simp [hR]
theorem keepL {W0 a w' : World} {b : Nat} {v0 v1 v2 : Value} (hb : Below a.heap.size a w') (h : Below W0.heap.size W0 a ∧ a.cell? ⟨b, 0, none⟩ = some v0 ∧ a.cell? ⟨b, 1, none⟩ = some v1 ∧ a.cell? ⟨b, 2, none⟩ = some v2) :
    Below W0.heap.size W0 w' ∧ w'.cell? ⟨b, 0, none⟩ = some v0 ∧ w'.cell? ⟨b, 1, none⟩ = some v1 ∧ w'.cell? ⟨b, 2, none⟩ = some v2 := by
  obtain ⟨h1, h2, h3, h4⟩ := h
  exact ⟨btrans h1 hb, (hb.cell (p := ⟨b, 0, none⟩) (block_lt_of_cell h2)).trans h2, (hb.cell (p := ⟨b, 1, none⟩) (block_lt_of_cell h3)).trans h3, (hb.cell (p := ⟨b, 2, none⟩) (block_lt_of_cell h4)).trans h4⟩
set_option maxRecDepth 100000 in
set_option maxHeartbeats 12800000 in
theorem sides_law (A1 : Option Addr) (n1 c1 : Nat) (ns1 : Nat → Int) (A2 : Option Addr) (n2 c2 : Nat) (ns2 : Nat → Int) (A3 : Option Addr) (n3 c3 : Nat) (ns3 : Nat → Int) (x y k0 k1 k2 k3 l0 l1 l2 l3 : Int) (w : World) (hr1 : Ints w A1 n1 c1 ns1) (hn1 : n1 ≤ 9223372036854775807) (hr2 : Ints w A2 n2 c2 ns2) (hn2 : n2 ≤ 9223372036854775807) (hr3 : Ints w A3 n3 c3 ns3) (hn3 : n3 ≤ 9223372036854775807) (_hx : -9223372036854775808 ≤ x ∧ x ≤ 9223372036854775807) (_hy : -9223372036854775808 ≤ y ∧ y ≤ 9223372036854775807) (hk0 : 0 ≤ k0 ∧ k0 ≤ 255) (hk1 : 0 ≤ k1 ∧ k1 ≤ 255) (hk2 : 0 ≤ k2 ∧ k2 ≤ 255) (hk3 : 0 ≤ k3 ∧ k3 ≤ 255) (hl0 : 0 ≤ l0 ∧ l0 ≤ 255) (hl1 : 0 ≤ l1 ∧ l1 ≤ 255) (hl2 : 0 ≤ l2 ∧ l2 ≤ 255) (hl3 : 0 ≤ l3 ∧ l3 ≤ 255) :
    Calls Try.prog 4 #[.slice A1 n1 c1, .slice A2 n2 c2, .slice A3 n3 c3, .int .i64 x, .int .i64 y, .agg #[.int .u8 k0, .int .u8 k1, .int .u8 k2, .int .u8 k3], .agg #[.int .u8 l0, .int .u8 l1, .int .u8 l2, .int .u8 l3]] w fun ed w' => ed = .returned (.bool true) ∧ Below w.heap.size w w' := by
  obtain ⟨W, hW, hSW⟩ := lside_fix x
  obtain ⟨H, hH, hSH⟩ := lside_fix y
  have HSW := Lib.hid hSW
  have HSH := Lib.hid hSH
  have HHW := Lib.hid hW
  have HHH := Lib.hid hH
  obtain ⟨N, hN⟩ : ∃ N, N = 3 * (W * H) := ⟨_, rfl⟩
  have HPG := Lib.hid (fun W' h => lpage_any A1 n1 c1 ns1 W H N W' h hn1 hW hH hN)
  have HM2 := Lib.hid (fun W' h => lmade_any A2 n2 c2 ns2 W H W' h hn2 hW hH)
  have HM3 := Lib.hid (fun W' h => lmade_any A3 n3 c3 ns3 W H W' h hn3 hW hH)
  have HPU := Lib.hid (fun x y z a hx hy hz ha c d A D R B W' hp hr => put_any W H N c d A D R x y z a B W' hW hH hN hx hy hz ha hp hr)
  have HLE := Lib.hid (fun c d A B R S W' ha hb => rless_any W H c d A B R S W' hW hH ha hb)
  have HJO := Lib.hid (fun c d A B R S W' ha hb => rjoin_any W H c d A B R S W' hW hH ha hb)
  have HKB := Lib.hid (And.intro hk0 (And.intro hk1 (And.intro hk2 hk3)))
  have HLB := Lib.hid (And.intro hl0 (And.intro hl1 (And.intro hl2 hl3)))
  have HI1 := Lib.hid hr1
  have HI2 := Lib.hid hr2
  have HI3 := Lib.hid hr3
  clear hSW hSH hW hH hN hr1 hr2 hr3 hn1 hn2 hn3 _hx _hy hk0 hk1 hk2 hk3 hl0 hl1 hl2 hl3
  go_enter Try.func4, Try.ntmps4
  go_wp2_with fail
  have hst0 : Below w.heap.size w ((w.alloc (.cells #[.int .u8 k0, .int .u8 k1, .int .u8 k2, .int .u8 k3] 27)).alloc (.cells #[.int .u8 l0, .int .u8 l1, .int .u8 l2, .int .u8 l3] 27)) := by (repeat' (first | exact Below.refl _ _ | exact Below.refl _ _ | refine balloc ?_ _ | refine Below.drew ?_ | refine below_drewN ?_ _ | refine bset ?_ (by first | omega | (simp <;> omega)) _))
  refine (known_any _).mono ?_
  rintro e_ w1 ⟨rfl, hb⟩
  have hst : Below w.heap.size w w1 := btrans hst0 hb
  have Kk := ((Blk.new w 27 #[.int .u8 k0, .int .u8 k1, .int .u8 k2, .int .u8 k3]).alloc (.cells #[.int .u8 l0, .int .u8 l1, .int .u8 l2, .int .u8 l3] 27))
  have Kl := (Blk.new (w.alloc (.cells #[.int .u8 k0, .int .u8 k1, .int .u8 k2, .int .u8 k3] 27)) 27 #[.int .u8 l0, .int .u8 l1, .int .u8 l2, .int .u8 l3])
  have hz_Kl : (w.alloc (.cells #[.int .u8 k0, .int .u8 k1, .int .u8 k2, .int .u8 k3] 27)).heap.size = w.heap.size + 1 := by simp
  rw [hz_Kl] at Kl
  clear hz_Kl
  replace Kk := Kk.below hb Kk.lt
  replace Kl := Kl.below hb Kl.lt
  have hbw : Below w.heap.size w w1 := hst
  replace HI1 := Lib.hid (HI1.out.below hst)
  replace HI2 := Lib.hid (HI2.out.below hst)
  replace HI3 := Lib.hid (HI3.out.below hst)
  clear hst hst0 hb 
  have lKk := Kk.lt
  have cKk0 := Kk.cell 0
  have cKk1 := Kk.cell 1
  have cKk2 := Kk.cell 2
  have cKk3 := Kk.cell 3
  have lKl := Kl.lt
  have cKl0 := Kl.cell 0
  have cKl1 := Kl.cell 1
  have cKl2 := Kl.cell 2
  have cKl3 := Kl.cell 3
  simp only [List.getElem?_toArray, List.getElem?_cons_succ, List.getElem?_cons_zero] at cKk0 cKk1 cKk2 cKk3 cKl0 cKl1 cKl2 cKl3
  go_wp2_with (go_at_call 11; first | (refine (HSW.out _).mono ?_; rintro e_ w_ ⟨rfl, rfl⟩) | (refine (HSH.out _).mono ?_; rintro e_ w_ ⟨rfl, rfl⟩))
  have hst0 : Below w1.heap.size w1 w1 := by (repeat' (first | exact Below.refl _ _ | exact Below.refl _ _ | refine balloc ?_ _ | refine Below.drew ?_ | refine below_drewN ?_ _ | refine bset ?_ (by first | omega | (simp <;> omega)) _))
  refine (HPG.out _ (HI1.out.below hst0)).mono ?_
  rintro e_ w2 ⟨gp, B, rfl, hP, hb⟩
  have hst : Below w1.heap.size w1 w2 := btrans hst0 hb
  replace Kk := Kk.below hb Kk.lt
  replace Kl := Kl.below hb Kl.lt
  replace hbw : Below w.heap.size w w2 := btrans hbw hst
  replace HI1 := Lib.hid (HI1.out.below hst)
  replace HI2 := Lib.hid (HI2.out.below hst)
  replace HI3 := Lib.hid (HI3.out.below hst)
  clear hst hst0 hb lKk cKk0 cKk1 cKk2 cKk3 lKl cKl0 cKl1 cKl2 cKl3
  have HhP := Lib.hid hP
  clear hP
  have lKk := Kk.lt
  have cKk0 := Kk.cell 0
  have cKk1 := Kk.cell 1
  have cKk2 := Kk.cell 2
  have cKk3 := Kk.cell 3
  have lKl := Kl.lt
  have cKl0 := Kl.cell 0
  have cKl1 := Kl.cell 1
  have cKl2 := Kl.cell 2
  have cKl3 := Kl.cell 3
  simp only [List.getElem?_toArray, List.getElem?_cons_succ, List.getElem?_cons_zero] at cKk0 cKk1 cKk2 cKk3 cKl0 cKl1 cKl2 cKl3
  go_wp2_with (go_at_call 11; first | (refine (HSW.out _).mono ?_; rintro e_ w_ ⟨rfl, rfl⟩) | (refine (HSH.out _).mono ?_; rintro e_ w_ ⟨rfl, rfl⟩))
  have hst0 : Below w2.heap.size w2 w2 := by (repeat' (first | exact Below.refl _ _ | exact Below.refl _ _ | refine balloc ?_ _ | refine Below.drew ?_ | refine below_drewN ?_ _ | refine bset ?_ (by first | omega | (simp <;> omega)) _))
  refine (HM2.out _ (HI2.out.below hst0)).mono ?_
  rintro e_ w3 ⟨D1, d1, R, rfl, hR, hb⟩
  have hst : Below w2.heap.size w2 w3 := btrans hst0 hb
  replace Kk := Kk.below hb Kk.lt
  replace Kl := Kl.below hb Kl.lt
  replace hbw : Below w.heap.size w w3 := btrans hbw hst
  replace HI1 := Lib.hid (HI1.out.below hst)
  replace HI2 := Lib.hid (HI2.out.below hst)
  replace HI3 := Lib.hid (HI3.out.below hst)
  replace HhP := Lib.hid (HhP.out.below hst)
  clear hst hst0 hb lKk cKk0 cKk1 cKk2 cKk3 lKl cKl0 cKl1 cKl2 cKl3
  have HhR := Lib.hid hR
  clear hR
  have lKk := Kk.lt
  have cKk0 := Kk.cell 0
  have cKk1 := Kk.cell 1
  have cKk2 := Kk.cell 2
  have cKk3 := Kk.cell 3
  have lKl := Kl.lt
  have cKl0 := Kl.cell 0
  have cKl1 := Kl.cell 1
  have cKl2 := Kl.cell 2
  have cKl3 := Kl.cell 3
  simp only [List.getElem?_toArray, List.getElem?_cons_succ, List.getElem?_cons_zero] at cKk0 cKk1 cKk2 cKk3 cKl0 cKl1 cKl2 cKl3
  go_wp2_with fail
  have hst : Below w3.heap.size w3 ((w3.alloc (.cells #[.int .i64 (W : Int), .int .i64 (H : Int), .slice (some ⟨gp, 0, none⟩) N N] 30)).alloc (.cells #[.int .i64 (W : Int), .int .i64 (H : Int), .slice D1 H d1] 35)) := by (repeat' (first | exact Below.refl _ _ | exact Below.refl _ _ | refine balloc ?_ _ | refine Below.drew ?_ | refine below_drewN ?_ _ | refine bset ?_ (by first | omega | (simp <;> omega)) _))
  replace HI1 := Lib.hid (HI1.out.below hst)
  replace HI2 := Lib.hid (HI2.out.below hst)
  replace HI3 := Lib.hid (HI3.out.below hst)
  replace HhP := Lib.hid (HhP.out.below hst)
  replace HhR := Lib.hid (HhR.out.below hst)
  clear hst
  replace Kk := ((Kk.alloc (.cells #[.int .i64 (W : Int), .int .i64 (H : Int), .slice (some ⟨gp, 0, none⟩) N N] 30)).alloc (.cells #[.int .i64 (W : Int), .int .i64 (H : Int), .slice D1 H d1] 35))
  replace Kl := ((Kl.alloc (.cells #[.int .i64 (W : Int), .int .i64 (H : Int), .slice (some ⟨gp, 0, none⟩) N N] 30)).alloc (.cells #[.int .i64 (W : Int), .int .i64 (H : Int), .slice D1 H d1] 35))
  have Kp := ((Blk.new w3 30 #[.int .i64 (W : Int), .int .i64 (H : Int), .slice (some ⟨gp, 0, none⟩) N N]).alloc (.cells #[.int .i64 (W : Int), .int .i64 (H : Int), .slice D1 H d1] 35))
  have Kr := (Blk.new (w3.alloc (.cells #[.int .i64 (W : Int), .int .i64 (H : Int), .slice (some ⟨gp, 0, none⟩) N N] 30)) 35 #[.int .i64 (W : Int), .int .i64 (H : Int), .slice D1 H d1])
  have hz_Kr : (w3.alloc (.cells #[.int .i64 (W : Int), .int .i64 (H : Int), .slice (some ⟨gp, 0, none⟩) N N] 30)).heap.size = w3.heap.size + 1 := by simp
  rw [hz_Kr] at Kr
  clear hz_Kr
  replace hbw : Below w.heap.size w ((w3.alloc (.cells #[.int .i64 (W : Int), .int .i64 (H : Int), .slice (some ⟨gp, 0, none⟩) N N] 30)).alloc (.cells #[.int .i64 (W : Int), .int .i64 (H : Int), .slice D1 H d1] 35)) := by (repeat' (first | refine bset ?_ (by first | omega | (simp <;> omega)) _ | refine balloc ?_ _ | refine Below.drew ?_ | refine below_drewN ?_ _ | exact hbw | exact Below.refl _ _))
  clear lKk cKk0 cKk1 cKk2 cKk3 lKl cKl0 cKl1 cKl2 cKl3
  generalize hwx : ((w3.alloc (.cells #[.int .i64 (W : Int), .int .i64 (H : Int), .slice (some ⟨gp, 0, none⟩) N N] 30)).alloc (.cells #[.int .i64 (W : Int), .int .i64 (H : Int), .slice D1 H d1] 35)) = w4 at *
  clear hwx
  have lKk := Kk.lt
  have cKk0 := Kk.cell 0
  have cKk1 := Kk.cell 1
  have cKk2 := Kk.cell 2
  have cKk3 := Kk.cell 3
  have lKl := Kl.lt
  have cKl0 := Kl.cell 0
  have cKl1 := Kl.cell 1
  have cKl2 := Kl.cell 2
  have cKl3 := Kl.cell 3
  have lKp := Kp.lt
  have cKp0 := Kp.cell 0
  have cKp1 := Kp.cell 1
  have cKp2 := Kp.cell 2
  have lKr := Kr.lt
  have cKr0 := Kr.cell 0
  have cKr1 := Kr.cell 1
  have cKr2 := Kr.cell 2
  simp only [List.getElem?_toArray, List.getElem?_cons_succ, List.getElem?_cons_zero] at cKk0 cKk1 cKk2 cKk3 cKl0 cKl1 cKl2 cKl3 cKp0 cKp1 cKp2 cKr0 cKr1 cKr2
  go_cut [17, 18] from 47 to 57 (fun s17 s18 wx => ∃ (bb g : Nat) (S : Nat → Nat → Bool), s17 = .pointer (some ⟨bb, 0, none⟩) ∧ s18 = .int .i64 0 ∧ Blk wx bb 35 #[.int .i64 (W : Int), .int .i64 (H : Int), .slice (some ⟨g, 0, none⟩) H H] ∧ Rows wx (some ⟨g, 0, none⟩) H H (rowsOf W (fun j i => S j i && !R j i)) ∧ Below w4.heap.size w4 wx)
  case first =>
    have HS0 : (fun wX : World => Below w4.heap.size w4 wX ∧ wX.cell? ⟨(w3.heap.size + 1), 0, none⟩ = some (.int .i64 (W : Int)) ∧ wX.cell? ⟨(w3.heap.size + 1), 1, none⟩ = some (.int .i64 (H : Int)) ∧ wX.cell? ⟨(w3.heap.size + 1), 2, none⟩ = some (.slice D1 H d1)) w4.drew := ⟨Below.drew (Below.refl _ _), cKr0, cKr1, cKr2⟩
    have lKr2 := lKr
    clear lKk cKk0 cKk1 cKk2 cKk3 lKl cKl0 cKl1 cKl2 cKl3 lKp cKp0 cKp1 cKp2 lKr cKr0 cKr1 cKr2
    go_region_held3 (fun wX : World => Below w4.heap.size w4 wX ∧ wX.cell? ⟨(w3.heap.size + 1), 0, none⟩ = some (.int .i64 (W : Int)) ∧ wX.cell? ⟨(w3.heap.size + 1), 1, none⟩ = some (.int .i64 (H : Int)) ∧ wX.cell? ⟨(w3.heap.size + 1), 2, none⟩ = some (.slice D1 H d1)) (first | exact HS0 | exact keepL (by assumption) (by assumption) | exact keepL (balloc (Below.refl _ _) _) (by assumption) | exact keepS3 _ _ _ (by first | exact Nat.le_refl _ | exact hSm.1.size | (simp; done)) lKr2 (by assumption) | assumption) (first
      | (go_at_call 11; (first | refine box_in ?_ | refine box_inD ?_); intro hbx; first | (refine (HSW.out _).mono ?_; rintro e_ w_ ⟨rfl, rfl⟩) | (refine (HSH.out _).mono ?_; rintro e_ w_ ⟨rfl, rfl⟩))
      | (go_at_call 11; first | (refine (HSW.out _).mono ?_; rintro e_ w_ ⟨rfl, rfl⟩) | (refine (HSH.out _).mono ?_; rintro e_ w_ ⟨rfl, rfl⟩))
      | (go_at_call 12; (first | refine box_in ?_ | refine box_inD ?_); intro hbx; refine (HM3.out _ (HI3.out.below (And.left (by assumption)))).mono ?_; rintro e_ wm ⟨D2, d2, S, rfl, hS, hb⟩; have hSm := keepL hb (by assumption); replace hbx := hbx.below hb hbx.lt)
      | (go_at_call 12; refine (HM3.out _ (HI3.out.below (And.left (by assumption)))).mono ?_; rintro e_ wm ⟨D2, d2, S, rfl, hS, hb⟩; have hSm := keepL hb (by assumption); (try replace hbx := hbx.below hb hbx.lt))
      | (go_at_call 13; (first | refine box_in ?_ | refine box_inD ?_); intro hbx; refine (HLE.out _ _ _ _ _ _ _ (hS.below (by (repeat' (first | exact Below.refl _ _ | exact Below.refl _ _ | refine balloc ?_ _ | refine Below.drew ?_ | refine below_drewN ?_ _ | refine bset ?_ (by first | omega | (simp <;> omega)) _)))) (HhR.out.below (And.left (by assumption)))).mono ?_; rintro e_ wl ⟨g, hg, rfl, hL, hb⟩; have hSl := keepL hb (by assumption); have hql := hbx.lt; replace hbx := hbx.below hb hbx.lt; have x0 := hbx.cell 0; have x1 := hbx.cell 1; have x2 := hbx.cell 2; have y0 := hbx.frozen 0; have y1 := hbx.frozen 1; have y2 := hbx.frozen 2; simp only [List.getElem?_toArray, List.getElem?_cons_succ, List.getElem?_cons_zero] at x0 x1 x2)
      | (go_at_call 13; refine (HLE.out _ _ _ _ _ _ _ (hS.below (by (repeat' (first | exact Below.refl _ _ | exact Below.refl _ _ | refine balloc ?_ _ | refine Below.drew ?_ | refine below_drewN ?_ _ | refine bset ?_ (by first | omega | (simp <;> omega)) _)))) (HhR.out.below (And.left (by assumption)))).mono ?_; rintro e_ wl ⟨g, hg, rfl, hL, hb⟩; have hSl := keepL hb (by assumption); (try have hql := hbx.lt); (try replace hbx := hbx.below hb hbx.lt); (try have x0 := hbx.cell 0); (try have x1 := hbx.cell 1); (try have x2 := hbx.cell 2); (try have y0 := hbx.frozen 0); (try have y1 := hbx.frozen 1); (try have y2 := hbx.frozen 2); (try simp only [List.getElem?_toArray, List.getElem?_cons_succ, List.getElem?_cons_zero] at x0 x1 x2)))
    all_goals (go_wp2_with fail; go_meet)
    all_goals first
      | exact ⟨_, g, S, rfl, rfl, Blk.new _ _ _, hL.below (by (repeat' (first | exact Below.refl _ _ | exact Below.refl _ _ | refine balloc ?_ _ | refine Below.drew ?_ | refine below_drewN ?_ _ | refine bset ?_ (by first | omega | (simp <;> omega)) _))), And.left (by assumption)⟩
      | exact ⟨_, g, S, rfl, rfl, Blk.drew (Blk.new _ _ _), hL.below (by (repeat' (first | exact Below.refl _ _ | exact Below.refl _ _ | refine balloc ?_ _ | refine Below.drew ?_ | refine below_drewN ?_ _ | refine bset ?_ (by first | omega | (simp <;> omega)) _))), And.left (by assumption)⟩
      | exact ⟨_, g, S, rfl, rfl, ((hbx.set_ 0 _).set_ 1 _).set_ 2 _, Rows.setBox hL (Nat.ne_of_gt (Nat.lt_of_lt_of_le hql hg)) hbx _ _ _, And.left (by assumption)⟩
  case rest =>
    obtain ⟨bb, gs, S, rfl, rfl, Ks, hS, hst⟩ := hcut
    replace Kk := Kk.below hst lKk
    replace Kl := Kl.below hst lKl
    replace Kp := Kp.below hst lKp
    replace Kr := Kr.below hst lKr
    replace hbw : Below w.heap.size w wc := btrans hbw hst
    replace HI1 := Lib.hid (HI1.out.below hst)
    replace HI2 := Lib.hid (HI2.out.below hst)
    replace HI3 := Lib.hid (HI3.out.below hst)
    replace HhP := Lib.hid (HhP.out.below hst)
    replace HhR := Lib.hid (HhR.out.below hst)
    clear hst lKk cKk0 cKk1 cKk2 cKk3 lKl cKl0 cKl1 cKl2 cKl3 lKp cKp0 cKp1 cKp2 lKr cKr0 cKr1 cKr2
    have HhS := Lib.hid hS
    clear hS
    have lKk := Kk.lt
    have cKk0 := Kk.cell 0
    have cKk1 := Kk.cell 1
    have cKk2 := Kk.cell 2
    have cKk3 := Kk.cell 3
    have lKl := Kl.lt
    have cKl0 := Kl.cell 0
    have cKl1 := Kl.cell 1
    have cKl2 := Kl.cell 2
    have cKl3 := Kl.cell 3
    have lKp := Kp.lt
    have cKp0 := Kp.cell 0
    have cKp1 := Kp.cell 1
    have cKp2 := Kp.cell 2
    have lKr := Kr.lt
    have cKr0 := Kr.cell 0
    have cKr1 := Kr.cell 1
    have cKr2 := Kr.cell 2
    have lKs := Ks.lt
    have cKs0 := Ks.cell 0
    have cKs1 := Ks.cell 1
    have cKs2 := Ks.cell 2
    simp only [List.getElem?_toArray, List.getElem?_cons_succ, List.getElem?_cons_zero] at cKk0 cKk1 cKk2 cKk3 cKl0 cKl1 cKl2 cKl3 cKp0 cKp1 cKp2 cKr0 cKr1 cKr2 cKs0 cKs1 cKs2
    go_wp2_with fail
    have hst0 : Below wc.heap.size wc wc := by (repeat' (first | exact Below.refl _ _ | exact Below.refl _ _ | refine balloc ?_ _ | refine Below.drew ?_ | refine below_drewN ?_ _ | refine bset ?_ (by first | omega | (simp <;> omega)) _))
    refine (HJO.out _ _ _ _ _ _ _ (HhR.out.below hst0) (HhS.out.below hst0)).mono ?_
    rintro e_ w6 ⟨gj, hgj, rfl, hJ, hb⟩
    clear hgj
    have hst : Below wc.heap.size wc w6 := btrans hst0 hb
    replace Kk := Kk.below hb Kk.lt
    replace Kl := Kl.below hb Kl.lt
    replace Kp := Kp.below hb Kp.lt
    replace Kr := Kr.below hb Kr.lt
    replace Ks := Ks.below hb Ks.lt
    replace hbw : Below w.heap.size w w6 := btrans hbw hst
    replace HI1 := Lib.hid (HI1.out.below hst)
    replace HI2 := Lib.hid (HI2.out.below hst)
    replace HI3 := Lib.hid (HI3.out.below hst)
    replace HhP := Lib.hid (HhP.out.below hst)
    replace HhR := Lib.hid (HhR.out.below hst)
    replace HhS := Lib.hid (HhS.out.below hst)
    clear hst hst0 hb lKk cKk0 cKk1 cKk2 cKk3 lKl cKl0 cKl1 cKl2 cKl3 lKp cKp0 cKp1 cKp2 lKr cKr0 cKr1 cKr2 lKs cKs0 cKs1 cKs2
    have HhJ := Lib.hid hJ
    clear hJ
    have lKk := Kk.lt
    have cKk0 := Kk.cell 0
    have cKk1 := Kk.cell 1
    have cKk2 := Kk.cell 2
    have cKk3 := Kk.cell 3
    have lKl := Kl.lt
    have cKl0 := Kl.cell 0
    have cKl1 := Kl.cell 1
    have cKl2 := Kl.cell 2
    have cKl3 := Kl.cell 3
    have lKp := Kp.lt
    have cKp0 := Kp.cell 0
    have cKp1 := Kp.cell 1
    have cKp2 := Kp.cell 2
    have lKr := Kr.lt
    have cKr0 := Kr.cell 0
    have cKr1 := Kr.cell 1
    have cKr2 := Kr.cell 2
    have lKs := Ks.lt
    have cKs0 := Ks.cell 0
    have cKs1 := Ks.cell 1
    have cKs2 := Ks.cell 2
    simp only [List.getElem?_toArray, List.getElem?_cons_succ, List.getElem?_cons_zero] at cKk0 cKk1 cKk2 cKk3 cKl0 cKl1 cKl2 cKl3 cKp0 cKp1 cKp2 cKr0 cKr1 cKr2 cKs0 cKs1 cKs2
    go_wp2_with fail
    have hst0 : Below w6.heap.size w6 (w6.alloc (.cells #[.int .i64 (W : Int), .int .i64 (H : Int), .slice (some ⟨gj, 0, none⟩) H H] 35)) := by (repeat' (first | exact Below.refl _ _ | exact Below.refl _ _ | refine balloc ?_ _ | refine Below.drew ?_ | refine below_drewN ?_ _ | refine bset ?_ (by first | omega | (simp <;> omega)) _))
    refine (HPU.out _ _ _ _ HKB.out.1 HKB.out.2.1 HKB.out.2.2.1 HKB.out.2.2.2 _ _ _ _ _ _ _ (HhP.out.below hst0) (HhR.out.below hst0)).mono ?_
    rintro e_ w7 ⟨ga, fa, hga, rfl, qa, hb⟩
    clear hga
    have hst : Below w6.heap.size w6 w7 := btrans hst0 hb
    replace Kk := (Kk.alloc (.cells #[.int .i64 (W : Int), .int .i64 (H : Int), .slice (some ⟨gj, 0, none⟩) H H] 35))
    replace Kl := (Kl.alloc (.cells #[.int .i64 (W : Int), .int .i64 (H : Int), .slice (some ⟨gj, 0, none⟩) H H] 35))
    replace Kp := (Kp.alloc (.cells #[.int .i64 (W : Int), .int .i64 (H : Int), .slice (some ⟨gj, 0, none⟩) H H] 35))
    replace Kr := (Kr.alloc (.cells #[.int .i64 (W : Int), .int .i64 (H : Int), .slice (some ⟨gj, 0, none⟩) H H] 35))
    replace Ks := (Ks.alloc (.cells #[.int .i64 (W : Int), .int .i64 (H : Int), .slice (some ⟨gj, 0, none⟩) H H] 35))
    have Kj := (Blk.new w6 35 #[.int .i64 (W : Int), .int .i64 (H : Int), .slice (some ⟨gj, 0, none⟩) H H])
    replace Kk := Kk.below hb Kk.lt
    replace Kl := Kl.below hb Kl.lt
    replace Kp := Kp.below hb Kp.lt
    replace Kr := Kr.below hb Kr.lt
    replace Ks := Ks.below hb Ks.lt
    replace Kj := Kj.below hb Kj.lt
    replace hbw : Below w.heap.size w w7 := btrans hbw hst
    replace HI1 := Lib.hid (HI1.out.below hst)
    replace HI2 := Lib.hid (HI2.out.below hst)
    replace HI3 := Lib.hid (HI3.out.below hst)
    replace HhP := Lib.hid (HhP.out.below hst)
    replace HhR := Lib.hid (HhR.out.below hst)
    replace HhS := Lib.hid (HhS.out.below hst)
    replace HhJ := Lib.hid (HhJ.out.below hst)
    clear hst hst0 hb lKk cKk0 cKk1 cKk2 cKk3 lKl cKl0 cKl1 cKl2 cKl3 lKp cKp0 cKp1 cKp2 lKr cKr0 cKr1 cKr2 lKs cKs0 cKs1 cKs2
    have Hqa := Lib.hid qa
    clear qa
    have lKk := Kk.lt
    have cKk0 := Kk.cell 0
    have cKk1 := Kk.cell 1
    have cKk2 := Kk.cell 2
    have cKk3 := Kk.cell 3
    have lKl := Kl.lt
    have cKl0 := Kl.cell 0
    have cKl1 := Kl.cell 1
    have cKl2 := Kl.cell 2
    have cKl3 := Kl.cell 3
    have lKp := Kp.lt
    have cKp0 := Kp.cell 0
    have cKp1 := Kp.cell 1
    have cKp2 := Kp.cell 2
    have lKr := Kr.lt
    have cKr0 := Kr.cell 0
    have cKr1 := Kr.cell 1
    have cKr2 := Kr.cell 2
    have lKs := Ks.lt
    have cKs0 := Ks.cell 0
    have cKs1 := Ks.cell 1
    have cKs2 := Ks.cell 2
    have lKj := Kj.lt
    have cKj0 := Kj.cell 0
    have cKj1 := Kj.cell 1
    have cKj2 := Kj.cell 2
    simp only [List.getElem?_toArray, List.getElem?_cons_succ, List.getElem?_cons_zero] at cKk0 cKk1 cKk2 cKk3 cKl0 cKl1 cKl2 cKl3 cKp0 cKp1 cKp2 cKr0 cKr1 cKr2 cKs0 cKs1 cKs2 cKj0 cKj1 cKj2
    go_wp2_with fail
    have hst0 : Below w7.heap.size w7 (w7.alloc (.cells #[.int .i64 (W : Int), .int .i64 (H : Int), .slice (some ⟨ga, 0, none⟩) N fa] 30)) := by (repeat' (first | exact Below.refl _ _ | exact Below.refl _ _ | refine balloc ?_ _ | refine Below.drew ?_ | refine below_drewN ?_ _ | refine bset ?_ (by first | omega | (simp <;> omega)) _))
    refine (HPU.out _ _ _ _ HLB.out.1 HLB.out.2.1 HLB.out.2.2.1 HLB.out.2.2.2 _ _ _ _ _ _ _ (Hqa.out.below hst0) (HhS.out.below hst0)).mono ?_
    rintro e_ w8 ⟨gb, fb, hgb, rfl, qb, hb⟩
    clear hgb
    have hst : Below w7.heap.size w7 w8 := btrans hst0 hb
    replace Kk := (Kk.alloc (.cells #[.int .i64 (W : Int), .int .i64 (H : Int), .slice (some ⟨ga, 0, none⟩) N fa] 30))
    replace Kl := (Kl.alloc (.cells #[.int .i64 (W : Int), .int .i64 (H : Int), .slice (some ⟨ga, 0, none⟩) N fa] 30))
    replace Kp := (Kp.alloc (.cells #[.int .i64 (W : Int), .int .i64 (H : Int), .slice (some ⟨ga, 0, none⟩) N fa] 30))
    replace Kr := (Kr.alloc (.cells #[.int .i64 (W : Int), .int .i64 (H : Int), .slice (some ⟨ga, 0, none⟩) N fa] 30))
    replace Ks := (Ks.alloc (.cells #[.int .i64 (W : Int), .int .i64 (H : Int), .slice (some ⟨ga, 0, none⟩) N fa] 30))
    replace Kj := (Kj.alloc (.cells #[.int .i64 (W : Int), .int .i64 (H : Int), .slice (some ⟨ga, 0, none⟩) N fa] 30))
    have Ka := (Blk.new w7 30 #[.int .i64 (W : Int), .int .i64 (H : Int), .slice (some ⟨ga, 0, none⟩) N fa])
    replace Kk := Kk.below hb Kk.lt
    replace Kl := Kl.below hb Kl.lt
    replace Kp := Kp.below hb Kp.lt
    replace Kr := Kr.below hb Kr.lt
    replace Ks := Ks.below hb Ks.lt
    replace Kj := Kj.below hb Kj.lt
    replace Ka := Ka.below hb Ka.lt
    replace hbw : Below w.heap.size w w8 := btrans hbw hst
    replace HI1 := Lib.hid (HI1.out.below hst)
    replace HI2 := Lib.hid (HI2.out.below hst)
    replace HI3 := Lib.hid (HI3.out.below hst)
    replace HhP := Lib.hid (HhP.out.below hst)
    replace HhR := Lib.hid (HhR.out.below hst)
    replace HhS := Lib.hid (HhS.out.below hst)
    replace HhJ := Lib.hid (HhJ.out.below hst)
    replace Hqa := Lib.hid (Hqa.out.below hst)
    clear hst hst0 hb lKk cKk0 cKk1 cKk2 cKk3 lKl cKl0 cKl1 cKl2 cKl3 lKp cKp0 cKp1 cKp2 lKr cKr0 cKr1 cKr2 lKs cKs0 cKs1 cKs2 lKj cKj0 cKj1 cKj2
    have Hqb := Lib.hid qb
    clear qb
    have lKk := Kk.lt
    have cKk0 := Kk.cell 0
    have cKk1 := Kk.cell 1
    have cKk2 := Kk.cell 2
    have cKk3 := Kk.cell 3
    have lKl := Kl.lt
    have cKl0 := Kl.cell 0
    have cKl1 := Kl.cell 1
    have cKl2 := Kl.cell 2
    have cKl3 := Kl.cell 3
    have lKp := Kp.lt
    have cKp0 := Kp.cell 0
    have cKp1 := Kp.cell 1
    have cKp2 := Kp.cell 2
    have lKr := Kr.lt
    have cKr0 := Kr.cell 0
    have cKr1 := Kr.cell 1
    have cKr2 := Kr.cell 2
    have lKs := Ks.lt
    have cKs0 := Ks.cell 0
    have cKs1 := Ks.cell 1
    have cKs2 := Ks.cell 2
    have lKj := Kj.lt
    have cKj0 := Kj.cell 0
    have cKj1 := Kj.cell 1
    have cKj2 := Kj.cell 2
    have lKa := Ka.lt
    have cKa0 := Ka.cell 0
    have cKa1 := Ka.cell 1
    have cKa2 := Ka.cell 2
    simp only [List.getElem?_toArray, List.getElem?_cons_succ, List.getElem?_cons_zero] at cKk0 cKk1 cKk2 cKk3 cKl0 cKl1 cKl2 cKl3 cKp0 cKp1 cKp2 cKr0 cKr1 cKr2 cKs0 cKs1 cKs2 cKj0 cKj1 cKj2 cKa0 cKa1 cKa2
    go_wp2_with fail
    have hst0 : Below w8.heap.size w8 (w8.alloc (.cells #[.int .i64 (W : Int), .int .i64 (H : Int), .slice (some ⟨gb, 0, none⟩) N fb] 30)) := by (repeat' (first | exact Below.refl _ _ | exact Below.refl _ _ | refine balloc ?_ _ | refine Below.drew ?_ | refine below_drewN ?_ _ | refine bset ?_ (by first | omega | (simp <;> omega)) _))
    refine (HPU.out _ _ _ _ HLB.out.1 HLB.out.2.1 HLB.out.2.2.1 HLB.out.2.2.2 _ _ _ _ _ _ _ (HhP.out.below hst0) (HhS.out.below hst0)).mono ?_
    rintro e_ w9 ⟨gc, fc, hgc, rfl, qc, hb⟩
    clear hgc
    have hst : Below w8.heap.size w8 w9 := btrans hst0 hb
    replace Kk := (Kk.alloc (.cells #[.int .i64 (W : Int), .int .i64 (H : Int), .slice (some ⟨gb, 0, none⟩) N fb] 30))
    replace Kl := (Kl.alloc (.cells #[.int .i64 (W : Int), .int .i64 (H : Int), .slice (some ⟨gb, 0, none⟩) N fb] 30))
    replace Kp := (Kp.alloc (.cells #[.int .i64 (W : Int), .int .i64 (H : Int), .slice (some ⟨gb, 0, none⟩) N fb] 30))
    replace Kr := (Kr.alloc (.cells #[.int .i64 (W : Int), .int .i64 (H : Int), .slice (some ⟨gb, 0, none⟩) N fb] 30))
    replace Ks := (Ks.alloc (.cells #[.int .i64 (W : Int), .int .i64 (H : Int), .slice (some ⟨gb, 0, none⟩) N fb] 30))
    replace Kj := (Kj.alloc (.cells #[.int .i64 (W : Int), .int .i64 (H : Int), .slice (some ⟨gb, 0, none⟩) N fb] 30))
    replace Ka := (Ka.alloc (.cells #[.int .i64 (W : Int), .int .i64 (H : Int), .slice (some ⟨gb, 0, none⟩) N fb] 30))
    have Kb := (Blk.new w8 30 #[.int .i64 (W : Int), .int .i64 (H : Int), .slice (some ⟨gb, 0, none⟩) N fb])
    replace Kk := Kk.below hb Kk.lt
    replace Kl := Kl.below hb Kl.lt
    replace Kp := Kp.below hb Kp.lt
    replace Kr := Kr.below hb Kr.lt
    replace Ks := Ks.below hb Ks.lt
    replace Kj := Kj.below hb Kj.lt
    replace Ka := Ka.below hb Ka.lt
    replace Kb := Kb.below hb Kb.lt
    replace hbw : Below w.heap.size w w9 := btrans hbw hst
    replace HI1 := Lib.hid (HI1.out.below hst)
    replace HI2 := Lib.hid (HI2.out.below hst)
    replace HI3 := Lib.hid (HI3.out.below hst)
    replace HhP := Lib.hid (HhP.out.below hst)
    replace HhR := Lib.hid (HhR.out.below hst)
    replace HhS := Lib.hid (HhS.out.below hst)
    replace HhJ := Lib.hid (HhJ.out.below hst)
    replace Hqa := Lib.hid (Hqa.out.below hst)
    replace Hqb := Lib.hid (Hqb.out.below hst)
    clear hst hst0 hb lKk cKk0 cKk1 cKk2 cKk3 lKl cKl0 cKl1 cKl2 cKl3 lKp cKp0 cKp1 cKp2 lKr cKr0 cKr1 cKr2 lKs cKs0 cKs1 cKs2 lKj cKj0 cKj1 cKj2 lKa cKa0 cKa1 cKa2
    have Hqc := Lib.hid qc
    clear qc
    have lKk := Kk.lt
    have cKk0 := Kk.cell 0
    have cKk1 := Kk.cell 1
    have cKk2 := Kk.cell 2
    have cKk3 := Kk.cell 3
    have lKl := Kl.lt
    have cKl0 := Kl.cell 0
    have cKl1 := Kl.cell 1
    have cKl2 := Kl.cell 2
    have cKl3 := Kl.cell 3
    have lKp := Kp.lt
    have cKp0 := Kp.cell 0
    have cKp1 := Kp.cell 1
    have cKp2 := Kp.cell 2
    have lKr := Kr.lt
    have cKr0 := Kr.cell 0
    have cKr1 := Kr.cell 1
    have cKr2 := Kr.cell 2
    have lKs := Ks.lt
    have cKs0 := Ks.cell 0
    have cKs1 := Ks.cell 1
    have cKs2 := Ks.cell 2
    have lKj := Kj.lt
    have cKj0 := Kj.cell 0
    have cKj1 := Kj.cell 1
    have cKj2 := Kj.cell 2
    have lKa := Ka.lt
    have cKa0 := Ka.cell 0
    have cKa1 := Ka.cell 1
    have cKa2 := Ka.cell 2
    have lKb := Kb.lt
    have cKb0 := Kb.cell 0
    have cKb1 := Kb.cell 1
    have cKb2 := Kb.cell 2
    simp only [List.getElem?_toArray, List.getElem?_cons_succ, List.getElem?_cons_zero] at cKk0 cKk1 cKk2 cKk3 cKl0 cKl1 cKl2 cKl3 cKp0 cKp1 cKp2 cKr0 cKr1 cKr2 cKs0 cKs1 cKs2 cKj0 cKj1 cKj2 cKa0 cKa1 cKa2 cKb0 cKb1 cKb2
    go_wp2_with fail
    have hst0 : Below w9.heap.size w9 (w9.alloc (.cells #[.int .i64 (W : Int), .int .i64 (H : Int), .slice (some ⟨gc, 0, none⟩) N fc] 30)) := by (repeat' (first | exact Below.refl _ _ | exact Below.refl _ _ | refine balloc ?_ _ | refine Below.drew ?_ | refine below_drewN ?_ _ | refine bset ?_ (by first | omega | (simp <;> omega)) _))
    refine (HPU.out _ _ _ _ HKB.out.1 HKB.out.2.1 HKB.out.2.2.1 HKB.out.2.2.2 _ _ _ _ _ _ _ (Hqc.out.below hst0) (HhR.out.below hst0)).mono ?_
    rintro e_ w10 ⟨gd, fd, hgd, rfl, qd, hb⟩
    clear hgd
    have hst : Below w9.heap.size w9 w10 := btrans hst0 hb
    replace Kk := (Kk.alloc (.cells #[.int .i64 (W : Int), .int .i64 (H : Int), .slice (some ⟨gc, 0, none⟩) N fc] 30))
    replace Kl := (Kl.alloc (.cells #[.int .i64 (W : Int), .int .i64 (H : Int), .slice (some ⟨gc, 0, none⟩) N fc] 30))
    replace Kp := (Kp.alloc (.cells #[.int .i64 (W : Int), .int .i64 (H : Int), .slice (some ⟨gc, 0, none⟩) N fc] 30))
    replace Kr := (Kr.alloc (.cells #[.int .i64 (W : Int), .int .i64 (H : Int), .slice (some ⟨gc, 0, none⟩) N fc] 30))
    replace Ks := (Ks.alloc (.cells #[.int .i64 (W : Int), .int .i64 (H : Int), .slice (some ⟨gc, 0, none⟩) N fc] 30))
    replace Kj := (Kj.alloc (.cells #[.int .i64 (W : Int), .int .i64 (H : Int), .slice (some ⟨gc, 0, none⟩) N fc] 30))
    replace Ka := (Ka.alloc (.cells #[.int .i64 (W : Int), .int .i64 (H : Int), .slice (some ⟨gc, 0, none⟩) N fc] 30))
    replace Kb := (Kb.alloc (.cells #[.int .i64 (W : Int), .int .i64 (H : Int), .slice (some ⟨gc, 0, none⟩) N fc] 30))
    have Kc := (Blk.new w9 30 #[.int .i64 (W : Int), .int .i64 (H : Int), .slice (some ⟨gc, 0, none⟩) N fc])
    replace Kk := Kk.below hb Kk.lt
    replace Kl := Kl.below hb Kl.lt
    replace Kp := Kp.below hb Kp.lt
    replace Kr := Kr.below hb Kr.lt
    replace Ks := Ks.below hb Ks.lt
    replace Kj := Kj.below hb Kj.lt
    replace Ka := Ka.below hb Ka.lt
    replace Kb := Kb.below hb Kb.lt
    replace Kc := Kc.below hb Kc.lt
    replace hbw : Below w.heap.size w w10 := btrans hbw hst
    replace HI1 := Lib.hid (HI1.out.below hst)
    replace HI2 := Lib.hid (HI2.out.below hst)
    replace HI3 := Lib.hid (HI3.out.below hst)
    replace HhP := Lib.hid (HhP.out.below hst)
    replace HhR := Lib.hid (HhR.out.below hst)
    replace HhS := Lib.hid (HhS.out.below hst)
    replace HhJ := Lib.hid (HhJ.out.below hst)
    replace Hqa := Lib.hid (Hqa.out.below hst)
    replace Hqb := Lib.hid (Hqb.out.below hst)
    replace Hqc := Lib.hid (Hqc.out.below hst)
    clear hst hst0 hb lKk cKk0 cKk1 cKk2 cKk3 lKl cKl0 cKl1 cKl2 cKl3 lKp cKp0 cKp1 cKp2 lKr cKr0 cKr1 cKr2 lKs cKs0 cKs1 cKs2 lKj cKj0 cKj1 cKj2 lKa cKa0 cKa1 cKa2 lKb cKb0 cKb1 cKb2
    have Hqd := Lib.hid qd
    clear qd
    have lKk := Kk.lt
    have cKk0 := Kk.cell 0
    have cKk1 := Kk.cell 1
    have cKk2 := Kk.cell 2
    have cKk3 := Kk.cell 3
    have lKl := Kl.lt
    have cKl0 := Kl.cell 0
    have cKl1 := Kl.cell 1
    have cKl2 := Kl.cell 2
    have cKl3 := Kl.cell 3
    have lKp := Kp.lt
    have cKp0 := Kp.cell 0
    have cKp1 := Kp.cell 1
    have cKp2 := Kp.cell 2
    have lKr := Kr.lt
    have cKr0 := Kr.cell 0
    have cKr1 := Kr.cell 1
    have cKr2 := Kr.cell 2
    have lKs := Ks.lt
    have cKs0 := Ks.cell 0
    have cKs1 := Ks.cell 1
    have cKs2 := Ks.cell 2
    have lKj := Kj.lt
    have cKj0 := Kj.cell 0
    have cKj1 := Kj.cell 1
    have cKj2 := Kj.cell 2
    have lKa := Ka.lt
    have cKa0 := Ka.cell 0
    have cKa1 := Ka.cell 1
    have cKa2 := Ka.cell 2
    have lKb := Kb.lt
    have cKb0 := Kb.cell 0
    have cKb1 := Kb.cell 1
    have cKb2 := Kb.cell 2
    have lKc := Kc.lt
    have cKc0 := Kc.cell 0
    have cKc1 := Kc.cell 1
    have cKc2 := Kc.cell 2
    simp only [List.getElem?_toArray, List.getElem?_cons_succ, List.getElem?_cons_zero] at cKk0 cKk1 cKk2 cKk3 cKl0 cKl1 cKl2 cKl3 cKp0 cKp1 cKp2 cKr0 cKr1 cKr2 cKs0 cKs1 cKs2 cKj0 cKj1 cKj2 cKa0 cKa1 cKa2 cKb0 cKb1 cKb2 cKc0 cKc1 cKc2
    go_wp2_with fail
    have hst0 : Below w10.heap.size w10 (w10.alloc (.cells #[.int .i64 (W : Int), .int .i64 (H : Int), .slice (some ⟨gd, 0, none⟩) N fd] 30)) := by (repeat' (first | exact Below.refl _ _ | exact Below.refl _ _ | refine balloc ?_ _ | refine Below.drew ?_ | refine below_drewN ?_ _ | refine bset ?_ (by first | omega | (simp <;> omega)) _))
    refine (HPU.out _ _ _ _ HKB.out.1 HKB.out.2.1 HKB.out.2.2.1 HKB.out.2.2.2 _ _ _ _ _ _ _ (Hqa.out.below hst0) (HhS.out.below hst0)).mono ?_
    rintro e_ w11 ⟨gx, fx, hgx, rfl, qx, hb⟩
    clear hgx
    have hst : Below w10.heap.size w10 w11 := btrans hst0 hb
    replace Kk := (Kk.alloc (.cells #[.int .i64 (W : Int), .int .i64 (H : Int), .slice (some ⟨gd, 0, none⟩) N fd] 30))
    replace Kl := (Kl.alloc (.cells #[.int .i64 (W : Int), .int .i64 (H : Int), .slice (some ⟨gd, 0, none⟩) N fd] 30))
    replace Kp := (Kp.alloc (.cells #[.int .i64 (W : Int), .int .i64 (H : Int), .slice (some ⟨gd, 0, none⟩) N fd] 30))
    replace Kr := (Kr.alloc (.cells #[.int .i64 (W : Int), .int .i64 (H : Int), .slice (some ⟨gd, 0, none⟩) N fd] 30))
    replace Ks := (Ks.alloc (.cells #[.int .i64 (W : Int), .int .i64 (H : Int), .slice (some ⟨gd, 0, none⟩) N fd] 30))
    replace Kj := (Kj.alloc (.cells #[.int .i64 (W : Int), .int .i64 (H : Int), .slice (some ⟨gd, 0, none⟩) N fd] 30))
    replace Ka := (Ka.alloc (.cells #[.int .i64 (W : Int), .int .i64 (H : Int), .slice (some ⟨gd, 0, none⟩) N fd] 30))
    replace Kb := (Kb.alloc (.cells #[.int .i64 (W : Int), .int .i64 (H : Int), .slice (some ⟨gd, 0, none⟩) N fd] 30))
    replace Kc := (Kc.alloc (.cells #[.int .i64 (W : Int), .int .i64 (H : Int), .slice (some ⟨gd, 0, none⟩) N fd] 30))
    have Kd := (Blk.new w10 30 #[.int .i64 (W : Int), .int .i64 (H : Int), .slice (some ⟨gd, 0, none⟩) N fd])
    replace Kk := Kk.below hb Kk.lt
    replace Kl := Kl.below hb Kl.lt
    replace Kp := Kp.below hb Kp.lt
    replace Kr := Kr.below hb Kr.lt
    replace Ks := Ks.below hb Ks.lt
    replace Kj := Kj.below hb Kj.lt
    replace Ka := Ka.below hb Ka.lt
    replace Kb := Kb.below hb Kb.lt
    replace Kc := Kc.below hb Kc.lt
    replace Kd := Kd.below hb Kd.lt
    replace hbw : Below w.heap.size w w11 := btrans hbw hst
    replace HI1 := Lib.hid (HI1.out.below hst)
    replace HI2 := Lib.hid (HI2.out.below hst)
    replace HI3 := Lib.hid (HI3.out.below hst)
    replace HhP := Lib.hid (HhP.out.below hst)
    replace HhR := Lib.hid (HhR.out.below hst)
    replace HhS := Lib.hid (HhS.out.below hst)
    replace HhJ := Lib.hid (HhJ.out.below hst)
    replace Hqa := Lib.hid (Hqa.out.below hst)
    replace Hqb := Lib.hid (Hqb.out.below hst)
    replace Hqc := Lib.hid (Hqc.out.below hst)
    replace Hqd := Lib.hid (Hqd.out.below hst)
    clear hst hst0 hb lKk cKk0 cKk1 cKk2 cKk3 lKl cKl0 cKl1 cKl2 cKl3 lKp cKp0 cKp1 cKp2 lKr cKr0 cKr1 cKr2 lKs cKs0 cKs1 cKs2 lKj cKj0 cKj1 cKj2 lKa cKa0 cKa1 cKa2 lKb cKb0 cKb1 cKb2 lKc cKc0 cKc1 cKc2
    have Hqx := Lib.hid qx
    clear qx
    have lKk := Kk.lt
    have cKk0 := Kk.cell 0
    have cKk1 := Kk.cell 1
    have cKk2 := Kk.cell 2
    have cKk3 := Kk.cell 3
    have lKl := Kl.lt
    have cKl0 := Kl.cell 0
    have cKl1 := Kl.cell 1
    have cKl2 := Kl.cell 2
    have cKl3 := Kl.cell 3
    have lKp := Kp.lt
    have cKp0 := Kp.cell 0
    have cKp1 := Kp.cell 1
    have cKp2 := Kp.cell 2
    have lKr := Kr.lt
    have cKr0 := Kr.cell 0
    have cKr1 := Kr.cell 1
    have cKr2 := Kr.cell 2
    have lKs := Ks.lt
    have cKs0 := Ks.cell 0
    have cKs1 := Ks.cell 1
    have cKs2 := Ks.cell 2
    have lKj := Kj.lt
    have cKj0 := Kj.cell 0
    have cKj1 := Kj.cell 1
    have cKj2 := Kj.cell 2
    have lKa := Ka.lt
    have cKa0 := Ka.cell 0
    have cKa1 := Ka.cell 1
    have cKa2 := Ka.cell 2
    have lKb := Kb.lt
    have cKb0 := Kb.cell 0
    have cKb1 := Kb.cell 1
    have cKb2 := Kb.cell 2
    have lKc := Kc.lt
    have cKc0 := Kc.cell 0
    have cKc1 := Kc.cell 1
    have cKc2 := Kc.cell 2
    have lKd := Kd.lt
    have cKd0 := Kd.cell 0
    have cKd1 := Kd.cell 1
    have cKd2 := Kd.cell 2
    simp only [List.getElem?_toArray, List.getElem?_cons_succ, List.getElem?_cons_zero] at cKk0 cKk1 cKk2 cKk3 cKl0 cKl1 cKl2 cKl3 cKp0 cKp1 cKp2 cKr0 cKr1 cKr2 cKs0 cKs1 cKs2 cKj0 cKj1 cKj2 cKa0 cKa1 cKa2 cKb0 cKb1 cKb2 cKc0 cKc1 cKc2 cKd0 cKd1 cKd2
    go_wp2_with fail
    have hst0 : Below w11.heap.size w11 (w11.alloc (.cells #[.int .i64 (W : Int), .int .i64 (H : Int), .slice (some ⟨gx, 0, none⟩) N fx] 30)) := by (repeat' (first | exact Below.refl _ _ | exact Below.refl _ _ | refine balloc ?_ _ | refine Below.drew ?_ | refine below_drewN ?_ _ | refine bset ?_ (by first | omega | (simp <;> omega)) _))
    refine (HPU.out _ _ _ _ HKB.out.1 HKB.out.2.1 HKB.out.2.2.1 HKB.out.2.2.2 _ _ _ _ _ _ _ (HhP.out.below hst0) (HhJ.out.below hst0)).mono ?_
    rintro e_ w12 ⟨gy, fy, hgy, rfl, qy, hb⟩
    clear hgy
    have hst : Below w11.heap.size w11 w12 := btrans hst0 hb
    replace Kk := (Kk.alloc (.cells #[.int .i64 (W : Int), .int .i64 (H : Int), .slice (some ⟨gx, 0, none⟩) N fx] 30))
    replace Kl := (Kl.alloc (.cells #[.int .i64 (W : Int), .int .i64 (H : Int), .slice (some ⟨gx, 0, none⟩) N fx] 30))
    replace Kp := (Kp.alloc (.cells #[.int .i64 (W : Int), .int .i64 (H : Int), .slice (some ⟨gx, 0, none⟩) N fx] 30))
    replace Kr := (Kr.alloc (.cells #[.int .i64 (W : Int), .int .i64 (H : Int), .slice (some ⟨gx, 0, none⟩) N fx] 30))
    replace Ks := (Ks.alloc (.cells #[.int .i64 (W : Int), .int .i64 (H : Int), .slice (some ⟨gx, 0, none⟩) N fx] 30))
    replace Kj := (Kj.alloc (.cells #[.int .i64 (W : Int), .int .i64 (H : Int), .slice (some ⟨gx, 0, none⟩) N fx] 30))
    replace Ka := (Ka.alloc (.cells #[.int .i64 (W : Int), .int .i64 (H : Int), .slice (some ⟨gx, 0, none⟩) N fx] 30))
    replace Kb := (Kb.alloc (.cells #[.int .i64 (W : Int), .int .i64 (H : Int), .slice (some ⟨gx, 0, none⟩) N fx] 30))
    replace Kc := (Kc.alloc (.cells #[.int .i64 (W : Int), .int .i64 (H : Int), .slice (some ⟨gx, 0, none⟩) N fx] 30))
    replace Kd := (Kd.alloc (.cells #[.int .i64 (W : Int), .int .i64 (H : Int), .slice (some ⟨gx, 0, none⟩) N fx] 30))
    have Kx := (Blk.new w11 30 #[.int .i64 (W : Int), .int .i64 (H : Int), .slice (some ⟨gx, 0, none⟩) N fx])
    replace Kk := Kk.below hb Kk.lt
    replace Kl := Kl.below hb Kl.lt
    replace Kp := Kp.below hb Kp.lt
    replace Kr := Kr.below hb Kr.lt
    replace Ks := Ks.below hb Ks.lt
    replace Kj := Kj.below hb Kj.lt
    replace Ka := Ka.below hb Ka.lt
    replace Kb := Kb.below hb Kb.lt
    replace Kc := Kc.below hb Kc.lt
    replace Kd := Kd.below hb Kd.lt
    replace Kx := Kx.below hb Kx.lt
    replace hbw : Below w.heap.size w w12 := btrans hbw hst
    replace HI1 := Lib.hid (HI1.out.below hst)
    replace HI2 := Lib.hid (HI2.out.below hst)
    replace HI3 := Lib.hid (HI3.out.below hst)
    replace HhP := Lib.hid (HhP.out.below hst)
    replace HhR := Lib.hid (HhR.out.below hst)
    replace HhS := Lib.hid (HhS.out.below hst)
    replace HhJ := Lib.hid (HhJ.out.below hst)
    replace Hqa := Lib.hid (Hqa.out.below hst)
    replace Hqb := Lib.hid (Hqb.out.below hst)
    replace Hqc := Lib.hid (Hqc.out.below hst)
    replace Hqd := Lib.hid (Hqd.out.below hst)
    replace Hqx := Lib.hid (Hqx.out.below hst)
    clear hst hst0 hb lKk cKk0 cKk1 cKk2 cKk3 lKl cKl0 cKl1 cKl2 cKl3 lKp cKp0 cKp1 cKp2 lKr cKr0 cKr1 cKr2 lKs cKs0 cKs1 cKs2 lKj cKj0 cKj1 cKj2 lKa cKa0 cKa1 cKa2 lKb cKb0 cKb1 cKb2 lKc cKc0 cKc1 cKc2 lKd cKd0 cKd1 cKd2
    have Hqy := Lib.hid qy
    clear qy
    have lKk := Kk.lt
    have cKk0 := Kk.cell 0
    have cKk1 := Kk.cell 1
    have cKk2 := Kk.cell 2
    have cKk3 := Kk.cell 3
    have lKl := Kl.lt
    have cKl0 := Kl.cell 0
    have cKl1 := Kl.cell 1
    have cKl2 := Kl.cell 2
    have cKl3 := Kl.cell 3
    have lKp := Kp.lt
    have cKp0 := Kp.cell 0
    have cKp1 := Kp.cell 1
    have cKp2 := Kp.cell 2
    have lKr := Kr.lt
    have cKr0 := Kr.cell 0
    have cKr1 := Kr.cell 1
    have cKr2 := Kr.cell 2
    have lKs := Ks.lt
    have cKs0 := Ks.cell 0
    have cKs1 := Ks.cell 1
    have cKs2 := Ks.cell 2
    have lKj := Kj.lt
    have cKj0 := Kj.cell 0
    have cKj1 := Kj.cell 1
    have cKj2 := Kj.cell 2
    have lKa := Ka.lt
    have cKa0 := Ka.cell 0
    have cKa1 := Ka.cell 1
    have cKa2 := Ka.cell 2
    have lKb := Kb.lt
    have cKb0 := Kb.cell 0
    have cKb1 := Kb.cell 1
    have cKb2 := Kb.cell 2
    have lKc := Kc.lt
    have cKc0 := Kc.cell 0
    have cKc1 := Kc.cell 1
    have cKc2 := Kc.cell 2
    have lKd := Kd.lt
    have cKd0 := Kd.cell 0
    have cKd1 := Kd.cell 1
    have cKd2 := Kd.cell 2
    have lKx := Kx.lt
    have cKx0 := Kx.cell 0
    have cKx1 := Kx.cell 1
    have cKx2 := Kx.cell 2
    simp only [List.getElem?_toArray, List.getElem?_cons_succ, List.getElem?_cons_zero] at cKk0 cKk1 cKk2 cKk3 cKl0 cKl1 cKl2 cKl3 cKp0 cKp1 cKp2 cKr0 cKr1 cKr2 cKs0 cKs1 cKs2 cKj0 cKj1 cKj2 cKa0 cKa1 cKa2 cKb0 cKb1 cKb2 cKc0 cKc1 cKc2 cKd0 cKd1 cKd2 cKx0 cKx1 cKx2
    go_wp2_with fail
    have hst0 : Below w12.heap.size w12 (w12.alloc (.cells #[.int .i64 (W : Int), .int .i64 (H : Int), .slice (some ⟨gy, 0, none⟩) N fy] 30)) := by (repeat' (first | exact Below.refl _ _ | exact Below.refl _ _ | refine balloc ?_ _ | refine Below.drew ?_ | refine below_drewN ?_ _ | refine bset ?_ (by first | omega | (simp <;> omega)) _))
    refine (psame_yes _ _ _ _ _ _ _ _ _ _ (Hqb.out.below hst0) (Hqd.out.below hst0) (fun j _ => putB_swap W R S _ _ _ _ _ _ _ _ B j)).mono ?_
    rintro e_ w13 ⟨rfl, hb⟩
    have hst : Below w12.heap.size w12 w13 := btrans hst0 hb
    replace Kk := (Kk.alloc (.cells #[.int .i64 (W : Int), .int .i64 (H : Int), .slice (some ⟨gy, 0, none⟩) N fy] 30))
    replace Kl := (Kl.alloc (.cells #[.int .i64 (W : Int), .int .i64 (H : Int), .slice (some ⟨gy, 0, none⟩) N fy] 30))
    replace Kp := (Kp.alloc (.cells #[.int .i64 (W : Int), .int .i64 (H : Int), .slice (some ⟨gy, 0, none⟩) N fy] 30))
    replace Kr := (Kr.alloc (.cells #[.int .i64 (W : Int), .int .i64 (H : Int), .slice (some ⟨gy, 0, none⟩) N fy] 30))
    replace Ks := (Ks.alloc (.cells #[.int .i64 (W : Int), .int .i64 (H : Int), .slice (some ⟨gy, 0, none⟩) N fy] 30))
    replace Kj := (Kj.alloc (.cells #[.int .i64 (W : Int), .int .i64 (H : Int), .slice (some ⟨gy, 0, none⟩) N fy] 30))
    replace Ka := (Ka.alloc (.cells #[.int .i64 (W : Int), .int .i64 (H : Int), .slice (some ⟨gy, 0, none⟩) N fy] 30))
    replace Kb := (Kb.alloc (.cells #[.int .i64 (W : Int), .int .i64 (H : Int), .slice (some ⟨gy, 0, none⟩) N fy] 30))
    replace Kc := (Kc.alloc (.cells #[.int .i64 (W : Int), .int .i64 (H : Int), .slice (some ⟨gy, 0, none⟩) N fy] 30))
    replace Kd := (Kd.alloc (.cells #[.int .i64 (W : Int), .int .i64 (H : Int), .slice (some ⟨gy, 0, none⟩) N fy] 30))
    replace Kx := (Kx.alloc (.cells #[.int .i64 (W : Int), .int .i64 (H : Int), .slice (some ⟨gy, 0, none⟩) N fy] 30))
    have Ky := (Blk.new w12 30 #[.int .i64 (W : Int), .int .i64 (H : Int), .slice (some ⟨gy, 0, none⟩) N fy])
    replace Kk := Kk.below hb Kk.lt
    replace Kl := Kl.below hb Kl.lt
    replace Kp := Kp.below hb Kp.lt
    replace Kr := Kr.below hb Kr.lt
    replace Ks := Ks.below hb Ks.lt
    replace Kj := Kj.below hb Kj.lt
    replace Ka := Ka.below hb Ka.lt
    replace Kb := Kb.below hb Kb.lt
    replace Kc := Kc.below hb Kc.lt
    replace Kd := Kd.below hb Kd.lt
    replace Kx := Kx.below hb Kx.lt
    replace Ky := Ky.below hb Ky.lt
    replace hbw : Below w.heap.size w w13 := btrans hbw hst
    replace HI1 := Lib.hid (HI1.out.below hst)
    replace HI2 := Lib.hid (HI2.out.below hst)
    replace HI3 := Lib.hid (HI3.out.below hst)
    replace HhP := Lib.hid (HhP.out.below hst)
    replace HhR := Lib.hid (HhR.out.below hst)
    replace HhS := Lib.hid (HhS.out.below hst)
    replace HhJ := Lib.hid (HhJ.out.below hst)
    replace Hqa := Lib.hid (Hqa.out.below hst)
    replace Hqb := Lib.hid (Hqb.out.below hst)
    replace Hqc := Lib.hid (Hqc.out.below hst)
    replace Hqd := Lib.hid (Hqd.out.below hst)
    replace Hqx := Lib.hid (Hqx.out.below hst)
    replace Hqy := Lib.hid (Hqy.out.below hst)
    clear hst hst0 hb lKk cKk0 cKk1 cKk2 cKk3 lKl cKl0 cKl1 cKl2 cKl3 lKp cKp0 cKp1 cKp2 lKr cKr0 cKr1 cKr2 lKs cKs0 cKs1 cKs2 lKj cKj0 cKj1 cKj2 lKa cKa0 cKa1 cKa2 lKb cKb0 cKb1 cKb2 lKc cKc0 cKc1 cKc2 lKd cKd0 cKd1 cKd2 lKx cKx0 cKx1 cKx2
    have lKk := Kk.lt
    have cKk0 := Kk.cell 0
    have cKk1 := Kk.cell 1
    have cKk2 := Kk.cell 2
    have cKk3 := Kk.cell 3
    have lKl := Kl.lt
    have cKl0 := Kl.cell 0
    have cKl1 := Kl.cell 1
    have cKl2 := Kl.cell 2
    have cKl3 := Kl.cell 3
    have lKp := Kp.lt
    have cKp0 := Kp.cell 0
    have cKp1 := Kp.cell 1
    have cKp2 := Kp.cell 2
    have lKr := Kr.lt
    have cKr0 := Kr.cell 0
    have cKr1 := Kr.cell 1
    have cKr2 := Kr.cell 2
    have lKs := Ks.lt
    have cKs0 := Ks.cell 0
    have cKs1 := Ks.cell 1
    have cKs2 := Ks.cell 2
    have lKj := Kj.lt
    have cKj0 := Kj.cell 0
    have cKj1 := Kj.cell 1
    have cKj2 := Kj.cell 2
    have lKa := Ka.lt
    have cKa0 := Ka.cell 0
    have cKa1 := Ka.cell 1
    have cKa2 := Ka.cell 2
    have lKb := Kb.lt
    have cKb0 := Kb.cell 0
    have cKb1 := Kb.cell 1
    have cKb2 := Kb.cell 2
    have lKc := Kc.lt
    have cKc0 := Kc.cell 0
    have cKc1 := Kc.cell 1
    have cKc2 := Kc.cell 2
    have lKd := Kd.lt
    have cKd0 := Kd.cell 0
    have cKd1 := Kd.cell 1
    have cKd2 := Kd.cell 2
    have lKx := Kx.lt
    have cKx0 := Kx.cell 0
    have cKx1 := Kx.cell 1
    have cKx2 := Kx.cell 2
    have lKy := Ky.lt
    have cKy0 := Ky.cell 0
    have cKy1 := Ky.cell 1
    have cKy2 := Ky.cell 2
    simp only [List.getElem?_toArray, List.getElem?_cons_succ, List.getElem?_cons_zero] at cKk0 cKk1 cKk2 cKk3 cKl0 cKl1 cKl2 cKl3 cKp0 cKp1 cKp2 cKr0 cKr1 cKr2 cKs0 cKs1 cKs2 cKj0 cKj1 cKj2 cKa0 cKa1 cKa2 cKb0 cKb1 cKb2 cKc0 cKc1 cKc2 cKd0 cKd1 cKd2 cKx0 cKx1 cKx2 cKy0 cKy1 cKy2
    go_wp2_with fail
    have hst0 : Below w13.heap.size w13 w13 := by (repeat' (first | exact Below.refl _ _ | exact Below.refl _ _ | refine balloc ?_ _ | refine Below.drew ?_ | refine below_drewN ?_ _ | refine bset ?_ (by first | omega | (simp <;> omega)) _))
    refine (psame_yes _ _ _ _ _ _ _ _ _ _ (Hqx.out.below hst0) (Hqy.out.below hst0) (fun j _ => putB_join W R S _ _ _ _ B j)).mono ?_
    rintro e_ w14 ⟨rfl, hb⟩
    have hst : Below w13.heap.size w13 w14 := btrans hst0 hb
    replace Kk := Kk.below hb Kk.lt
    replace Kl := Kl.below hb Kl.lt
    replace Kp := Kp.below hb Kp.lt
    replace Kr := Kr.below hb Kr.lt
    replace Ks := Ks.below hb Ks.lt
    replace Kj := Kj.below hb Kj.lt
    replace Ka := Ka.below hb Ka.lt
    replace Kb := Kb.below hb Kb.lt
    replace Kc := Kc.below hb Kc.lt
    replace Kd := Kd.below hb Kd.lt
    replace Kx := Kx.below hb Kx.lt
    replace Ky := Ky.below hb Ky.lt
    replace hbw : Below w.heap.size w w14 := btrans hbw hst
    replace HI1 := Lib.hid (HI1.out.below hst)
    replace HI2 := Lib.hid (HI2.out.below hst)
    replace HI3 := Lib.hid (HI3.out.below hst)
    replace HhP := Lib.hid (HhP.out.below hst)
    replace HhR := Lib.hid (HhR.out.below hst)
    replace HhS := Lib.hid (HhS.out.below hst)
    replace HhJ := Lib.hid (HhJ.out.below hst)
    replace Hqa := Lib.hid (Hqa.out.below hst)
    replace Hqb := Lib.hid (Hqb.out.below hst)
    replace Hqc := Lib.hid (Hqc.out.below hst)
    replace Hqd := Lib.hid (Hqd.out.below hst)
    replace Hqx := Lib.hid (Hqx.out.below hst)
    replace Hqy := Lib.hid (Hqy.out.below hst)
    clear hst hst0 hb lKk cKk0 cKk1 cKk2 cKk3 lKl cKl0 cKl1 cKl2 cKl3 lKp cKp0 cKp1 cKp2 lKr cKr0 cKr1 cKr2 lKs cKs0 cKs1 cKs2 lKj cKj0 cKj1 cKj2 lKa cKa0 cKa1 cKa2 lKb cKb0 cKb1 cKb2 lKc cKc0 cKc1 cKc2 lKd cKd0 cKd1 cKd2 lKx cKx0 cKx1 cKx2 lKy cKy0 cKy1 cKy2
    have lKk := Kk.lt
    have cKk0 := Kk.cell 0
    have cKk1 := Kk.cell 1
    have cKk2 := Kk.cell 2
    have cKk3 := Kk.cell 3
    have lKl := Kl.lt
    have cKl0 := Kl.cell 0
    have cKl1 := Kl.cell 1
    have cKl2 := Kl.cell 2
    have cKl3 := Kl.cell 3
    have lKp := Kp.lt
    have cKp0 := Kp.cell 0
    have cKp1 := Kp.cell 1
    have cKp2 := Kp.cell 2
    have lKr := Kr.lt
    have cKr0 := Kr.cell 0
    have cKr1 := Kr.cell 1
    have cKr2 := Kr.cell 2
    have lKs := Ks.lt
    have cKs0 := Ks.cell 0
    have cKs1 := Ks.cell 1
    have cKs2 := Ks.cell 2
    have lKj := Kj.lt
    have cKj0 := Kj.cell 0
    have cKj1 := Kj.cell 1
    have cKj2 := Kj.cell 2
    have lKa := Ka.lt
    have cKa0 := Ka.cell 0
    have cKa1 := Ka.cell 1
    have cKa2 := Ka.cell 2
    have lKb := Kb.lt
    have cKb0 := Kb.cell 0
    have cKb1 := Kb.cell 1
    have cKb2 := Kb.cell 2
    have lKc := Kc.lt
    have cKc0 := Kc.cell 0
    have cKc1 := Kc.cell 1
    have cKc2 := Kc.cell 2
    have lKd := Kd.lt
    have cKd0 := Kd.cell 0
    have cKd1 := Kd.cell 1
    have cKd2 := Kd.cell 2
    have lKx := Kx.lt
    have cKx0 := Kx.cell 0
    have cKx1 := Kx.cell 1
    have cKx2 := Kx.cell 2
    have lKy := Ky.lt
    have cKy0 := Ky.cell 0
    have cKy1 := Ky.cell 1
    have cKy2 := Ky.cell 2
    simp only [List.getElem?_toArray, List.getElem?_cons_succ, List.getElem?_cons_zero] at cKk0 cKk1 cKk2 cKk3 cKl0 cKl1 cKl2 cKl3 cKp0 cKp1 cKp2 cKr0 cKr1 cKr2 cKs0 cKs1 cKs2 cKj0 cKj1 cKj2 cKa0 cKa1 cKa2 cKb0 cKb1 cKb2 cKc0 cKc1 cKc2 cKd0 cKd1 cKd2 cKx0 cKx1 cKx2 cKy0 cKy1 cKy2
    go_wp2_with fail
    go_ret
    exact ⟨rfl, hbw⟩
end Go.Proofs.Ytmjpmeigfdgioaa.rg
