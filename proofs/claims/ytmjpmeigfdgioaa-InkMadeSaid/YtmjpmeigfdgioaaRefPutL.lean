/-
  The reference's Put. (PRUNE)
-/
import Derived.Test.YtmjpmeigfdgioaaRefCopied
import Derived.Test.YtmjpmeigfdgioaaPut
import Derived.Test.YtmjpmeigfdgioaaRefPut
import Derived.Test.YtmjpmeigfdgioaaUpTail
import Derived.BigQuiet
namespace Go.Proofs.Ytmjpmeigfdgioaa.rg
set_option linter.unusedVariables false
set_option linter.unusedSimpArgs false
open Go.RowKit bs sp ik

/-- the boxes and the bytes while the reference's Put goes on -/
def RP (w : World) (g n f q : Nat) (W H x y z a : Int) (pv rv : Array Value) (B : Nat → Int) (wr : World) : Prop :=
  (∃ cs, Blk wr g 5 cs ∧ Holds cs n B) ∧ Blk wr w.heap.size 30 pv ∧ Blk wr (w.heap.size + 1) 35 rv ∧ Blk wr (w.heap.size + 1 + 1) 27 #[.int .u8 x, .int .u8 y, .int .u8 z, .int .u8 a] ∧ Blk wr (w.heap.size + 1 + 1 + 1) 30 #[.int .i64 0, .int .i64 0, .slice none 0 0] ∧
    Blk wr q 30 #[.int .i64 W, .int .i64 H, .slice (some ⟨g, 0, none⟩) n f] ∧ Blk wr (q + 1) 72 #[.int .u8 x, .int .u8 y, .int .u8 z] ∧ Below w.heap.size w wr
theorem RP.below {w : World} {g n f q : Nat} {W H x y z a : Int} {pv rv : Array Value} {B : Nat → Int} {wr w' : World} (h : RP w g n f q W H x y z a pv rv B wr) (hb : Below wr.heap.size wr w') : RP w g n f q W H x y z a pv rv B w' := by
  obtain ⟨⟨cs, h1, h2⟩, h3, h4, h5, h6, h7, h8, h9⟩ := h
  exact ⟨⟨cs, h1.below hb h1.lt, h2⟩, h3.below hb h3.lt, h4.below hb h4.lt, h5.below hb h5.lt, h6.below hb h6.lt, h7.below hb h7.lt, h8.below hb h8.lt, btrans h9 hb⟩
theorem RP.ext {w : World} {g n f q : Nat} {W H x y z a : Int} {pv rv : Array Value} {B C : Nat → Int} {wr : World} (h : RP w g n f q W H x y z a pv rv B wr) (e : ∀ j, j < n → B j = C j) : RP w g n f q W H x y z a pv rv C wr := by
  obtain ⟨⟨cs, h1, h2⟩, h3⟩ := h
  exact ⟨⟨cs, h1, h2.ext e⟩, h3⟩
theorem RP.put {w : World} {g n f q : Nat} {W H x y z a : Int} {pv rv : Array Value} {B : Nat → Int} {wr : World} (h : RP w g n f q W H x y z a pv rv B wr) (k : Nat) (v : Int) (h0 : 0 ≤ v) (h1 : v ≤ 255) (hg : w.heap.size + 1 + 1 + 1 < g) (hq : g < q) : RP w g n f q W H x y z a pv rv (fun j => if j = k then v else B j) (wr.setCell ⟨g, k, none⟩ (.int .u8 v)) := by
  obtain ⟨⟨cs, a1, a2⟩, h3, h4, h5, h6, h7, h8, h9⟩ := h
  have e : ∀ b, b ≠ g → b ≠ (⟨g, k, none⟩ : Addr).block := fun b hb => hb
  exact ⟨⟨_, a1.set_ k _, a2.put k v h0 h1⟩, h3.far (e _ (by omega)) _, h4.far (e _ (by omega)) _, h5.far (e _ (by omega)) _, h6.far (e _ (by omega)) _, h7.far (e _ (by omega)) _, h8.far (e _ (by omega)) _, bset h9 (show w.heap.size ≤ g by omega) _⟩
/-- the row's box too -/
def RQ (w : World) (g n f q : Nat) (W H x y z a : Int) (pv rv : Array Value) (k : Nat) (S : Nat → Bool) (B : Nat → Int) (wr : World) : Prop :=
  RP w g n f q W H x y z a pv rv B wr ∧ Blk wr k 64 (rowC S) ∧ g ≠ k
theorem RQ.below {w : World} {g n f q k : Nat} {W H x y z a : Int} {pv rv : Array Value} {S : Nat → Bool} {B : Nat → Int} {wr w' : World} (h : RQ w g n f q W H x y z a pv rv k S B wr) (hb : Below wr.heap.size wr w') : RQ w g n f q W H x y z a pv rv k S B w' :=
  ⟨h.1.below hb, h.2.1.below hb h.2.1.lt, h.2.2⟩
theorem RQ.put {w : World} {g n f q : Nat} {W H x y z a : Int} {pv rv : Array Value} {B : Nat → Int} {kr : Nat} {S : Nat → Bool} {wr : World} (h : RQ w g n f q W H x y z a pv rv kr S B wr) (k : Nat) (v : Int) (h0 : 0 ≤ v) (h1 : v ≤ 255) (hg : w.heap.size + 1 + 1 + 1 < g) (hq : g < q) : RQ w g n f q W H x y z a pv rv kr S (fun j => if j = k then v else B j) (wr.setCell ⟨g, k, none⟩ (.int .u8 v)) :=
  ⟨h.1.put k v h0 h1 hg hq, h.2.1.far (show kr ≠ g from fun e => h.2.2 e.symm) _, h.2.2⟩
theorem RQ.ext {w : World} {g n f q : Nat} {W H x y z a : Int} {pv rv : Array Value} {B C : Nat → Int} {kr : Nat} {S : Nat → Bool} {wr : World} (h : RQ w g n f q W H x y z a pv rv kr S B wr) (e : ∀ j, j < n → B j = C j) : RQ w g n f q W H x y z a pv rv kr S C wr := ⟨h.1.ext e, h.2⟩
theorem setPg3 {w : World} {g n c q : Nat} {B : Nat → Int} (h : Pg w (some ⟨g, 0, none⟩) n c B) (hq : g ≠ q) (x0 x1 x2 : Value) : Pg (((w.setCell ⟨q, 0, none⟩ x0).setCell ⟨q, 1, none⟩ x1).setCell ⟨q, 2, none⟩ x2) (some ⟨g, 0, none⟩) n c B := by
  obtain ⟨h1, b, o, e, h3, h4⟩ := h
  cases e
  have far : ∀ (v : World) (o1 o2 : Nat) (u : Value), (v.setCell ⟨q, o1, none⟩ u).cell? ⟨g, o2, none⟩ = v.cell? ⟨g, o2, none⟩ := fun v o1 o2 u => World.cell?_setCell_other v _ _ u (fun h => by have := (Addr.mk.inj h).1; omega)
  refine ⟨h1, g, 0, rfl, by simpa using h3, fun j hj => ⟨?_, (h4 j hj).2⟩⟩
  rw [far, far, far]
  exact (h4 j hj).1

set_option maxRecDepth 100000 in
set_option maxHeartbeats 3200000 in
theorem rput36_any (W H n c d : Nat) (A D : Option Addr) (R : Nat → Nat → Bool) (x y z a : Int) (B : Nat → Int) (w : World) (hW : 1 ≤ W ∧ W ≤ 64) (hH : 1 ≤ H ∧ H ≤ 64) (hn : n = 3 * (W * H)) (hx : 0 ≤ x ∧ x ≤ 255) (hy : 0 ≤ y ∧ y ≤ 255) (hz : 0 ≤ z ∧ z ≤ 255) (ha : 0 ≤ a ∧ a ≤ 255)
    (hp : Pg w A n c B) (hr : Rows w D H d (rowsOf W R)) :
    Calls Try.prog 19 #[.agg #[.int .i64 (W : Int), .int .i64 (H : Int), .slice A n c], .agg #[.int .i64 (W : Int), .int .i64 (H : Int), .slice D H d], .agg #[.int .u8 x, .int .u8 y, .int .u8 z, .int .u8 a]] w fun e w' =>
      ∃ g f, w.heap.size ≤ g ∧ e = .returned (.tuple #[.agg #[.int .i64 (W : Int), .int .i64 (H : Int), .slice (some ⟨g, 0, none⟩) n f], .int .i64 0]) ∧ Pg w' (some ⟨g, 0, none⟩) n f (putB W R x y z a B) ∧ Below w.heap.size w w' := by
  have hs := page_size hW hH
  rw [← hn] at hs
  have HF := Lib.hid (fun W' hr => fair_yes W H n c d A D R W' hW hH hn hr)
  have HC := Lib.hid (fun W' hp => rcopied_any (W : Int) (H : Int) n c A B W' hs.1 hs.2 hp)
  have HP := Lib.hid hp
  have HR := Lib.hid hr
  have HR0 := Lib.hid (show ∀ u, Below w.heap.size w u → Rows u D H d (rowsOf W R) from fun u hu => hr.below hu)
  have HN := Lib.hid hn
  have HX := Lib.hid hx
  have HY := Lib.hid hy
  have HZ := Lib.hid hz
  have HA := Lib.hid ha
  have HWW := Lib.hid hW
  have HHH := Lib.hid hH
  obtain ⟨hs0, hs1⟩ := hs
  obtain ⟨hW0, hW1⟩ := hW
  obtain ⟨hH0, hH1⟩ := hH
  clear hp hr hn hx hy hz ha
  go_enter Try.func19, Try.ntmps19
  go_wp2_with fail
  have hst0 : Below w.heap.size w ((((w.alloc (.cells #[.int .i64 (W : Int), .int .i64 (H : Int), .slice A n c] 30)).alloc (.cells #[.int .i64 (W : Int), .int .i64 (H : Int), .slice D H d] 35)).alloc (.cells #[.int .u8 x, .int .u8 y, .int .u8 z, .int .u8 a] 27)).alloc (.cells #[.int .i64 0, .int .i64 0, .slice none 0 0] 30)) := by (repeat' (first | exact Below.refl _ _ | exact Below.refl _ _ | refine balloc ?_ _ | refine Below.drew ?_ | refine below_drewN ?_ _ | refine bset ?_ (by first | omega | (simp <;> omega)) _))
  refine (HF.out _ (HR.out.below hst0)).mono ?_
  rintro e_ w1 ⟨rfl, hb⟩
  have hst : Below w.heap.size w w1 := btrans hst0 hb
  have Kp := ((((Blk.new w 30 #[.int .i64 (W : Int), .int .i64 (H : Int), .slice A n c]).alloc (.cells #[.int .i64 (W : Int), .int .i64 (H : Int), .slice D H d] 35)).alloc (.cells #[.int .u8 x, .int .u8 y, .int .u8 z, .int .u8 a] 27)).alloc (.cells #[.int .i64 0, .int .i64 0, .slice none 0 0] 30))
  have Kr := (((Blk.new (w.alloc (.cells #[.int .i64 (W : Int), .int .i64 (H : Int), .slice A n c] 30)) 35 #[.int .i64 (W : Int), .int .i64 (H : Int), .slice D H d]).alloc (.cells #[.int .u8 x, .int .u8 y, .int .u8 z, .int .u8 a] 27)).alloc (.cells #[.int .i64 0, .int .i64 0, .slice none 0 0] 30))
  have hz_Kr : (w.alloc (.cells #[.int .i64 (W : Int), .int .i64 (H : Int), .slice A n c] 30)).heap.size = w.heap.size + 1 := by simp
  rw [hz_Kr] at Kr
  clear hz_Kr
  have Ki := ((Blk.new ((w.alloc (.cells #[.int .i64 (W : Int), .int .i64 (H : Int), .slice A n c] 30)).alloc (.cells #[.int .i64 (W : Int), .int .i64 (H : Int), .slice D H d] 35)) 27 #[.int .u8 x, .int .u8 y, .int .u8 z, .int .u8 a]).alloc (.cells #[.int .i64 0, .int .i64 0, .slice none 0 0] 30))
  have hz_Ki : ((w.alloc (.cells #[.int .i64 (W : Int), .int .i64 (H : Int), .slice A n c] 30)).alloc (.cells #[.int .i64 (W : Int), .int .i64 (H : Int), .slice D H d] 35)).heap.size = w.heap.size + 1 + 1 := by simp
  rw [hz_Ki] at Ki
  clear hz_Ki
  have Kz := (Blk.new (((w.alloc (.cells #[.int .i64 (W : Int), .int .i64 (H : Int), .slice A n c] 30)).alloc (.cells #[.int .i64 (W : Int), .int .i64 (H : Int), .slice D H d] 35)).alloc (.cells #[.int .u8 x, .int .u8 y, .int .u8 z, .int .u8 a] 27)) 30 #[.int .i64 0, .int .i64 0, .slice none 0 0])
  have hz_Kz : (((w.alloc (.cells #[.int .i64 (W : Int), .int .i64 (H : Int), .slice A n c] 30)).alloc (.cells #[.int .i64 (W : Int), .int .i64 (H : Int), .slice D H d] 35)).alloc (.cells #[.int .u8 x, .int .u8 y, .int .u8 z, .int .u8 a] 27)).heap.size = w.heap.size + 1 + 1 + 1 := by simp
  rw [hz_Kz] at Kz
  clear hz_Kz
  replace Kp := Kp.below hb Kp.lt
  replace Kr := Kr.below hb Kr.lt
  replace Ki := Ki.below hb Ki.lt
  replace Kz := Kz.below hb Kz.lt
  have hbw : Below w.heap.size w w1 := hst
  replace HP := Lib.hid (HP.out.below hst)
  replace HR := Lib.hid (HR.out.below hst)
  clear hst hst0 hb 
  have lKp := Kp.lt
  have cKp0 := Kp.cell 0
  have cKp1 := Kp.cell 1
  have cKp2 := Kp.cell 2
  have lKr := Kr.lt
  have cKr0 := Kr.cell 0
  have cKr1 := Kr.cell 1
  have cKr2 := Kr.cell 2
  have lKi := Ki.lt
  have cKi0 := Ki.cell 0
  have cKi1 := Ki.cell 1
  have cKi2 := Ki.cell 2
  have cKi3 := Ki.cell 3
  have lKz := Kz.lt
  have cKz0 := Kz.cell 0
  have cKz1 := Kz.cell 1
  have cKz2 := Kz.cell 2
  simp only [List.getElem?_toArray, List.getElem?_cons_succ, List.getElem?_cons_zero] at cKp0 cKp1 cKp2 cKr0 cKr1 cKr2 cKi0 cKi1 cKi2 cKi3 cKz0 cKz1 cKz2
  go_wp2_with fail
  have hst0 : Below w1.heap.size w1 w1 := by (repeat' (first | exact Below.refl _ _ | exact Below.refl _ _ | refine balloc ?_ _ | refine Below.drew ?_ | refine below_drewN ?_ _ | refine bset ?_ (by first | omega | (simp <;> omega)) _))
  refine (HC.out _ (HP.out.below hst0)).mono ?_
  rintro e_ w2 ⟨g, f, cs, hge, rfl, hnf, hBk, hHo, hb⟩
  have hg3 : w.heap.size + 1 + 1 + 1 < g := Nat.lt_of_lt_of_le lKz hge
  clear hge
  have hst : Below w1.heap.size w1 w2 := btrans hst0 hb
  replace Kp := Kp.below hb Kp.lt
  replace Kr := Kr.below hb Kr.lt
  replace Ki := Ki.below hb Ki.lt
  replace Kz := Kz.below hb Kz.lt
  replace hbw : Below w.heap.size w w2 := btrans hbw hst
  replace HP := Lib.hid (HP.out.below hst)
  replace HR := Lib.hid (HR.out.below hst)
  clear hst hst0 hb lKp cKp0 cKp1 cKp2 lKr cKr0 cKr1 cKr2 lKi cKi0 cKi1 cKi2 cKi3 lKz cKz0 cKz1 cKz2
  have lKp := Kp.lt
  have cKp0 := Kp.cell 0
  have cKp1 := Kp.cell 1
  have cKp2 := Kp.cell 2
  have lKr := Kr.lt
  have cKr0 := Kr.cell 0
  have cKr1 := Kr.cell 1
  have cKr2 := Kr.cell 2
  have lKi := Ki.lt
  have cKi0 := Ki.cell 0
  have cKi1 := Ki.cell 1
  have cKi2 := Ki.cell 2
  have cKi3 := Ki.cell 3
  have lKz := Kz.lt
  have cKz0 := Kz.cell 0
  have cKz1 := Kz.cell 1
  have cKz2 := Kz.cell 2
  simp only [List.getElem?_toArray, List.getElem?_cons_succ, List.getElem?_cons_zero] at cKp0 cKp1 cKp2 cKr0 cKr1 cKr2 cKi0 cKi1 cKi2 cKi3 cKz0 cKz1 cKz2
  have hgl := hBk.lt
  go_wp2_with fail
  have hBk2 := (hBk.alloc (.cells #[.int .i64 (W : Int), .int .i64 (H : Int), .slice (some ⟨g, 0, none⟩) n f] 30)).alloc (.cells #[.int .u8 x, .int .u8 y, .int .u8 z] 72)
  replace Kp := ((Kp.alloc (.cells #[.int .i64 (W : Int), .int .i64 (H : Int), .slice (some ⟨g, 0, none⟩) n f] 30)).alloc (.cells #[.int .u8 x, .int .u8 y, .int .u8 z] 72))
  replace Kr := ((Kr.alloc (.cells #[.int .i64 (W : Int), .int .i64 (H : Int), .slice (some ⟨g, 0, none⟩) n f] 30)).alloc (.cells #[.int .u8 x, .int .u8 y, .int .u8 z] 72))
  replace Ki := ((Ki.alloc (.cells #[.int .i64 (W : Int), .int .i64 (H : Int), .slice (some ⟨g, 0, none⟩) n f] 30)).alloc (.cells #[.int .u8 x, .int .u8 y, .int .u8 z] 72))
  replace Kz := ((Kz.alloc (.cells #[.int .i64 (W : Int), .int .i64 (H : Int), .slice (some ⟨g, 0, none⟩) n f] 30)).alloc (.cells #[.int .u8 x, .int .u8 y, .int .u8 z] 72))
  have Kq := ((Blk.new w2 30 #[.int .i64 (W : Int), .int .i64 (H : Int), .slice (some ⟨g, 0, none⟩) n f]).alloc (.cells #[.int .u8 x, .int .u8 y, .int .u8 z] 72))
  have Kc := (Blk.new (w2.alloc (.cells #[.int .i64 (W : Int), .int .i64 (H : Int), .slice (some ⟨g, 0, none⟩) n f] 30)) 72 #[.int .u8 x, .int .u8 y, .int .u8 z])
  have hz_Kc : (w2.alloc (.cells #[.int .i64 (W : Int), .int .i64 (H : Int), .slice (some ⟨g, 0, none⟩) n f] 30)).heap.size = w2.heap.size + 1 := by simp
  rw [hz_Kc] at Kc
  clear hz_Kc
  have hq : g < w2.heap.size := hgl
  have hbw2 : Below w.heap.size w ((w2.alloc (.cells #[.int .i64 (W : Int), .int .i64 (H : Int), .slice (some ⟨g, 0, none⟩) n f] 30)).alloc (.cells #[.int .u8 x, .int .u8 y, .int .u8 z] 72)) := by (repeat' (first | exact hbw | exact Below.refl _ _ | refine balloc ?_ _ | refine Below.drew ?_ | refine below_drewN ?_ _ | refine bset ?_ (by first | omega | (simp <;> omega)) _))
  have HREL := Lib.hid (show RP w g n f w2.heap.size (W : Int) (H : Int) x y z a #[.int .i64 (W : Int), .int .i64 (H : Int), .slice A n c] #[.int .i64 (W : Int), .int .i64 (H : Int), .slice D H d] (partB W R x y z a B 0) ((w2.alloc (.cells #[.int .i64 (W : Int), .int .i64 (H : Int), .slice (some ⟨g, 0, none⟩) n f] 30)).alloc (.cells #[.int .u8 x, .int .u8 y, .int .u8 z] 72)) from ⟨⟨cs, hBk2, hHo.ext fun j _ => partB_zero W R x y z a B j⟩, Kp, Kr, Ki, Kz, Kq, Kc, hbw2⟩)
  clear hBk hBk2 hHo hgl Kp Kr Ki Kz Kq Kc hbw2 HP HF HC lKp cKp0 cKp1 cKp2 lKr cKr0 cKr1 cKr2 lKi cKi0 cKi1 cKi2 cKi3 lKz cKz0 cKz1 cKz2
  obtain ⟨q, hqe⟩ : ∃ q, w2.heap.size = q := ⟨_, rfl⟩
  rw [hqe] at hq HREL
  simp only [hqe]
  go_loopw [10] (fun jv wr => ∃ j : Nat, j ≤ H ∧ jv = .int .i64 (j : Int) ∧ Hid (RP w g n f q (W : Int) (H : Int) x y z a #[.int .i64 (W : Int), .int .i64 (H : Int), .slice A n c] #[.int .i64 (W : Int), .int .i64 (H : Int), .slice D H d] (partB W R x y z a B (j * W)) wr)) (fun jv _ => 64 - (intOf jv).toNat)
  case atStart => exact ⟨0, Nat.zero_le _, rfl, Lib.hid (by rw [Nat.zero_mul]; exact HREL.out)⟩
  case round =>
    clear HREL hqe hbw
    obtain ⟨j, hj, rfl, hR⟩ := hrel
    obtain ⟨wo, rfl⟩ : ∃ wo, wo = wr := ⟨_, rfl⟩
    obtain ⟨⟨cs1, hG, hHo⟩, Kp, Kr, Ki, Kz, Kq, Kc, hbw⟩ := id hR.out
    have p0 := Kp.cell 0; have p1 := Kp.cell 1; have r2 := Kr.cell 2
    have q0 := Kq.cell 0; have q1 := Kq.cell 1; have q2 := Kq.cell 2
    have y0 := Kz.frozen 0; have y1 := Kz.frozen 1; have y2 := Kz.frozen 2
    have z0 := Kz.cell 0; have z1 := Kz.cell 1; have z2 := Kz.cell 2
    simp only [List.getElem?_toArray, List.getElem?_cons_succ, List.getElem?_cons_zero] at p0 p1 r2 q0 q1 q2 z0 z1 z2
    by_cases hend : j = H
    · subst hend
      have HFIN := Lib.hid (Pg.ext (Holds.pg hHo hG hnf) fun t ht => partB_all W j R x y z a B t (by rw [← HN.out]; exact ht))
      have HGl := hG.lt
      have HKz := Lib.hid Kz
      have HBW := Lib.hid hbw
      clear hR hG hHo Kp Kr Ki Kz Kq Kc hbw p0 r2
      go_wp2_with fail
      refine ret_struct2 (g := w.heap.size + 1 + 1 + 1) (t := 30) (cs := #[.int .i64 (W : Int), .int .i64 (j : Int), .slice (some ⟨g, 0, none⟩) n f]) rfl rfl ?_ Try.underlying30 rfl rfl rfl ?_
      · exact ((HKz.out.set_ 0 (.int .i64 (W : Int))).set_ 1 (.int .i64 (j : Int))).set_ 2 (.slice (some ⟨g, 0, none⟩) n f)
      · exact ⟨g, f, by omega, rfl, setPg3 HFIN.out (by omega) _ _ _, bset (bset (bset HBW.out (show w.heap.size ≤ w.heap.size + 1 + 1 + 1 by omega) _) (show w.heap.size ≤ w.heap.size + 1 + 1 + 1 by omega) _) (show w.heap.size ≤ w.heap.size + 1 + 1 + 1 by omega) _⟩
    · have hjH : j < H := by omega
      obtain ⟨b, o, hD, hlt, hrow⟩ := (HR0.out wo hbw).at_ (by omega)
      subst hD
      obtain ⟨hll, Aj, cj, hcj, hrj⟩ := hrow j hjH
      have hji : (j : Int) < (H : Int) := by omega
      obtain ⟨lj, hlj⟩ : ∃ l, rowsOf W R j = l := ⟨_, rfl⟩
      rw [hlj] at hll hcj hrj
      have HRJ := Lib.hid hrj
      have HLJ := Lib.hid hlj
      clear hrj hlj hG hHo Kp Kr Ki Kz Kq Kc q0 q1 q2 y0 y1 y2 z0 z1 z2 hrow
      go_wp2_with fail
      refine (places_any Aj _ cj lj _ HRJ.out hll).mono ?_
      rintro e_ w5 ⟨rfl, hb5⟩
      have HR5 := Lib.hid (RP.below hR.out hb5)
      have K1 := Blk.new w5 64 (Array.replicate 64 (.bool false))
      clear hR hbw p0 p1 r2 hcj HRJ hll
      go_wp2_with (refine wpList_store_row rfl 64 (.tmp 11) (.tmp 40) rfl _ (rowC (inRuns lj)) rfl rfl _ _ K1 (by rw [rowC_size]; kernel_rfl) (by rw [rowC_size]; rfl) (rowC_one _) ?_)
      have HRQ := Lib.hid (show RQ w g n f q (W : Int) (H : Int) x y z a #[.int .i64 (W : Int), .int .i64 (H : Int), .slice A n c] #[.int .i64 (W : Int), .int .i64 (H : Int), .slice (some ⟨b, o, none⟩) H d] w5.heap.size (inRuns lj) (partB W R x y z a B (j * W)) ((w5.alloc (.cells (Array.replicate 64 (.bool false)) 64)).setRow w5.heap.size (rowC (inRuns lj))) from by
        have hz := HR5.out
        have hgw : g < w5.heap.size := hz.1.elim fun _ h => h.1.lt
        refine ⟨hz.below (brow (balloc (Below.refl _ _) _) (Nat.le_refl _) _), K1.row _, by omega⟩)
      clear K1 HR5
      obtain ⟨kr, hkr⟩ : ∃ k, w5.heap.size = k := ⟨_, rfl⟩
      rw [hkr] at HRQ
      simp only [hkr]
      clear hkr
      obtain ⟨s, hs⟩ : ∃ s, j * W = s := ⟨_, rfl⟩
      have e1 : (W : Int) * (j : Int) = (s : Int) := by rw [← hs]; push_cast; rw [Int.mul_comm]
      rw [hs] at HRQ
      have HS := Lib.hid hs
      have hsb : s + W ≤ 4096 := by
        have h1 : (j + 1) * W ≤ 64 * 64 := Nat.mul_le_mul (by omega) hW1
        rw [Nat.add_mul, Nat.one_mul, hs] at h1
        exact h1
      have hsn : 3 * (s + W) ≤ n := by
        have h1 := pix_in (W := W) (H := H) (j := j) (i := W - 1) hjH (by omega)
        rw [hs, ← HN.out] at h1
        omega
      clear hs
      go_loopw [12] (fun iv wr => ∃ i : Nat, i ≤ W ∧ iv = .int .i64 (i : Int) ∧ Hid (RQ w g n f q (W : Int) (H : Int) x y z a #[.int .i64 (W : Int), .int .i64 (H : Int), .slice A n c] #[.int .i64 (W : Int), .int .i64 (H : Int), .slice (some ⟨b, o, none⟩) H d] kr (inRuns lj) (partB W R x y z a B (s + i)) wr)) (fun iv _ => 64 - (intOf iv).toNat)
      case atStart => exact ⟨0, Nat.zero_le _, rfl, Lib.hid (by rw [Nat.add_zero]; exact HRQ.out)⟩
      case round =>
        clear HRQ
        obtain ⟨i, hi, rfl, hR⟩ := hrel
        obtain ⟨wi, rfl⟩ : ∃ wi, wi = wr := ⟨_, rfl⟩
        obtain ⟨⟨⟨cs1, hG, hHo⟩, Kp, Kr, Ki, Kz, Kq, Kc, hbw⟩, Krow, hgk⟩ := id hR.out
        have p0 := Kp.cell 0
        simp only [List.getElem?_toArray, List.getElem?_cons_succ, List.getElem?_cons_zero] at p0
        by_cases hiW : i = W
        · subst hiW
          clear hG hHo Kp Kr Ki Kz Kq Kc hbw Krow
          go_wp2_with fail
          go_roundw
          case rel => exact ⟨j + 1, by omega, by go_num, Lib.hid (by rw [Nat.add_mul, Nat.one_mul, HS.out]; exact hR.out.1)⟩
          case measure => simp [intOf]; omega
        · have hiw : i < W := by omega
          have hiw2 : (i : Int) < (W : Int) := by omega
          have hi64 : i < 64 := by omega
          have hi64b : (i : Int) < 64 := by omega
          obtain ⟨bS, hbS⟩ : ∃ b, inRuns lj i = b := ⟨_, rfl⟩
          have hrc : wi.cell? ⟨kr, i, none⟩ = some (.bool bS) := by rw [Krow.cell, rowC_get _ i hi64, hbS]
          have HBS := Lib.hid hbS
          clear hG hHo Kp Kr Ki Kz Kq Kc hbw Krow hbS
          cases bS
          · have hRf : R j i = false := row_false hiw (by rw [HLJ.out]; exact HBS.out)
            have hsk : ∀ t, partB W R x y z a B (s + i) t = partB W R x y z a B (s + i + 1) t := fun t => by have := partB_skip W R x y z a B j i hiw hRf t; rw [HS.out] at this; exact this
            have HNX := Lib.hid (RQ.ext hR.out fun t _ => hsk t)
            clear hsk
            have HZ0 := Lib.hid hrc
            go_wp2_with fail
            go_loopw [13] (fun cv wr => cv = .int .i64 0 ∧ wr = wi) (fun _ _ => 0)
            case atStart => exact ⟨rfl, rfl⟩
            case round =>
              obtain ⟨rfl, rfl⟩ := hrel
              go_wp2_with fail
              go_roundw
              case rel => exact ⟨i + 1, by omega, by go_num, by rw [← Nat.add_assoc]; exact HNX⟩
              case measure => simp [intOf]; omega
          · have hRt : R j i = true := row_true (by rw [HLJ.out]; exact HBS.out)
            obtain ⟨m, hm⟩ : ∃ m, 3 * (s + i) = m := ⟨_, rfl⟩
            have e2 : 3 * ((s : Int) + (i : Int)) = (m : Int) := by omega
            have hmn : m + 3 ≤ n := by omega
            have HNX := Lib.hid (show ∀ t, stg x y z a m 3 (partB W R x y z a B (s + i)) t = partB W R x y z a B (s + i + 1) t from fun t => by have := partB_step W R x y z a B j i hiw hRt t; rw [HS.out, hm] at this; exact this)
            have HM := Lib.hid hm
            clear hm
            go_wp2_with fail
            clear p0 hrc
            go_loopw [13] (fun cv wr => ∃ c9 : Nat, c9 ≤ 3 ∧ cv = .int .i64 (c9 : Int) ∧ Hid (RQ w g n f q (W : Int) (H : Int) x y z a #[.int .i64 (W : Int), .int .i64 (H : Int), .slice A n c] #[.int .i64 (W : Int), .int .i64 (H : Int), .slice (some ⟨b, o, none⟩) H d] kr (inRuns lj) (stg x y z a m c9 (partB W R x y z a B (s + i))) wr)) (fun cv _ => 3 - (intOf cv).toNat)
            case atStart => exact ⟨0, Nat.zero_le _, rfl, Lib.hid (RQ.ext hR.out fun t _ => (stg_zero _ _ _ _ _ _ _).symm)⟩
            case round =>
              clear hR
              obtain ⟨c', hc, rfl, hR⟩ := hrel
              obtain ⟨wc, rfl⟩ : ∃ wc, wc = wr := ⟨_, rfl⟩
              obtain ⟨⟨⟨cs1, hG, hHo⟩, Kp, Kr, Ki, Kz, Kq, Kc, hbw⟩, Krow, hgk⟩ := id hR.out
              have p0 := Kp.cell 0
              have hrc : wc.cell? ⟨kr, i, none⟩ = some (.bool true) := by rw [Krow.cell, rowC_get _ i hi64, HBS.out]
              have q2 := Kq.cell 2
              have i3 := Ki.cell 3
              simp only [List.getElem?_toArray, List.getElem?_cons_succ, List.getElem?_cons_zero] at p0 q2 i3
              by_cases hc3 : c' = 3
              · subst hc3
                have HNY := Lib.hid (RQ.ext hR.out fun t _ => HNX.out t)
                clear hG hHo Kp Kr Ki Kz Kq Kc hbw Krow q2 i3
                go_wp2_with fail
                go_roundw
                case rel => exact ⟨i + 1, by omega, by go_num, by rw [← Nat.add_assoc]; exact HNY⟩
                case measure => simp [intOf]; omega
              · have hc3' : c' < 3 := by omega
                have hc3i : (c' : Int) < 3 := by omega
                obtain ⟨t, ht⟩ : ∃ t, m + c' = t := ⟨_, rfl⟩
                have e3 : (m : Int) + (c' : Int) = (t : Int) := by omega
                have htn : t < n := by omega
                have htn2 : (t : Int) < (n : Int) := by omega
                obtain ⟨v, hv⟩ : ∃ v, partB W R x y z a B (s + i) t = v := ⟨_, rfl⟩
                have hst0 : stg x y z a m c' (partB W R x y z a B (s + i)) t = v := by rw [← ht, stg_at, ht, hv]
                have gc : wc.cell? ⟨g, t, none⟩ = some (.int .u8 v) := by rw [hG.cell, ← hst0]; exact (hHo.2 t htn).1
                have hvb : 0 ≤ v ∧ v ≤ 255 := by rw [← hst0]; exact (hHo.2 t htn).2
                obtain ⟨oc, hoc⟩ : ∃ o, chan x y z c' = o := ⟨_, rfl⟩
                have hob : 0 ≤ oc ∧ oc ≤ 255 := by rw [← hoc]; exact chan_bd HX.out HY.out HZ.out c'
                have kc : wc.cell? ⟨q + 1, c', none⟩ = some (.int .u8 oc) := by
                  rw [Kc.cell, ← hoc]
                  rcases (show c' = 0 ∨ c' = 1 ∨ c' = 2 by omega) with rfl | rfl | rfl <;> rfl
                have hbl := blend_bd v oc a hvb hob HA.out
                obtain ⟨bl, hble⟩ : ∃ t, blend v oc a = t := ⟨_, rfl⟩
                have HBL := Lib.hid (fun W' => hble ▸ blend36_any v oc a W' hvb hob HA.out)
                rw [hble] at hbl
                have hnx : ∀ k, (if k = t then bl else stg x y z a m c' (partB W R x y z a B (s + i)) k) = stg x y z a m (c' + 1) (partB W R x y z a B (s + i)) k := fun k => by
                  have := stg_succ x y z a m c' (partB W R x y z a B (s + i)) k
                  rw [ht, hv, hoc, hble] at this
                  exact this
                have hgl := hG.lt
                have hql := Kq.lt
                have hcl := Kc.lt
                have hil := Ki.lt
                have HG0 := Lib.hid (fun (u : World) (hb : Below wc.heap.size wc u) => ((hG.below hb hgl).frozen t : u.frozen? ⟨g, t, none⟩ = false))
                have U0 := fun u : Up wc => (u.cell (p := ⟨q, 2, none⟩) hql).trans q2
                have U1 := fun u : Up wc => (u.cell (p := ⟨g, t, none⟩) hgl).trans gc
                have U2 := fun u : Up wc => (u.cell (p := ⟨q + 1, c', none⟩) hcl).trans kc
                have U3 := fun u : Up wc => (u.cell (p := ⟨w.heap.size + 1 + 1, 3, none⟩) hil).trans i3
                have HU := Lib.hid (fun u : Up wc => up_same (u := u) (HBL.out u.val))
                have HNZ := Lib.hid (fun (u : World) (hb : Below wc.heap.size wc u) => RQ.ext (RQ.put (RQ.below hR.out hb) t bl hbl.1 hbl.2 hg3 hq) fun k _ => hnx k)
                have HTE := Lib.hid ht
                obtain ⟨hv0, hv1⟩ := hvb
                obtain ⟨ho0, ho1⟩ := hob
                clear hG hHo Kp Kr Ki Kz Kq Kc hbw Krow hst0 hv hoc kc hble hnx ht q2 i3 hR HBL
                go_wp2_with fail
                have ha0 : 0 ≤ a := HA.out.1
                have ha1 : a ≤ 255 := HA.out.2
                have ht0 : (0 : Int) ≤ (t : Int) := by omega
                have htn3 : (t : Int).toNat = t := by omega
                have hct : (c' : Int).toNat = c' := by omega
                clear e1 e2 e3 hmn hsn hsb p0 hrc hs0 hs1 htn hiw hiw2 hi64 hi64b hi hj hjH hji hc3 hc3'
                refine wp_region_up_tail 18 (by kernel_rfl) (by kernel_rfl) ?_
                simp only [List.take_succ_cons, List.take_zero, List.drop_succ_cons, List.drop_zero]
                repeat (go_big_quiet_step (fail))
                go_big_quiet_step (exact HU.out _)
                repeat (go_big_quiet_step (fail))
                refine wpQuiet_nil ?_
                rintro _ ⟨uq, rfl⟩
                have cv9 := U1 uq
                have fv9 := HG0.out uq.val uq.ok
                have HNW := Lib.hid (HNZ.out uq.val uq.ok)
                clear HNZ HG0 HU U0 U1 U2 U3 gc
                generalize hwx : uq.val = wz at *
                clear hwx uq
                go_wp2_with fail
                go_roundw
                case rel => exact ⟨c' + 1, by omega, by go_num, HNW⟩
                case measure => simp [intOf]; omega
end Go.Proofs.Ytmjpmeigfdgioaa.rg
