/-
  Lemmas for ImageStraight: AtPg, LawIStraight.
-/
import Derived.Test.YtegpjjkbbdfggaaImagePartsM5

/-
  ink.At of a page given as a function. (PRUNE)
-/
namespace Go.Proofs.Ytegpjjkbbdfggaa.rg
set_option linter.unusedVariables false
set_option linter.unusedSimpArgs false
open Go.RowKit bs sp ik

theorem pg_bytes {w : World} {A : Option Addr} {n c : Nat} {B : Nat → Int} (h : Pg w A n c B) : Bytes w A n c (listB n B) := by
  obtain ⟨h1, b, o, e, hlt, hc⟩ := h
  refine ⟨listB_len n B, h1, fun hn => ⟨b, o, e, hlt, fun j hj => ?_⟩⟩
  have hj' : j < n := by rw [listB_len] at hj; exact hj
  rw [(hc j hj').1, listB_get n B j hj (hc j hj').2]
theorem getD_listB (n : Nat) (B : Nat → Int) (j : Nat) (h : j < n) (hb : 0 ≤ B j ∧ B j ≤ 255) : (((listB n B).getD j 0).toNat : Int) = B j := by
  have hl : j < (listB n B).length := by rw [listB_len]; exact h
  rw [List.getD_eq_getElem?_getD, List.getElem?_eq_getElem hl]
  exact listB_get n B j hl hb
theorem pg_at (W H N c i j : Nat) (A : Option Addr) (B : Nat → Int) (w : World) (hW : 1 ≤ W ∧ W ≤ 64) (hH : 1 ≤ H ∧ H ≤ 64) (hN : N = 3 * (W * H)) (hp : Pg w A N c B) (hi : i < W) (hj : j < H) :
    Calls Try.prog 36 #[.agg #[.int .i64 (W : Int), .int .i64 (H : Int), .slice A N c], .int .i64 (i : Int), .int .i64 (j : Int)] w fun e w' =>
      e = .returned (.tuple #[.agg #[.int .u8 (B (3 * (j * W + i))), .int .u8 (B (3 * (j * W + i) + 1)), .int .u8 (B (3 * (j * W + i) + 2)), .int .u8 255], .bool true]) ∧ Below w.heap.size w w' := by
  have hpx := pix_in hj hi
  rw [← hN] at hpx
  have hm := pmay_yes hW hH
  rw [← hN] at hm
  refine (at_yes (W : Int) (H : Int) A N c (listB N B) i j w (pg_bytes hp) hm (by omega) (by omega)).mono ?_
  rintro e w' ⟨he, hb⟩
  refine ⟨?_, hb⟩
  rw [he, Int.toNat_natCast, getD_listB N B _ (by omega) (hp.bd _ (by omega)), getD_listB N B _ (by omega) (hp.bd _ (by omega)), getD_listB N B _ (by omega) (hp.bd _ (by omega))]
end Go.Proofs.Ytegpjjkbbdfggaa.rg

/-
  ImageStraight: with a matrix that scales by 16, upright or mirrored, the pixels are the samples, moved by whole pixels.
-/
namespace Go.Proofs.Ytegpjjkbbdfggaa.im
set_option linter.unusedVariables false
set_option linter.unusedSimpArgs false
open Go.RowKit bs op rg mt

theorem mayB_ok {A B C D E F : Int} (a : -1073741823 ≤ A ∧ A ≤ 1073741823) (b : -1073741823 ≤ B ∧ B ≤ 1073741823) (c : -1073741823 ≤ C ∧ C ≤ 1073741823) (d : -1073741823 ≤ D ∧ D ≤ 1073741823) (e : -1073741823 ≤ E ∧ E ≤ 1073741823) (f : -1073741823 ≤ F ∧ F ≤ 1073741823) : mayB A B C D E F = true := by
  unfold mayB
  rw [fixB_true a, fixB_true b, fixB_true c, fixB_true d, fixB_true e, fixB_true f]
  rfl
theorem straight_down (W H B u v : Int) (s : ByteArray) (x y : Nat) (hx : x < 14) (hy : y < 14) :
    atV W H B s 1048576 0 0 1048576 (16 * u * 65536) (16 * v * 65536) (16 * (x : Int) + 8) (16 * (y : Int) + 8) = sampV W H B s ((x : Int) - u) ((y : Int) - v) := by
  unfold atV
  rw [if_neg (by rintro (h | h) <;> simp [coordB] at h; omega)]
  unfold downI
  rw [if_neg (by omega), if_neg (by omega)]
  congr 1 <;> omega
theorem straight_up (W H B u v : Int) (s : ByteArray) (x y : Nat) (hx : x < 14) (hy : y < 14) :
    atV W H B s 1048576 0 0 (-1048576) (16 * u * 65536) (16 * (v + H) * 65536) (16 * (x : Int) + 8) (16 * (y : Int) + 8) = sampV W H B s ((x : Int) - u) (H - 1 - ((y : Int) - v)) := by
  unfold atV
  rw [if_neg (by rintro (h | h) <;> simp [coordB] at h; omega)]
  unfold downI
  rw [if_pos (by omega), if_pos (by omega), show (-(1048576 * -1048576 - 0 * 0) : Int) = 1099511627776 by decide]
  congr 1 <;> omega
/-- a pixel's byte -/
def pxV (B v : Int) : Int := if 0 ≤ v then greyV B v else 255
theorem straight_px (S : Nat → Nat → Int) (B : Int) (j i t : Nat) (hi : i < 14) (ht : t < 3) : paintB 14 (fun _ _ => true) S (greyV B) (fun _ => 255) (3 * (j * 14 + i) + t) = pxV B (S j i) := by
  unfold paintB pxV
  rw [show (3 * (j * 14 + i) + t) / 3 = j * 14 + i by omega, (pix_of hi).1, (pix_of hi).2]
  simp

set_option maxRecDepth 100000 in
set_option maxHeartbeats 1600000 in
theorem istraight_down (A : Option Addr) (n c : Nat) (ns : Nat → Int) (bits dx dy W H B u v : Int) (s : ByteArray) (w : World) (hr : Ints w A n c ns)
    (HMd : Hid (∀ W', Ints W' A n c ns → Calls Try.prog 23 #[.slice A n c, .int .i64 bits] W' fun ed w' => ed = .returned (.agg #[.int .i64 W, .int .i64 H, .int .i64 B, .string s]) ∧ Below W'.heap.size W' w'))
    (HPX : Hid (∀ W', Calls Try.prog 25 #[.int .i64 dx, .int .i64 12] W' fun ed w' => ed = .returned (.int .i64 (u + 4)) ∧ W' = w'))
    (HPY : Hid (∀ W', Calls Try.prog 25 #[.int .i64 dy, .int .i64 12] W' fun ed w' => ed = .returned (.int .i64 (v + 4)) ∧ W' = w'))
    (hu0 : -4 ≤ u) (hu1 : u ≤ 7) (hv0 : -4 ≤ v) (hv1 : v ≤ 7) (hH0 : 1 ≤ H) (hH1 : H ≤ 9) (hmay : mayI W H B s.size = true) :
    Calls Try.prog 6 #[.slice A n c, .int .i64 bits, .int .i64 dx, .int .i64 dy, .bool true] w fun ed w' => ed = .returned (.bool true) ∧ Below w.heap.size w w' := by
  have hs := may_size hmay
  have hBv := (mayI_bd hmay).1
  have hmat : mayB 1048576 0 0 1048576 (16 * u * 65536) (16 * v * 65536) = true := mayB_ok (by omega) (by omega) (by omega) (by omega) (by omega) (by omega)
  obtain ⟨N, hN⟩ : ∃ N, N = 3 * (14 * 14) := ⟨_, rfl⟩
  have HNW := Lib.hid (fun W' => new_pg37 14 14 N W' (by decide) (by decide) hN)
  have HAL := Lib.hid (fun W' => rall_any 14 14 W' (by decide) (by decide))
  have HW1 := Lib.hid (fun W' => show Calls Try.prog 34 #[.int .i64 16, .int .i64 0, .int .i64 0, .int .i64 16, .int .i64 (16 * u), .int .i64 (16 * v)] W' fun ed w' => ed = .returned (.agg #[.int .i64 1048576, .int .i64 0, .int .i64 0, .int .i64 1048576, .int .i64 (16 * u * 65536), .int .i64 (16 * v * 65536)]) ∧ Below W'.heap.size W' w' from Whole_any 16 0 0 16 (16 * u) (16 * v) W' (by decide) (by decide) (by decide) (by decide) (by omega) (by omega))
  have HPT := Lib.hid (fun cp dr A D R Y W' hp hr => paint_any W H B 1048576 0 0 1048576 (16 * u * 65536) (16 * v * 65536) _ s 14 14 N cp dr A D R Y W' (by decide) (by decide) hN hs hmay hmat rfl (by omega) hp hr)
  have hat : ∀ (j i : Nat), j < 14 → i < 14 → atV W H B s 1048576 0 0 1048576 (16 * u * 65536) (16 * v * 65536) (16 * (i : Int) + 8) (16 * (j : Int) + 8) = sampV W H B s ((i : Int) - u) ((j : Int) - v) := fun j i hj hi => straight_down W H B u v s i j hi hj
  obtain ⟨S, hS⟩ : ∃ S : Nat → Nat → Int, (fun (j i : Nat) => atV W H B s 1048576 0 0 1048576 (16 * u * 65536) (16 * v * 65536) (16 * (i : Int) + 8) (16 * (j : Int) + 8)) = S := ⟨_, rfl⟩
  have hS1 : ∀ j i : Nat, atV W H B s 1048576 0 0 1048576 (16 * u * 65536) (16 * v * 65536) (16 * (i : Int) + 8) (16 * (j : Int) + 8) = S j i := fun j i => by rw [← hS]
  have HSB := Lib.hid (fun (j i : Nat) => (hS1 j i) ▸ atV_bd W H B 1048576 0 0 1048576 (16 * u * 65536) (16 * v * 65536) (16 * (i : Int) + 8) (16 * (j : Int) + 8) s hmay)
  have HAT := Lib.hid (fun (y x : Nat) W' => show Calls Try.prog 18 #[.agg #[.int .i64 W, .int .i64 H, .int .i64 B, .string s], .agg #[.int .i64 1048576, .int .i64 0, .int .i64 0, .int .i64 1048576, .int .i64 (16 * u * 65536), .int .i64 (16 * v * 65536)], .int .i64 (16 * (x : Int) + 8), .int .i64 (16 * (y : Int) + 8)] W' fun ed w' => ed = .returned (.int .i64 (S y x)) ∧ Below W'.heap.size W' w' by
    have := At_any W H B 1048576 0 0 1048576 (16 * u * 65536) (16 * v * 65536) (16 * (x : Int) + 8) (16 * (y : Int) + 8) s W' hs
    unfold AtV at this
    rw [if_pos (by rw [hmay, hmat]; rfl), hS1] at this
    exact this)
  have HSA := Lib.hid (fun (y x : Nat) (hy : y < 14) (hx : x < 14) W' => show Calls Try.prog 16 #[.agg #[.int .i64 W, .int .i64 H, .int .i64 B, .string s], .int .i64 ((x : Int) - u), .int .i64 ((y : Int) - v)] W' fun ed w' => ed = .returned (.int .i64 (S y x)) ∧ Below W'.heap.size W' w' by
    have := Sample_any W H B ((x : Int) - u) ((y : Int) - v) s W' hs
    rw [if_pos hmay, ← hat y x hy hx, hS1] at this
    exact this)
  have HPA := Lib.hid (fun (y x : Nat) (hy : y < 14) (hx : x < 14) (g f : Nat) W' hp => show Calls Try.prog 36 #[.agg #[.int .i64 14, .int .i64 14, .slice (some ⟨g, 0, none⟩) N f], .int .i64 (x : Int), .int .i64 (y : Int)] W' fun ed w' => ed = .returned (.tuple #[.agg #[.int .u8 (pxV B (S y x)), .int .u8 (pxV B (S y x)), .int .u8 (pxV B (S y x)), .int .u8 255], .bool true]) ∧ Below W'.heap.size W' w' by
    have := pg_at 14 14 N f x y (some ⟨g, 0, none⟩) (paintB 14 (fun _ _ => true) S (greyV B) (fun _ => 255)) W' (by decide) (by decide) hN hp hx hy
    rw [show 3 * (y * 14 + x) = 3 * (y * 14 + x) + 0 from rfl, straight_px _ _ _ _ 0 hx (by decide), Nat.add_zero, straight_px _ _ _ _ 1 hx (by decide), straight_px _ _ _ _ 2 hx (by decide)] at this
    exact this)
  rw [hS] at HPT
  have HBV := Lib.hid hBv
  clear hs hmay hmat hN hat hS hS1 hBv
  go_enter Try.func6, Try.ntmps6
  go_wp2_with fail
  have hst0 : Below w.heap.size w w := by (repeat' (first | exact Below.refl _ _ | exact Below.refl _ _ | refine balloc ?_ _ | refine Below.drew ?_ | refine below_drewN ?_ _ | refine bset ?_ (by first | omega | (simp <;> omega)) _))
  refine (known_any _).mono ?_
  rintro e_ w1 ⟨rfl, hb⟩
  have hst : Below w.heap.size w w1 := btrans hst0 hb
  have hbw : Below w.heap.size w w1 := hst
  clear hst hst0 hb 
  go_wp2_with fail
  have hst0 : Below w1.heap.size w1 w1 := by (repeat' (first | exact Below.refl _ _ | exact Below.refl _ _ | refine balloc ?_ _ | refine Below.drew ?_ | refine below_drewN ?_ _ | refine bset ?_ (by first | omega | (simp <;> omega)) _))
  refine (HMd.out _ (hr.below (btrans hbw hst0))).mono ?_
  rintro e_ w2 ⟨rfl, hb⟩
  have hst : Below w1.heap.size w1 w2 := btrans hst0 hb
  replace hbw : Below w.heap.size w w2 := btrans hbw hst
  clear hst hst0 hb 
  go_wp2_with fail
  refine (HPX.out _).mono ?_
  rintro e_ w_ ⟨rfl, rfl⟩
  go_wp2_with fail
  refine (HPY.out _).mono ?_
  rintro e_ w_ ⟨rfl, rfl⟩
  go_wp2_with fail
  have hst0 : Below w2.heap.size w2 (w2.alloc (.cells #[.int .i64 W, .int .i64 H, .int .i64 B, .string s] 23)) := by (repeat' (first | exact Below.refl _ _ | exact Below.refl _ _ | refine balloc ?_ _ | refine Below.drew ?_ | refine below_drewN ?_ _ | refine bset ?_ (by first | omega | (simp <;> omega)) _))
  refine (HW1.out _).mono ?_
  rintro e_ w3 ⟨rfl, hb⟩
  have hst : Below w2.heap.size w2 w3 := btrans hst0 hb
  have Ki := (Blk.new w2 23 #[.int .i64 W, .int .i64 H, .int .i64 B, .string s])
  replace Ki := Ki.below hb Ki.lt
  replace hbw : Below w.heap.size w w3 := btrans hbw hst
  clear hst hst0 hb 
  have lKi := Ki.lt
  have cKi0 := Ki.cell 0
  have cKi1 := Ki.cell 1
  have cKi2 := Ki.cell 2
  have cKi3 := Ki.cell 3
  simp only [List.getElem?_toArray, List.getElem?_cons_succ, List.getElem?_cons_zero] at cKi0 cKi1 cKi2 cKi3
  have hne : w2.heap.size ≠ w3.heap.size := Nat.ne_of_lt lKi
  go_wp2_with fail
  have hst0 : Below w3.heap.size w3 (w3.alloc (.cells #[.int .i64 1048576, .int .i64 0, .int .i64 0, .int .i64 1048576, .int .i64 (16 * u * 65536), .int .i64 (16 * v * 65536)] 25)) := by (repeat' (first | exact Below.refl _ _ | exact Below.refl _ _ | refine balloc ?_ _ | refine Below.drew ?_ | refine below_drewN ?_ _ | refine bset ?_ (by first | omega | (simp <;> omega)) _))
  refine (HNW.out _).mono ?_
  rintro e_ w4 ⟨gw, ow, fw, rfl, hWh, hb⟩
  have hst : Below w3.heap.size w3 w4 := btrans hst0 hb
  replace Ki := (Ki.alloc (.cells #[.int .i64 1048576, .int .i64 0, .int .i64 0, .int .i64 1048576, .int .i64 (16 * u * 65536), .int .i64 (16 * v * 65536)] 25))
  have Km := (Blk.new w3 25 #[.int .i64 1048576, .int .i64 0, .int .i64 0, .int .i64 1048576, .int .i64 (16 * u * 65536), .int .i64 (16 * v * 65536)])
  replace Ki := Ki.below hb Ki.lt
  replace Km := Km.below hb Km.lt
  replace hbw : Below w.heap.size w w4 := btrans hbw hst
  clear hst hst0 hb lKi cKi0 cKi1 cKi2 cKi3
  have HhWh := Lib.hid hWh
  clear hWh
  have lKi := Ki.lt
  have cKi0 := Ki.cell 0
  have cKi1 := Ki.cell 1
  have cKi2 := Ki.cell 2
  have cKi3 := Ki.cell 3
  have lKm := Km.lt
  have cKm0 := Km.cell 0
  have cKm1 := Km.cell 1
  have cKm2 := Km.cell 2
  have cKm3 := Km.cell 3
  have cKm4 := Km.cell 4
  have cKm5 := Km.cell 5
  simp only [List.getElem?_toArray, List.getElem?_cons_succ, List.getElem?_cons_zero] at cKi0 cKi1 cKi2 cKi3 cKm0 cKm1 cKm2 cKm3 cKm4 cKm5
  go_wp2_with fail
  have hst0 : Below w4.heap.size w4 (w4.alloc (.cells #[.int .i64 14, .int .i64 14, .slice (some ⟨gw, ow, none⟩) N fw] 46)) := by (repeat' (first | exact Below.refl _ _ | exact Below.refl _ _ | refine balloc ?_ _ | refine Below.drew ?_ | refine below_drewN ?_ _ | refine bset ?_ (by first | omega | (simp <;> omega)) _))
  refine (HAL.out _).mono ?_
  rintro e_ w5 ⟨gA, hgA, rfl, hAl, hb⟩
  clear hgA
  have hst : Below w4.heap.size w4 w5 := btrans hst0 hb
  replace Ki := (Ki.alloc (.cells #[.int .i64 14, .int .i64 14, .slice (some ⟨gw, ow, none⟩) N fw] 46))
  replace Km := (Km.alloc (.cells #[.int .i64 14, .int .i64 14, .slice (some ⟨gw, ow, none⟩) N fw] 46))
  have Kw := (Blk.new w4 46 #[.int .i64 14, .int .i64 14, .slice (some ⟨gw, ow, none⟩) N fw])
  replace Ki := Ki.below hb Ki.lt
  replace Km := Km.below hb Km.lt
  replace Kw := Kw.below hb Kw.lt
  replace hbw : Below w.heap.size w w5 := btrans hbw hst
  replace HhWh := Lib.hid (HhWh.out.below hst)
  clear hst hst0 hb lKi cKi0 cKi1 cKi2 cKi3 lKm cKm0 cKm1 cKm2 cKm3 cKm4 cKm5
  have HhAl := Lib.hid hAl
  clear hAl
  have lKi := Ki.lt
  have cKi0 := Ki.cell 0
  have cKi1 := Ki.cell 1
  have cKi2 := Ki.cell 2
  have cKi3 := Ki.cell 3
  have lKm := Km.lt
  have cKm0 := Km.cell 0
  have cKm1 := Km.cell 1
  have cKm2 := Km.cell 2
  have cKm3 := Km.cell 3
  have cKm4 := Km.cell 4
  have cKm5 := Km.cell 5
  have lKw := Kw.lt
  have cKw0 := Kw.cell 0
  have cKw1 := Kw.cell 1
  have cKw2 := Kw.cell 2
  simp only [List.getElem?_toArray, List.getElem?_cons_succ, List.getElem?_cons_zero] at cKi0 cKi1 cKi2 cKi3 cKm0 cKm1 cKm2 cKm3 cKm4 cKm5 cKw0 cKw1 cKw2
  go_wp2_with fail
  have hst0 : Below w5.heap.size w5 (w5.alloc (.cells #[.int .i64 14, .int .i64 14, .slice (some ⟨gA, 0, none⟩) 14 14] 51)) := by (repeat' (first | exact Below.refl _ _ | exact Below.refl _ _ | refine balloc ?_ _ | refine Below.drew ?_ | refine below_drewN ?_ _ | refine bset ?_ (by first | omega | (simp <;> omega)) _))
  refine (HPT.out _ _ _ _ _ _ _ (HhWh.out.below hst0) (HhAl.out.below hst0)).mono ?_
  rintro e_ w6 ⟨gq, fq, hgq, rfl, hQq, hb⟩
  clear hgq
  have hst : Below w5.heap.size w5 w6 := btrans hst0 hb
  replace Ki := (Ki.alloc (.cells #[.int .i64 14, .int .i64 14, .slice (some ⟨gA, 0, none⟩) 14 14] 51))
  replace Km := (Km.alloc (.cells #[.int .i64 14, .int .i64 14, .slice (some ⟨gA, 0, none⟩) 14 14] 51))
  replace Kw := (Kw.alloc (.cells #[.int .i64 14, .int .i64 14, .slice (some ⟨gA, 0, none⟩) 14 14] 51))
  have KA := (Blk.new w5 51 #[.int .i64 14, .int .i64 14, .slice (some ⟨gA, 0, none⟩) 14 14])
  replace Ki := Ki.below hb Ki.lt
  replace Km := Km.below hb Km.lt
  replace Kw := Kw.below hb Kw.lt
  replace KA := KA.below hb KA.lt
  replace hbw : Below w.heap.size w w6 := btrans hbw hst
  replace HhWh := Lib.hid (HhWh.out.below hst)
  replace HhAl := Lib.hid (HhAl.out.below hst)
  clear hst hst0 hb lKi cKi0 cKi1 cKi2 cKi3 lKm cKm0 cKm1 cKm2 cKm3 cKm4 cKm5 lKw cKw0 cKw1 cKw2
  have HhQq := Lib.hid hQq
  clear hQq
  have lKi := Ki.lt
  have cKi0 := Ki.cell 0
  have cKi1 := Ki.cell 1
  have cKi2 := Ki.cell 2
  have cKi3 := Ki.cell 3
  have lKm := Km.lt
  have cKm0 := Km.cell 0
  have cKm1 := Km.cell 1
  have cKm2 := Km.cell 2
  have cKm3 := Km.cell 3
  have cKm4 := Km.cell 4
  have cKm5 := Km.cell 5
  have lKw := Kw.lt
  have cKw0 := Kw.cell 0
  have cKw1 := Kw.cell 1
  have cKw2 := Kw.cell 2
  have lKA := KA.lt
  have cKA0 := KA.cell 0
  have cKA1 := KA.cell 1
  have cKA2 := KA.cell 2
  simp only [List.getElem?_toArray, List.getElem?_cons_succ, List.getElem?_cons_zero] at cKi0 cKi1 cKi2 cKi3 cKm0 cKm1 cKm2 cKm3 cKm4 cKm5 cKw0 cKw1 cKw2 cKA0 cKA1 cKA2
  go_wp2_with fail
  have hst : Below w6.heap.size w6 (w6.alloc (.cells #[.int .i64 14, .int .i64 14, .slice (some ⟨gq, 0, none⟩) N fq] 46)) := by (repeat' (first | exact Below.refl _ _ | exact Below.refl _ _ | refine balloc ?_ _ | refine Below.drew ?_ | refine below_drewN ?_ _ | refine bset ?_ (by first | omega | (simp <;> omega)) _))
  replace HhWh := Lib.hid (HhWh.out.below hst)
  replace HhAl := Lib.hid (HhAl.out.below hst)
  replace HhQq := Lib.hid (HhQq.out.below hst)
  clear hst
  replace Ki := (Ki.alloc (.cells #[.int .i64 14, .int .i64 14, .slice (some ⟨gq, 0, none⟩) N fq] 46))
  replace Km := (Km.alloc (.cells #[.int .i64 14, .int .i64 14, .slice (some ⟨gq, 0, none⟩) N fq] 46))
  replace Kw := (Kw.alloc (.cells #[.int .i64 14, .int .i64 14, .slice (some ⟨gq, 0, none⟩) N fq] 46))
  replace KA := (KA.alloc (.cells #[.int .i64 14, .int .i64 14, .slice (some ⟨gq, 0, none⟩) N fq] 46))
  have Kq := (Blk.new w6 46 #[.int .i64 14, .int .i64 14, .slice (some ⟨gq, 0, none⟩) N fq])
  replace hbw : Below w.heap.size w (w6.alloc (.cells #[.int .i64 14, .int .i64 14, .slice (some ⟨gq, 0, none⟩) N fq] 46)) := by (repeat' (first | refine bset ?_ (by first | omega | (simp <;> omega)) _ | refine balloc ?_ _ | refine Below.drew ?_ | refine below_drewN ?_ _ | exact hbw | exact Below.refl _ _))
  clear lKi cKi0 cKi1 cKi2 cKi3 lKm cKm0 cKm1 cKm2 cKm3 cKm4 cKm5 lKw cKw0 cKw1 cKw2 lKA cKA0 cKA1 cKA2
  generalize hwx : (w6.alloc (.cells #[.int .i64 14, .int .i64 14, .slice (some ⟨gq, 0, none⟩) N fq] 46)) = wL at *
  clear hwx
  clear Kw KA
  have lKi := Ki.lt
  have cKi0 := Ki.cell 0
  have cKi1 := Ki.cell 1
  have cKi2 := Ki.cell 2
  have cKi3 := Ki.cell 3
  have lKm := Km.lt
  have cKm0 := Km.cell 0
  have cKm1 := Km.cell 1
  have cKm2 := Km.cell 2
  have cKm3 := Km.cell 3
  have cKm4 := Km.cell 4
  have cKm5 := Km.cell 5
  have lKq := Kq.lt
  have cKq0 := Kq.cell 0
  have cKq1 := Kq.cell 1
  have cKq2 := Kq.cell 2
  simp only [List.getElem?_toArray, List.getElem?_cons_succ, List.getElem?_cons_zero] at cKi0 cKi1 cKi2 cKi3 cKm0 cKm1 cKm2 cKm3 cKm4 cKm5 cKq0 cKq1 cKq2
  go_loopw [21] (fun yv wr => ∃ y : Nat, y ≤ 14 ∧ yv = .int .i64 (y : Int) ∧ Below wL.heap.size wL wr) (fun yv _ => 14 - (intOf yv).toNat)
  case atStart => exact ⟨0, by omega, rfl, Below.refl _ _⟩
  case round =>
    obtain ⟨y, hy, rfl, hbr⟩ := hrel
    obtain ⟨wo, rfl⟩ : ∃ wo, wo = wr := ⟨_, rfl⟩
    by_cases hyl : y < 14
    · have d1 : decide ((y : Int) < 14) = true := by simp; omega
      go_wp2_with fail
      go_loopw [22] (fun xv wr => ∃ x : Nat, x ≤ 14 ∧ xv = .int .i64 (x : Int) ∧ Below wL.heap.size wL wr) (fun xv _ => 14 - (intOf xv).toNat)
      case atStart => exact ⟨0, by omega, rfl, hbr⟩
      case round =>
        clear hbr
        obtain ⟨x, hx, rfl, hbr⟩ := hrel
        by_cases hxl : x < 14
        · have d2 : decide ((x : Int) < 14) = true := by simp; omega
          have rKi0 := (hbr.cell (p := ⟨w2.heap.size, 0, none⟩) lKi).trans cKi0
          have rKi1 := (hbr.cell (p := ⟨w2.heap.size, 1, none⟩) lKi).trans cKi1
          have rKi2 := (hbr.cell (p := ⟨w2.heap.size, 2, none⟩) lKi).trans cKi2
          have rKi3 := (hbr.cell (p := ⟨w2.heap.size, 3, none⟩) lKi).trans cKi3
          have rKm0 := (hbr.cell (p := ⟨w3.heap.size, 0, none⟩) lKm).trans cKm0
          have rKm1 := (hbr.cell (p := ⟨w3.heap.size, 1, none⟩) lKm).trans cKm1
          have rKm2 := (hbr.cell (p := ⟨w3.heap.size, 2, none⟩) lKm).trans cKm2
          have rKm3 := (hbr.cell (p := ⟨w3.heap.size, 3, none⟩) lKm).trans cKm3
          have rKm4 := (hbr.cell (p := ⟨w3.heap.size, 4, none⟩) lKm).trans cKm4
          have rKm5 := (hbr.cell (p := ⟨w3.heap.size, 5, none⟩) lKm).trans cKm5
          have rKq0 := (hbr.cell (p := ⟨w6.heap.size, 0, none⟩) lKq).trans cKq0
          have rKq1 := (hbr.cell (p := ⟨w6.heap.size, 1, none⟩) lKq).trans cKq1
          have rKq2 := (hbr.cell (p := ⟨w6.heap.size, 2, none⟩) lKq).trans cKq2
          have HS1 := Lib.hid (fun W' => HSA.out y x hyl hxl W')
          have HA1 := Lib.hid (fun W' => HAT.out y x W')
          have HQ1 := Lib.hid (fun W' (hW' : Below wL.heap.size wL W') => HPA.out y x hyl hxl gq fq W' (HhQq.out.below hW'))
          have hvb := HSB.out y x
          obtain ⟨z, hz⟩ : ∃ z, S y x = z := ⟨_, rfl⟩
          rw [hz] at HS1 HA1 HQ1 hvb
          obtain ⟨g, hg⟩ : ∃ g, pxV B z = g := ⟨_, rfl⟩
          rw [hg] at HQ1
          have HBR := Lib.hid hbr
          clear hbr hz
          go_wp2_with fail
          refine (HS1.out _).mono ?_
          rintro e_ wa ⟨rfl, hb⟩
          replace HBR := Lib.hid (btrans HBR.out hb)
          clear hb rKi0 rKi1 rKi2 rKi3 rKm0 rKm1 rKm2 rKm3 rKm4 rKm5 rKq0 rKq1 rKq2
          have rKi0 := (HBR.out.cell (p := ⟨w2.heap.size, 0, none⟩) lKi).trans cKi0
          have rKi1 := (HBR.out.cell (p := ⟨w2.heap.size, 1, none⟩) lKi).trans cKi1
          have rKi2 := (HBR.out.cell (p := ⟨w2.heap.size, 2, none⟩) lKi).trans cKi2
          have rKi3 := (HBR.out.cell (p := ⟨w2.heap.size, 3, none⟩) lKi).trans cKi3
          have rKm0 := (HBR.out.cell (p := ⟨w3.heap.size, 0, none⟩) lKm).trans cKm0
          have rKm1 := (HBR.out.cell (p := ⟨w3.heap.size, 1, none⟩) lKm).trans cKm1
          have rKm2 := (HBR.out.cell (p := ⟨w3.heap.size, 2, none⟩) lKm).trans cKm2
          have rKm3 := (HBR.out.cell (p := ⟨w3.heap.size, 3, none⟩) lKm).trans cKm3
          have rKm4 := (HBR.out.cell (p := ⟨w3.heap.size, 4, none⟩) lKm).trans cKm4
          have rKm5 := (HBR.out.cell (p := ⟨w3.heap.size, 5, none⟩) lKm).trans cKm5
          have rKq0 := (HBR.out.cell (p := ⟨w6.heap.size, 0, none⟩) lKq).trans cKq0
          have rKq1 := (HBR.out.cell (p := ⟨w6.heap.size, 1, none⟩) lKq).trans cKq1
          have rKq2 := (HBR.out.cell (p := ⟨w6.heap.size, 2, none⟩) lKq).trans cKq2
          go_wp2_with fail
          refine (HQ1.out _ HBR.out).mono ?_
          rintro e_ wb ⟨rfl, hb⟩
          replace HBR := Lib.hid (btrans HBR.out hb)
          clear hb rKi0 rKi1 rKi2 rKi3 rKm0 rKm1 rKm2 rKm3 rKm4 rKm5 rKq0 rKq1 rKq2
          have rKi0 := (HBR.out.cell (p := ⟨w2.heap.size, 0, none⟩) lKi).trans cKi0
          have rKi1 := (HBR.out.cell (p := ⟨w2.heap.size, 1, none⟩) lKi).trans cKi1
          have rKi2 := (HBR.out.cell (p := ⟨w2.heap.size, 2, none⟩) lKi).trans cKi2
          have rKi3 := (HBR.out.cell (p := ⟨w2.heap.size, 3, none⟩) lKi).trans cKi3
          have rKm0 := (HBR.out.cell (p := ⟨w3.heap.size, 0, none⟩) lKm).trans cKm0
          have rKm1 := (HBR.out.cell (p := ⟨w3.heap.size, 1, none⟩) lKm).trans cKm1
          have rKm2 := (HBR.out.cell (p := ⟨w3.heap.size, 2, none⟩) lKm).trans cKm2
          have rKm3 := (HBR.out.cell (p := ⟨w3.heap.size, 3, none⟩) lKm).trans cKm3
          have rKm4 := (HBR.out.cell (p := ⟨w3.heap.size, 4, none⟩) lKm).trans cKm4
          have rKm5 := (HBR.out.cell (p := ⟨w3.heap.size, 5, none⟩) lKm).trans cKm5
          have rKq0 := (HBR.out.cell (p := ⟨w6.heap.size, 0, none⟩) lKq).trans cKq0
          have rKq1 := (HBR.out.cell (p := ⟨w6.heap.size, 1, none⟩) lKq).trans cKq1
          have rKq2 := (HBR.out.cell (p := ⟨w6.heap.size, 2, none⟩) lKq).trans cKq2
          have HBR2 := Lib.hid (show Below wL.heap.size wL (wb.alloc (.cells #[.int .u8 g, .int .u8 g, .int .u8 g, .int .u8 255] 62)) from balloc HBR.out _)
          have hlt := HBR.out.size
          have mKi : w2.heap.size < wb.heap.size := Nat.lt_of_lt_of_le lKi hlt
          have mKm : w3.heap.size < wb.heap.size := Nat.lt_of_lt_of_le lKm hlt
          have mKq : w6.heap.size < wb.heap.size := Nat.lt_of_lt_of_le lKq hlt
          rcases (show (z < 0) ∨ 0 ≤ z by omega) with h0 | h0
          · have d3 : decide (z ≥ 0) = false := by simp; omega
            have d4 : decide (0 ≤ z) = false := by simp; omega
            have hg2 : g = 255 := by rw [← hg]; unfold pxV; rw [if_neg (by omega)]
            subst hg2
            clear hg
            go_wp2_with fail
            refine (HA1.out _).mono ?_
            rintro e_ wc ⟨rfl, hb⟩
            have HBR3 := Lib.hid (btrans HBR2.out hb)
            have ck0 := (Blk.new wb 62 #[.int .u8 255, .int .u8 255, .int .u8 255, .int .u8 255]).below hb (by simp)
            have k0 := ck0.cell 0
            have k1 := ck0.cell 1
            have k2 := ck0.cell 2
            have k3 := ck0.cell 3
            simp only [List.getElem?_toArray, List.getElem?_cons_succ, List.getElem?_cons_zero] at k0 k1 k2 k3
            clear hb ck0 rKi0 rKi1 rKi2 rKi3 rKm0 rKm1 rKm2 rKm3 rKm4 rKm5 rKq0 rKq1 rKq2
            go_wp2_with fail
            go_roundw
            case rel => exact ⟨x + 1, by omega, by go_num, HBR3.out⟩
            case measure => simp [intOf]; omega
          · have d3 : decide (z ≥ 0) = true := by simp; omega
            have d4 : decide (0 ≤ z) = true := by simp; omega
            have hpb := pow_bd HBV.out
            have hgb := greyV_bd HBV.out (show 0 ≤ z by omega) hvb.2
            have hg1 : greyV B z = g := by rw [← hg]; unfold pxV; rw [if_pos h0]
            rw [hg1] at hgb
            have hquo : (255 * z).tdiv ((2 : Int) ^ B.toNat - 1) = g := by
              rw [← hg1, Int.tdiv_eq_ediv_of_nonneg (by omega), Int.mul_comm]; rfl
            have hB0 : ¬ B < 0 := by rcases HBV.out with h | h | h | h <;> omega
            have hB1 : 0 ≤ B := by omega
            have hB2 : B ≤ 8 := by rcases HBV.out with h | h | h | h <;> omega
            have hBsh : (B.toNat : Int) = B := by omega
            have hBu : IntKind.u64.wrap B = B := by simp only [IntKind.wrap, IntKind.signed, IntKind.bits]; simp; omega
            obtain ⟨pw, hpw⟩ : ∃ pw, (2 : Int) ^ B.toNat = pw := ⟨_, rfl⟩
            rw [hpw] at hpb hquo hvb
            have hpz : ¬ pw - 1 = 0 := by omega
            have hgw : IntKind.u8.wrap g = g := by simp only [IntKind.wrap, IntKind.signed, IntKind.bits]; simp; omega
            clear hg hg1
            go_wp2_with fail
            refine (HA1.out _).mono ?_
            rintro e_ wc ⟨rfl, hb⟩
            have HBR3 := Lib.hid (btrans HBR2.out hb)
            have ck0 := (Blk.new wb 62 #[.int .u8 g, .int .u8 g, .int .u8 g, .int .u8 255]).below hb (by simp)
            have k0 := ck0.cell 0
            have k1 := ck0.cell 1
            have k2 := ck0.cell 2
            have k3 := ck0.cell 3
            simp only [List.getElem?_toArray, List.getElem?_cons_succ, List.getElem?_cons_zero] at k0 k1 k2 k3
            clear hb ck0 rKi0 rKi1 rKi2 rKi3 rKm0 rKm1 rKm2 rKm3 rKm4 rKm5 rKq0 rKq1 rKq2
            go_wp2_with fail
            go_roundw
            case rel => exact ⟨x + 1, by omega, by go_num, HBR3.out⟩
            case measure => simp [intOf]; omega
        · obtain rfl : x = 14 := by omega
          have d2 : decide (((14 : Nat) : Int) < 14) = false := by simp
          go_wp2_with fail
          go_roundw
          case rel => exact ⟨y + 1, by omega, by go_num, hbr⟩
          case measure => simp [intOf]; omega
    · obtain rfl : y = 14 := by omega
      have d1 : decide (((14 : Nat) : Int) < 14) = false := by simp
      go_wp2_with fail
      go_ret
      exact ⟨rfl, btrans hbw hbr⟩

set_option maxRecDepth 100000 in
set_option maxHeartbeats 1600000 in
theorem istraight_up (A : Option Addr) (n c : Nat) (ns : Nat → Int) (bits dx dy W H B u v : Int) (s : ByteArray) (w : World) (hr : Ints w A n c ns)
    (HMd : Hid (∀ W', Ints W' A n c ns → Calls Try.prog 23 #[.slice A n c, .int .i64 bits] W' fun ed w' => ed = .returned (.agg #[.int .i64 W, .int .i64 H, .int .i64 B, .string s]) ∧ Below W'.heap.size W' w'))
    (HPX : Hid (∀ W', Calls Try.prog 25 #[.int .i64 dx, .int .i64 12] W' fun ed w' => ed = .returned (.int .i64 (u + 4)) ∧ W' = w'))
    (HPY : Hid (∀ W', Calls Try.prog 25 #[.int .i64 dy, .int .i64 12] W' fun ed w' => ed = .returned (.int .i64 (v + 4)) ∧ W' = w'))
    (hu0 : -4 ≤ u) (hu1 : u ≤ 7) (hv0 : -4 ≤ v) (hv1 : v ≤ 7) (hH0 : 1 ≤ H) (hH1 : H ≤ 9) (hmay : mayI W H B s.size = true) :
    Calls Try.prog 6 #[.slice A n c, .int .i64 bits, .int .i64 dx, .int .i64 dy, .bool false] w fun ed w' => ed = .returned (.bool true) ∧ Below w.heap.size w w' := by
  have hs := may_size hmay
  have hBv := (mayI_bd hmay).1
  have hmat : mayB 1048576 0 0 (-1048576) (16 * u * 65536) (16 * (v + H) * 65536) = true := mayB_ok (by omega) (by omega) (by omega) (by omega) (by omega) (by omega)
  obtain ⟨N, hN⟩ : ∃ N, N = 3 * (14 * 14) := ⟨_, rfl⟩
  have HNW := Lib.hid (fun W' => new_pg37 14 14 N W' (by decide) (by decide) hN)
  have HAL := Lib.hid (fun W' => rall_any 14 14 W' (by decide) (by decide))
  have HW1 := Lib.hid (fun W' => show Calls Try.prog 34 #[.int .i64 16, .int .i64 0, .int .i64 0, .int .i64 16, .int .i64 (16 * u), .int .i64 (16 * v)] W' fun ed w' => ed = .returned (.agg #[.int .i64 1048576, .int .i64 0, .int .i64 0, .int .i64 1048576, .int .i64 (16 * u * 65536), .int .i64 (16 * v * 65536)]) ∧ Below W'.heap.size W' w' from Whole_any 16 0 0 16 (16 * u) (16 * v) W' (by decide) (by decide) (by decide) (by decide) (by omega) (by omega))
  have HW2 := Lib.hid (fun W' => show Calls Try.prog 34 #[.int .i64 16, .int .i64 0, .int .i64 0, .int .i64 (-16), .int .i64 (16 * u), .int .i64 (16 * (v + H))] W' fun ed w' => ed = .returned (.agg #[.int .i64 1048576, .int .i64 0, .int .i64 0, .int .i64 (-1048576), .int .i64 (16 * u * 65536), .int .i64 (16 * (v + H) * 65536)]) ∧ Below W'.heap.size W' w' from Whole_any 16 0 0 (-16) (16 * u) (16 * (v + H)) W' (by decide) (by decide) (by decide) (by decide) (by omega) (by omega))
  have HPT := Lib.hid (fun cp dr A D R Y W' hp hr => paint_any W H B 1048576 0 0 (-1048576) (16 * u * 65536) (16 * (v + H) * 65536) _ s 14 14 N cp dr A D R Y W' (by decide) (by decide) hN hs hmay hmat rfl (by omega) hp hr)
  have hat : ∀ (j i : Nat), j < 14 → i < 14 → atV W H B s 1048576 0 0 (-1048576) (16 * u * 65536) (16 * (v + H) * 65536) (16 * (i : Int) + 8) (16 * (j : Int) + 8) = sampV W H B s ((i : Int) - u) (H - 1 - ((j : Int) - v)) := fun j i hj hi => straight_up W H B u v s i j hi hj
  obtain ⟨S, hS⟩ : ∃ S : Nat → Nat → Int, (fun (j i : Nat) => atV W H B s 1048576 0 0 (-1048576) (16 * u * 65536) (16 * (v + H) * 65536) (16 * (i : Int) + 8) (16 * (j : Int) + 8)) = S := ⟨_, rfl⟩
  have hS1 : ∀ j i : Nat, atV W H B s 1048576 0 0 (-1048576) (16 * u * 65536) (16 * (v + H) * 65536) (16 * (i : Int) + 8) (16 * (j : Int) + 8) = S j i := fun j i => by rw [← hS]
  have HSB := Lib.hid (fun (j i : Nat) => (hS1 j i) ▸ atV_bd W H B 1048576 0 0 (-1048576) (16 * u * 65536) (16 * (v + H) * 65536) (16 * (i : Int) + 8) (16 * (j : Int) + 8) s hmay)
  have HAT := Lib.hid (fun (y x : Nat) W' => show Calls Try.prog 18 #[.agg #[.int .i64 W, .int .i64 H, .int .i64 B, .string s], .agg #[.int .i64 1048576, .int .i64 0, .int .i64 0, .int .i64 (-1048576), .int .i64 (16 * u * 65536), .int .i64 (16 * (v + H) * 65536)], .int .i64 (16 * (x : Int) + 8), .int .i64 (16 * (y : Int) + 8)] W' fun ed w' => ed = .returned (.int .i64 (S y x)) ∧ Below W'.heap.size W' w' by
    have := At_any W H B 1048576 0 0 (-1048576) (16 * u * 65536) (16 * (v + H) * 65536) (16 * (x : Int) + 8) (16 * (y : Int) + 8) s W' hs
    unfold AtV at this
    rw [if_pos (by rw [hmay, hmat]; rfl), hS1] at this
    exact this)
  have HSA := Lib.hid (fun (y x : Nat) (hy : y < 14) (hx : x < 14) W' => show Calls Try.prog 16 #[.agg #[.int .i64 W, .int .i64 H, .int .i64 B, .string s], .int .i64 ((x : Int) - u), .int .i64 (H - 1 - ((y : Int) - v))] W' fun ed w' => ed = .returned (.int .i64 (S y x)) ∧ Below W'.heap.size W' w' by
    have := Sample_any W H B ((x : Int) - u) (H - 1 - ((y : Int) - v)) s W' hs
    rw [if_pos hmay, ← hat y x hy hx, hS1] at this
    exact this)
  have HPA := Lib.hid (fun (y x : Nat) (hy : y < 14) (hx : x < 14) (g f : Nat) W' hp => show Calls Try.prog 36 #[.agg #[.int .i64 14, .int .i64 14, .slice (some ⟨g, 0, none⟩) N f], .int .i64 (x : Int), .int .i64 (y : Int)] W' fun ed w' => ed = .returned (.tuple #[.agg #[.int .u8 (pxV B (S y x)), .int .u8 (pxV B (S y x)), .int .u8 (pxV B (S y x)), .int .u8 255], .bool true]) ∧ Below W'.heap.size W' w' by
    have := pg_at 14 14 N f x y (some ⟨g, 0, none⟩) (paintB 14 (fun _ _ => true) S (greyV B) (fun _ => 255)) W' (by decide) (by decide) hN hp hx hy
    rw [show 3 * (y * 14 + x) = 3 * (y * 14 + x) + 0 from rfl, straight_px _ _ _ _ 0 hx (by decide), Nat.add_zero, straight_px _ _ _ _ 1 hx (by decide), straight_px _ _ _ _ 2 hx (by decide)] at this
    exact this)
  rw [hS] at HPT
  have HBV := Lib.hid hBv
  clear hs hmay hmat hN hat hS hS1 hBv
  go_enter Try.func6, Try.ntmps6
  go_wp2_with fail
  have hst0 : Below w.heap.size w w := by (repeat' (first | exact Below.refl _ _ | exact Below.refl _ _ | refine balloc ?_ _ | refine Below.drew ?_ | refine below_drewN ?_ _ | refine bset ?_ (by first | omega | (simp <;> omega)) _))
  refine (known_any _).mono ?_
  rintro e_ w1 ⟨rfl, hb⟩
  have hst : Below w.heap.size w w1 := btrans hst0 hb
  have hbw : Below w.heap.size w w1 := hst
  clear hst hst0 hb 
  go_wp2_with fail
  have hst0 : Below w1.heap.size w1 w1 := by (repeat' (first | exact Below.refl _ _ | exact Below.refl _ _ | refine balloc ?_ _ | refine Below.drew ?_ | refine below_drewN ?_ _ | refine bset ?_ (by first | omega | (simp <;> omega)) _))
  refine (HMd.out _ (hr.below (btrans hbw hst0))).mono ?_
  rintro e_ w2 ⟨rfl, hb⟩
  have hst : Below w1.heap.size w1 w2 := btrans hst0 hb
  replace hbw : Below w.heap.size w w2 := btrans hbw hst
  clear hst hst0 hb 
  go_wp2_with fail
  refine (HPX.out _).mono ?_
  rintro e_ w_ ⟨rfl, rfl⟩
  go_wp2_with fail
  refine (HPY.out _).mono ?_
  rintro e_ w_ ⟨rfl, rfl⟩
  go_wp2_with fail
  have hst0 : Below w2.heap.size w2 (w2.alloc (.cells #[.int .i64 W, .int .i64 H, .int .i64 B, .string s] 23)) := by (repeat' (first | exact Below.refl _ _ | exact Below.refl _ _ | refine balloc ?_ _ | refine Below.drew ?_ | refine below_drewN ?_ _ | refine bset ?_ (by first | omega | (simp <;> omega)) _))
  refine (HW1.out _).mono ?_
  rintro e_ w3 ⟨rfl, hb⟩
  have hst : Below w2.heap.size w2 w3 := btrans hst0 hb
  have Ki := (Blk.new w2 23 #[.int .i64 W, .int .i64 H, .int .i64 B, .string s])
  replace Ki := Ki.below hb Ki.lt
  replace hbw : Below w.heap.size w w3 := btrans hbw hst
  clear hst hst0 hb 
  have lKi := Ki.lt
  have cKi0 := Ki.cell 0
  have cKi1 := Ki.cell 1
  have cKi2 := Ki.cell 2
  have cKi3 := Ki.cell 3
  simp only [List.getElem?_toArray, List.getElem?_cons_succ, List.getElem?_cons_zero] at cKi0 cKi1 cKi2 cKi3
  have hne : w2.heap.size ≠ w3.heap.size := Nat.ne_of_lt lKi
  have HQS : w.heap.size ≤ w3.heap.size := hbw.size
  go_wp2_with fail
  have hst0 : Below w3.heap.size w3 (w3.alloc (.cells #[.int .i64 1048576, .int .i64 0, .int .i64 0, .int .i64 1048576, .int .i64 (16 * u * 65536), .int .i64 (16 * v * 65536)] 25)) := by (repeat' (first | exact Below.refl _ _ | exact Below.refl _ _ | refine balloc ?_ _ | refine Below.drew ?_ | refine below_drewN ?_ _ | refine bset ?_ (by first | omega | (simp <;> omega)) _))
  refine (HW2.out _).mono ?_
  rintro e_ w4 ⟨rfl, hb⟩
  have hst : Below w3.heap.size w3 w4 := btrans hst0 hb
  replace Ki := (Ki.alloc (.cells #[.int .i64 1048576, .int .i64 0, .int .i64 0, .int .i64 1048576, .int .i64 (16 * u * 65536), .int .i64 (16 * v * 65536)] 25))
  have Km := (Blk.new w3 25 #[.int .i64 1048576, .int .i64 0, .int .i64 0, .int .i64 1048576, .int .i64 (16 * u * 65536), .int .i64 (16 * v * 65536)])
  replace Ki := Ki.below hb Ki.lt
  replace Km := Km.below hb Km.lt
  replace hbw : Below w.heap.size w w4 := btrans hbw hst
  clear hst hst0 hb lKi cKi0 cKi1 cKi2 cKi3
  have lKi := Ki.lt
  have cKi0 := Ki.cell 0
  have cKi1 := Ki.cell 1
  have cKi2 := Ki.cell 2
  have cKi3 := Ki.cell 3
  have lKm := Km.lt
  have cKm0 := Km.cell 0
  have cKm1 := Km.cell 1
  have cKm2 := Km.cell 2
  have cKm3 := Km.cell 3
  have cKm4 := Km.cell 4
  have cKm5 := Km.cell 5
  have fKm0 := Km.frozen 0
  have fKm1 := Km.frozen 1
  have fKm2 := Km.frozen 2
  have fKm3 := Km.frozen 3
  have fKm4 := Km.frozen 4
  have fKm5 := Km.frozen 5
  simp only [List.getElem?_toArray, List.getElem?_cons_succ, List.getElem?_cons_zero] at cKi0 cKi1 cKi2 cKi3 cKm0 cKm1 cKm2 cKm3 cKm4 cKm5
  go_wp2_with fail
  replace Km : Blk _ w3.heap.size 25 #[.int .i64 1048576, .int .i64 0, .int .i64 0, .int .i64 (-1048576), .int .i64 (16 * u * 65536), .int .i64 (16 * (v + H) * 65536)] := blk_cast ((((((Km.set_ 0 (.int .i64 1048576)).set_ 1 (.int .i64 0)).set_ 2 (.int .i64 0)).set_ 3 (.int .i64 (-1048576))).set_ 4 (.int .i64 (16 * u * 65536))).set_ 5 (.int .i64 (16 * (v + H) * 65536))) (by kernel_rfl)
  replace Ki : Blk _ w2.heap.size 23 #[.int .i64 W, .int .i64 H, .int .i64 B, .string s] := ((((((Ki.far (p := ⟨w3.heap.size, 0, none⟩) hne (.int .i64 1048576)).far (p := ⟨w3.heap.size, 1, none⟩) hne (.int .i64 0)).far (p := ⟨w3.heap.size, 2, none⟩) hne (.int .i64 0)).far (p := ⟨w3.heap.size, 3, none⟩) hne (.int .i64 (-1048576))).far (p := ⟨w3.heap.size, 4, none⟩) hne (.int .i64 (16 * u * 65536))).far (p := ⟨w3.heap.size, 5, none⟩) hne (.int .i64 (16 * (v + H) * 65536)))
  have hq0 := HQS
  replace hbw : Below w.heap.size w ((((((w4.setCell ⟨w3.heap.size, 0, none⟩ (.int .i64 1048576)).setCell ⟨w3.heap.size, 1, none⟩ (.int .i64 0)).setCell ⟨w3.heap.size, 2, none⟩ (.int .i64 0)).setCell ⟨w3.heap.size, 3, none⟩ (.int .i64 (-1048576))).setCell ⟨w3.heap.size, 4, none⟩ (.int .i64 (16 * u * 65536))).setCell ⟨w3.heap.size, 5, none⟩ (.int .i64 (16 * (v + H) * 65536))) := by (repeat' (first | refine bset ?_ (by first | omega | (simp <;> omega)) _ | refine balloc ?_ _ | refine Below.drew ?_ | refine below_drewN ?_ _ | exact hbw | exact Below.refl _ _))
  generalize hwx : ((((((w4.setCell ⟨w3.heap.size, 0, none⟩ (.int .i64 1048576)).setCell ⟨w3.heap.size, 1, none⟩ (.int .i64 0)).setCell ⟨w3.heap.size, 2, none⟩ (.int .i64 0)).setCell ⟨w3.heap.size, 3, none⟩ (.int .i64 (-1048576))).setCell ⟨w3.heap.size, 4, none⟩ (.int .i64 (16 * u * 65536))).setCell ⟨w3.heap.size, 5, none⟩ (.int .i64 (16 * (v + H) * 65536))) = w5 at *
  clear hwx hq0 HQS lKi cKi0 cKi1 cKi2 cKi3 lKm cKm0 cKm1 cKm2 cKm3 cKm4 cKm5 fKm0 fKm1 fKm2 fKm3 fKm4 fKm5
  have lKi := Ki.lt
  have cKi0 := Ki.cell 0
  have cKi1 := Ki.cell 1
  have cKi2 := Ki.cell 2
  have cKi3 := Ki.cell 3
  have lKm := Km.lt
  have cKm0 := Km.cell 0
  have cKm1 := Km.cell 1
  have cKm2 := Km.cell 2
  have cKm3 := Km.cell 3
  have cKm4 := Km.cell 4
  have cKm5 := Km.cell 5
  simp only [List.getElem?_toArray, List.getElem?_cons_succ, List.getElem?_cons_zero] at cKi0 cKi1 cKi2 cKi3 cKm0 cKm1 cKm2 cKm3 cKm4 cKm5
  have hst0 : Below w5.heap.size w5 w5 := by (repeat' (first | exact Below.refl _ _ | exact Below.refl _ _ | refine balloc ?_ _ | refine Below.drew ?_ | refine below_drewN ?_ _ | refine bset ?_ (by first | omega | (simp <;> omega)) _))
  refine (HNW.out _).mono ?_
  rintro e_ w6 ⟨gw, ow, fw, rfl, hWh, hb⟩
  have hst : Below w5.heap.size w5 w6 := btrans hst0 hb
  replace Ki := Ki.below hb Ki.lt
  replace Km := Km.below hb Km.lt
  replace hbw : Below w.heap.size w w6 := btrans hbw hst
  clear hst hst0 hb lKi cKi0 cKi1 cKi2 cKi3 lKm cKm0 cKm1 cKm2 cKm3 cKm4 cKm5
  have HhWh := Lib.hid hWh
  clear hWh
  have lKi := Ki.lt
  have cKi0 := Ki.cell 0
  have cKi1 := Ki.cell 1
  have cKi2 := Ki.cell 2
  have cKi3 := Ki.cell 3
  have lKm := Km.lt
  have cKm0 := Km.cell 0
  have cKm1 := Km.cell 1
  have cKm2 := Km.cell 2
  have cKm3 := Km.cell 3
  have cKm4 := Km.cell 4
  have cKm5 := Km.cell 5
  simp only [List.getElem?_toArray, List.getElem?_cons_succ, List.getElem?_cons_zero] at cKi0 cKi1 cKi2 cKi3 cKm0 cKm1 cKm2 cKm3 cKm4 cKm5
  go_wp2_with fail
  have hst0 : Below w6.heap.size w6 (w6.alloc (.cells #[.int .i64 14, .int .i64 14, .slice (some ⟨gw, ow, none⟩) N fw] 46)) := by (repeat' (first | exact Below.refl _ _ | exact Below.refl _ _ | refine balloc ?_ _ | refine Below.drew ?_ | refine below_drewN ?_ _ | refine bset ?_ (by first | omega | (simp <;> omega)) _))
  refine (HAL.out _).mono ?_
  rintro e_ w7 ⟨gA, hgA, rfl, hAl, hb⟩
  clear hgA
  have hst : Below w6.heap.size w6 w7 := btrans hst0 hb
  replace Ki := (Ki.alloc (.cells #[.int .i64 14, .int .i64 14, .slice (some ⟨gw, ow, none⟩) N fw] 46))
  replace Km := (Km.alloc (.cells #[.int .i64 14, .int .i64 14, .slice (some ⟨gw, ow, none⟩) N fw] 46))
  have Kw := (Blk.new w6 46 #[.int .i64 14, .int .i64 14, .slice (some ⟨gw, ow, none⟩) N fw])
  replace Ki := Ki.below hb Ki.lt
  replace Km := Km.below hb Km.lt
  replace Kw := Kw.below hb Kw.lt
  replace hbw : Below w.heap.size w w7 := btrans hbw hst
  replace HhWh := Lib.hid (HhWh.out.below hst)
  clear hst hst0 hb lKi cKi0 cKi1 cKi2 cKi3 lKm cKm0 cKm1 cKm2 cKm3 cKm4 cKm5
  have HhAl := Lib.hid hAl
  clear hAl
  have lKi := Ki.lt
  have cKi0 := Ki.cell 0
  have cKi1 := Ki.cell 1
  have cKi2 := Ki.cell 2
  have cKi3 := Ki.cell 3
  have lKm := Km.lt
  have cKm0 := Km.cell 0
  have cKm1 := Km.cell 1
  have cKm2 := Km.cell 2
  have cKm3 := Km.cell 3
  have cKm4 := Km.cell 4
  have cKm5 := Km.cell 5
  have lKw := Kw.lt
  have cKw0 := Kw.cell 0
  have cKw1 := Kw.cell 1
  have cKw2 := Kw.cell 2
  simp only [List.getElem?_toArray, List.getElem?_cons_succ, List.getElem?_cons_zero] at cKi0 cKi1 cKi2 cKi3 cKm0 cKm1 cKm2 cKm3 cKm4 cKm5 cKw0 cKw1 cKw2
  go_wp2_with fail
  have hst0 : Below w7.heap.size w7 (w7.alloc (.cells #[.int .i64 14, .int .i64 14, .slice (some ⟨gA, 0, none⟩) 14 14] 51)) := by (repeat' (first | exact Below.refl _ _ | exact Below.refl _ _ | refine balloc ?_ _ | refine Below.drew ?_ | refine below_drewN ?_ _ | refine bset ?_ (by first | omega | (simp <;> omega)) _))
  refine (HPT.out _ _ _ _ _ _ _ (HhWh.out.below hst0) (HhAl.out.below hst0)).mono ?_
  rintro e_ w8 ⟨gq, fq, hgq, rfl, hQq, hb⟩
  clear hgq
  have hst : Below w7.heap.size w7 w8 := btrans hst0 hb
  replace Ki := (Ki.alloc (.cells #[.int .i64 14, .int .i64 14, .slice (some ⟨gA, 0, none⟩) 14 14] 51))
  replace Km := (Km.alloc (.cells #[.int .i64 14, .int .i64 14, .slice (some ⟨gA, 0, none⟩) 14 14] 51))
  replace Kw := (Kw.alloc (.cells #[.int .i64 14, .int .i64 14, .slice (some ⟨gA, 0, none⟩) 14 14] 51))
  have KA := (Blk.new w7 51 #[.int .i64 14, .int .i64 14, .slice (some ⟨gA, 0, none⟩) 14 14])
  replace Ki := Ki.below hb Ki.lt
  replace Km := Km.below hb Km.lt
  replace Kw := Kw.below hb Kw.lt
  replace KA := KA.below hb KA.lt
  replace hbw : Below w.heap.size w w8 := btrans hbw hst
  replace HhWh := Lib.hid (HhWh.out.below hst)
  replace HhAl := Lib.hid (HhAl.out.below hst)
  clear hst hst0 hb lKi cKi0 cKi1 cKi2 cKi3 lKm cKm0 cKm1 cKm2 cKm3 cKm4 cKm5 lKw cKw0 cKw1 cKw2
  have HhQq := Lib.hid hQq
  clear hQq
  have lKi := Ki.lt
  have cKi0 := Ki.cell 0
  have cKi1 := Ki.cell 1
  have cKi2 := Ki.cell 2
  have cKi3 := Ki.cell 3
  have lKm := Km.lt
  have cKm0 := Km.cell 0
  have cKm1 := Km.cell 1
  have cKm2 := Km.cell 2
  have cKm3 := Km.cell 3
  have cKm4 := Km.cell 4
  have cKm5 := Km.cell 5
  have lKw := Kw.lt
  have cKw0 := Kw.cell 0
  have cKw1 := Kw.cell 1
  have cKw2 := Kw.cell 2
  have lKA := KA.lt
  have cKA0 := KA.cell 0
  have cKA1 := KA.cell 1
  have cKA2 := KA.cell 2
  simp only [List.getElem?_toArray, List.getElem?_cons_succ, List.getElem?_cons_zero] at cKi0 cKi1 cKi2 cKi3 cKm0 cKm1 cKm2 cKm3 cKm4 cKm5 cKw0 cKw1 cKw2 cKA0 cKA1 cKA2
  go_wp2_with fail
  have hst : Below w8.heap.size w8 (w8.alloc (.cells #[.int .i64 14, .int .i64 14, .slice (some ⟨gq, 0, none⟩) N fq] 46)) := by (repeat' (first | exact Below.refl _ _ | exact Below.refl _ _ | refine balloc ?_ _ | refine Below.drew ?_ | refine below_drewN ?_ _ | refine bset ?_ (by first | omega | (simp <;> omega)) _))
  replace HhWh := Lib.hid (HhWh.out.below hst)
  replace HhAl := Lib.hid (HhAl.out.below hst)
  replace HhQq := Lib.hid (HhQq.out.below hst)
  clear hst
  replace Ki := (Ki.alloc (.cells #[.int .i64 14, .int .i64 14, .slice (some ⟨gq, 0, none⟩) N fq] 46))
  replace Km := (Km.alloc (.cells #[.int .i64 14, .int .i64 14, .slice (some ⟨gq, 0, none⟩) N fq] 46))
  replace Kw := (Kw.alloc (.cells #[.int .i64 14, .int .i64 14, .slice (some ⟨gq, 0, none⟩) N fq] 46))
  replace KA := (KA.alloc (.cells #[.int .i64 14, .int .i64 14, .slice (some ⟨gq, 0, none⟩) N fq] 46))
  have Kq := (Blk.new w8 46 #[.int .i64 14, .int .i64 14, .slice (some ⟨gq, 0, none⟩) N fq])
  replace hbw : Below w.heap.size w (w8.alloc (.cells #[.int .i64 14, .int .i64 14, .slice (some ⟨gq, 0, none⟩) N fq] 46)) := by (repeat' (first | refine bset ?_ (by first | omega | (simp <;> omega)) _ | refine balloc ?_ _ | refine Below.drew ?_ | refine below_drewN ?_ _ | exact hbw | exact Below.refl _ _))
  clear lKi cKi0 cKi1 cKi2 cKi3 lKm cKm0 cKm1 cKm2 cKm3 cKm4 cKm5 lKw cKw0 cKw1 cKw2 lKA cKA0 cKA1 cKA2
  generalize hwx : (w8.alloc (.cells #[.int .i64 14, .int .i64 14, .slice (some ⟨gq, 0, none⟩) N fq] 46)) = wL at *
  clear hwx
  clear Kw KA
  have lKi := Ki.lt
  have cKi0 := Ki.cell 0
  have cKi1 := Ki.cell 1
  have cKi2 := Ki.cell 2
  have cKi3 := Ki.cell 3
  have lKm := Km.lt
  have cKm0 := Km.cell 0
  have cKm1 := Km.cell 1
  have cKm2 := Km.cell 2
  have cKm3 := Km.cell 3
  have cKm4 := Km.cell 4
  have cKm5 := Km.cell 5
  have lKq := Kq.lt
  have cKq0 := Kq.cell 0
  have cKq1 := Kq.cell 1
  have cKq2 := Kq.cell 2
  simp only [List.getElem?_toArray, List.getElem?_cons_succ, List.getElem?_cons_zero] at cKi0 cKi1 cKi2 cKi3 cKm0 cKm1 cKm2 cKm3 cKm4 cKm5 cKq0 cKq1 cKq2
  go_loopw [21] (fun yv wr => ∃ y : Nat, y ≤ 14 ∧ yv = .int .i64 (y : Int) ∧ Below wL.heap.size wL wr) (fun yv _ => 14 - (intOf yv).toNat)
  case atStart => exact ⟨0, by omega, rfl, Below.refl _ _⟩
  case round =>
    obtain ⟨y, hy, rfl, hbr⟩ := hrel
    obtain ⟨wo, rfl⟩ : ∃ wo, wo = wr := ⟨_, rfl⟩
    by_cases hyl : y < 14
    · have d1 : decide ((y : Int) < 14) = true := by simp; omega
      go_wp2_with fail
      go_loopw [22] (fun xv wr => ∃ x : Nat, x ≤ 14 ∧ xv = .int .i64 (x : Int) ∧ Below wL.heap.size wL wr) (fun xv _ => 14 - (intOf xv).toNat)
      case atStart => exact ⟨0, by omega, rfl, hbr⟩
      case round =>
        clear hbr
        obtain ⟨x, hx, rfl, hbr⟩ := hrel
        by_cases hxl : x < 14
        · have d2 : decide ((x : Int) < 14) = true := by simp; omega
          have rKi0 := (hbr.cell (p := ⟨w2.heap.size, 0, none⟩) lKi).trans cKi0
          have rKi1 := (hbr.cell (p := ⟨w2.heap.size, 1, none⟩) lKi).trans cKi1
          have rKi2 := (hbr.cell (p := ⟨w2.heap.size, 2, none⟩) lKi).trans cKi2
          have rKi3 := (hbr.cell (p := ⟨w2.heap.size, 3, none⟩) lKi).trans cKi3
          have rKm0 := (hbr.cell (p := ⟨w3.heap.size, 0, none⟩) lKm).trans cKm0
          have rKm1 := (hbr.cell (p := ⟨w3.heap.size, 1, none⟩) lKm).trans cKm1
          have rKm2 := (hbr.cell (p := ⟨w3.heap.size, 2, none⟩) lKm).trans cKm2
          have rKm3 := (hbr.cell (p := ⟨w3.heap.size, 3, none⟩) lKm).trans cKm3
          have rKm4 := (hbr.cell (p := ⟨w3.heap.size, 4, none⟩) lKm).trans cKm4
          have rKm5 := (hbr.cell (p := ⟨w3.heap.size, 5, none⟩) lKm).trans cKm5
          have rKq0 := (hbr.cell (p := ⟨w8.heap.size, 0, none⟩) lKq).trans cKq0
          have rKq1 := (hbr.cell (p := ⟨w8.heap.size, 1, none⟩) lKq).trans cKq1
          have rKq2 := (hbr.cell (p := ⟨w8.heap.size, 2, none⟩) lKq).trans cKq2
          have HS1 := Lib.hid (fun W' => HSA.out y x hyl hxl W')
          have HA1 := Lib.hid (fun W' => HAT.out y x W')
          have HQ1 := Lib.hid (fun W' (hW' : Below wL.heap.size wL W') => HPA.out y x hyl hxl gq fq W' (HhQq.out.below hW'))
          have hvb := HSB.out y x
          obtain ⟨z, hz⟩ : ∃ z, S y x = z := ⟨_, rfl⟩
          rw [hz] at HS1 HA1 HQ1 hvb
          obtain ⟨g, hg⟩ : ∃ g, pxV B z = g := ⟨_, rfl⟩
          rw [hg] at HQ1
          have HBR := Lib.hid hbr
          clear hbr hz
          go_wp2_with fail
          refine (HS1.out _).mono ?_
          rintro e_ wa ⟨rfl, hb⟩
          replace HBR := Lib.hid (btrans HBR.out hb)
          clear hb rKi0 rKi1 rKi2 rKi3 rKm0 rKm1 rKm2 rKm3 rKm4 rKm5 rKq0 rKq1 rKq2
          have rKi0 := (HBR.out.cell (p := ⟨w2.heap.size, 0, none⟩) lKi).trans cKi0
          have rKi1 := (HBR.out.cell (p := ⟨w2.heap.size, 1, none⟩) lKi).trans cKi1
          have rKi2 := (HBR.out.cell (p := ⟨w2.heap.size, 2, none⟩) lKi).trans cKi2
          have rKi3 := (HBR.out.cell (p := ⟨w2.heap.size, 3, none⟩) lKi).trans cKi3
          have rKm0 := (HBR.out.cell (p := ⟨w3.heap.size, 0, none⟩) lKm).trans cKm0
          have rKm1 := (HBR.out.cell (p := ⟨w3.heap.size, 1, none⟩) lKm).trans cKm1
          have rKm2 := (HBR.out.cell (p := ⟨w3.heap.size, 2, none⟩) lKm).trans cKm2
          have rKm3 := (HBR.out.cell (p := ⟨w3.heap.size, 3, none⟩) lKm).trans cKm3
          have rKm4 := (HBR.out.cell (p := ⟨w3.heap.size, 4, none⟩) lKm).trans cKm4
          have rKm5 := (HBR.out.cell (p := ⟨w3.heap.size, 5, none⟩) lKm).trans cKm5
          have rKq0 := (HBR.out.cell (p := ⟨w8.heap.size, 0, none⟩) lKq).trans cKq0
          have rKq1 := (HBR.out.cell (p := ⟨w8.heap.size, 1, none⟩) lKq).trans cKq1
          have rKq2 := (HBR.out.cell (p := ⟨w8.heap.size, 2, none⟩) lKq).trans cKq2
          go_wp2_with fail
          refine (HQ1.out _ HBR.out).mono ?_
          rintro e_ wb ⟨rfl, hb⟩
          replace HBR := Lib.hid (btrans HBR.out hb)
          clear hb rKi0 rKi1 rKi2 rKi3 rKm0 rKm1 rKm2 rKm3 rKm4 rKm5 rKq0 rKq1 rKq2
          have rKi0 := (HBR.out.cell (p := ⟨w2.heap.size, 0, none⟩) lKi).trans cKi0
          have rKi1 := (HBR.out.cell (p := ⟨w2.heap.size, 1, none⟩) lKi).trans cKi1
          have rKi2 := (HBR.out.cell (p := ⟨w2.heap.size, 2, none⟩) lKi).trans cKi2
          have rKi3 := (HBR.out.cell (p := ⟨w2.heap.size, 3, none⟩) lKi).trans cKi3
          have rKm0 := (HBR.out.cell (p := ⟨w3.heap.size, 0, none⟩) lKm).trans cKm0
          have rKm1 := (HBR.out.cell (p := ⟨w3.heap.size, 1, none⟩) lKm).trans cKm1
          have rKm2 := (HBR.out.cell (p := ⟨w3.heap.size, 2, none⟩) lKm).trans cKm2
          have rKm3 := (HBR.out.cell (p := ⟨w3.heap.size, 3, none⟩) lKm).trans cKm3
          have rKm4 := (HBR.out.cell (p := ⟨w3.heap.size, 4, none⟩) lKm).trans cKm4
          have rKm5 := (HBR.out.cell (p := ⟨w3.heap.size, 5, none⟩) lKm).trans cKm5
          have rKq0 := (HBR.out.cell (p := ⟨w8.heap.size, 0, none⟩) lKq).trans cKq0
          have rKq1 := (HBR.out.cell (p := ⟨w8.heap.size, 1, none⟩) lKq).trans cKq1
          have rKq2 := (HBR.out.cell (p := ⟨w8.heap.size, 2, none⟩) lKq).trans cKq2
          have HBR2 := Lib.hid (show Below wL.heap.size wL (wb.alloc (.cells #[.int .u8 g, .int .u8 g, .int .u8 g, .int .u8 255] 62)) from balloc HBR.out _)
          have hlt := HBR.out.size
          have mKi : w2.heap.size < wb.heap.size := Nat.lt_of_lt_of_le lKi hlt
          have mKm : w3.heap.size < wb.heap.size := Nat.lt_of_lt_of_le lKm hlt
          have mKq : w8.heap.size < wb.heap.size := Nat.lt_of_lt_of_le lKq hlt
          rcases (show (z < 0) ∨ 0 ≤ z by omega) with h0 | h0
          · have d3 : decide (z ≥ 0) = false := by simp; omega
            have d4 : decide (0 ≤ z) = false := by simp; omega
            have hg2 : g = 255 := by rw [← hg]; unfold pxV; rw [if_neg (by omega)]
            subst hg2
            clear hg
            go_wp2_with fail
            refine (HA1.out _).mono ?_
            rintro e_ wc ⟨rfl, hb⟩
            have HBR3 := Lib.hid (btrans HBR2.out hb)
            have ck0 := (Blk.new wb 62 #[.int .u8 255, .int .u8 255, .int .u8 255, .int .u8 255]).below hb (by simp)
            have k0 := ck0.cell 0
            have k1 := ck0.cell 1
            have k2 := ck0.cell 2
            have k3 := ck0.cell 3
            simp only [List.getElem?_toArray, List.getElem?_cons_succ, List.getElem?_cons_zero] at k0 k1 k2 k3
            clear hb ck0 rKi0 rKi1 rKi2 rKi3 rKm0 rKm1 rKm2 rKm3 rKm4 rKm5 rKq0 rKq1 rKq2
            go_wp2_with fail
            go_roundw
            case rel => exact ⟨x + 1, by omega, by go_num, HBR3.out⟩
            case measure => simp [intOf]; omega
          · have d3 : decide (z ≥ 0) = true := by simp; omega
            have d4 : decide (0 ≤ z) = true := by simp; omega
            have hpb := pow_bd HBV.out
            have hgb := greyV_bd HBV.out (show 0 ≤ z by omega) hvb.2
            have hg1 : greyV B z = g := by rw [← hg]; unfold pxV; rw [if_pos h0]
            rw [hg1] at hgb
            have hquo : (255 * z).tdiv ((2 : Int) ^ B.toNat - 1) = g := by
              rw [← hg1, Int.tdiv_eq_ediv_of_nonneg (by omega), Int.mul_comm]; rfl
            have hB0 : ¬ B < 0 := by rcases HBV.out with h | h | h | h <;> omega
            have hB1 : 0 ≤ B := by omega
            have hB2 : B ≤ 8 := by rcases HBV.out with h | h | h | h <;> omega
            have hBsh : (B.toNat : Int) = B := by omega
            have hBu : IntKind.u64.wrap B = B := by simp only [IntKind.wrap, IntKind.signed, IntKind.bits]; simp; omega
            obtain ⟨pw, hpw⟩ : ∃ pw, (2 : Int) ^ B.toNat = pw := ⟨_, rfl⟩
            rw [hpw] at hpb hquo hvb
            have hpz : ¬ pw - 1 = 0 := by omega
            have hgw : IntKind.u8.wrap g = g := by simp only [IntKind.wrap, IntKind.signed, IntKind.bits]; simp; omega
            clear hg hg1
            go_wp2_with fail
            refine (HA1.out _).mono ?_
            rintro e_ wc ⟨rfl, hb⟩
            have HBR3 := Lib.hid (btrans HBR2.out hb)
            have ck0 := (Blk.new wb 62 #[.int .u8 g, .int .u8 g, .int .u8 g, .int .u8 255]).below hb (by simp)
            have k0 := ck0.cell 0
            have k1 := ck0.cell 1
            have k2 := ck0.cell 2
            have k3 := ck0.cell 3
            simp only [List.getElem?_toArray, List.getElem?_cons_succ, List.getElem?_cons_zero] at k0 k1 k2 k3
            clear hb ck0 rKi0 rKi1 rKi2 rKi3 rKm0 rKm1 rKm2 rKm3 rKm4 rKm5 rKq0 rKq1 rKq2
            go_wp2_with fail
            go_roundw
            case rel => exact ⟨x + 1, by omega, by go_num, HBR3.out⟩
            case measure => simp [intOf]; omega
        · obtain rfl : x = 14 := by omega
          have d2 : decide (((14 : Nat) : Int) < 14) = false := by simp
          go_wp2_with fail
          go_roundw
          case rel => exact ⟨y + 1, by omega, by go_num, hbr⟩
          case measure => simp [intOf]; omega
    · obtain rfl : y = 14 := by omega
      have d1 : decide (((14 : Nat) : Int) < 14) = false := by simp
      go_wp2_with fail
      go_ret
      exact ⟨rfl, btrans hbw hbr⟩

theorem istraight_law (A : Option Addr) (n c : Nat) (ns : Nat → Int) (bits dx dy : Int) (dn : Bool) (w : World) (hr : Ints w A n c ns) (hn : n ≤ 9223372036854775807) (_h0 : -9223372036854775808 ≤ bits ∧ bits ≤ 9223372036854775807) (_h1 : -9223372036854775808 ≤ dx ∧ dx ≤ 9223372036854775807) (_h2 : -9223372036854775808 ≤ dy ∧ dy ≤ 9223372036854775807) :
    Calls Try.prog 6 #[.slice A n c, .int .i64 bits, .int .i64 dx, .int .i64 dy, .bool dn] w fun ed w' => ed = .returned (.bool true) ∧ Below w.heap.size w w' := by
  obtain ⟨W, H, B, s, hB, hmay, hW9, hH9, hMd⟩ := made_b A n c ns bits hn
  have hPx := fun W' => place_any dx 12 W' (by decide) (by decide)
  have hPy := fun W' => place_any dy 12 W' (by decide) (by decide)
  have ex : 0 ≤ dx % 12 ∧ dx % 12 < 12 := by omega
  have ey : 0 ≤ dy % 12 ∧ dy % 12 < 12 := by omega
  generalize dx % 12 = px at *
  generalize dy % 12 = py at *
  rw [show px = (px - 4) + 4 by omega] at hPx
  rw [show py = (py - 4) + 4 by omega] at hPy
  have hHp := (mayI_bd hmay).2.2.1.1
  cases dn with
  | true => exact istraight_down A n c ns bits dx dy W H B (px - 4) (py - 4) s w hr (Lib.hid hMd) (Lib.hid hPx) (Lib.hid hPy) (by omega) (by omega) (by omega) (by omega) hHp hH9 hmay
  | false => exact istraight_up A n c ns bits dx dy W H B (px - 4) (py - 4) s w hr (Lib.hid hMd) (Lib.hid hPx) (Lib.hid hPy) (by omega) (by omega) (by omega) (by omega) hHp hH9 hmay
end Go.Proofs.Ytegpjjkbbdfggaa.im
