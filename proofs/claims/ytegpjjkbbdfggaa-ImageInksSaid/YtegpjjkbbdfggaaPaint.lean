/-
  Layer 37: image.Paint: a picture on a region's pixels.
-/
import Derived.Test.YtegpjjkbbdfggaaPaintR
import Derived.BigRegion
namespace Go.Proofs.Ytegpjjkbbdfggaa.im
set_option linter.unusedVariables false
set_option linter.unusedSimpArgs false
open Go.RowKit bs rg

theorem appended {w u w1 : World} {n : Nat} {v : Value} {xs : List Value} (hn : 0 < n) (hown : w1.ownsRow w.heap.size 5 1 v (0 + n) ([] ++ xs)) (hg1 : u.grownBy w1 (some w.heap.size)) (hbu : Below w.heap.size w u) :
    ∃ g d cs, v = .slice (some ⟨g, 0, none⟩) n d ∧ w.heap.size ≤ g ∧ Blk w1 g 5 cs ∧ n ≤ d ∧ cs.size = d ∧ cs.toList.take n = xs ∧ Below w.heap.size w w1 := by
  rw [Nat.zero_add, List.nil_append] at hown
  obtain ⟨g, d, cs, hv, hg, hB, hd, hs, ht⟩ := own_out hn hown
  exact ⟨g, d, cs, hv, hg, hB, hd, hs, ht, Below.grown hbu hg1 hbu.size (fun k e => by cases e; omega)⟩

set_option maxRecDepth 100000 in
set_option maxHeartbeats 6400000 in
theorem paint_any (W H B a b c d e f t : Int) (s : ByteArray) (w h n cp dr : Nat) (A D : Option Addr) (R : Nat → Nat → Bool) (Y : Nat → Int) (V : World) (hw : 1 ≤ w ∧ w ≤ 64) (hh : 1 ≤ h ∧ h ≤ 64) (hn : n = 3 * (w * h)) (hs : (s.size : Int) ≤ 9223372036854775807) (hi : mayI W H B s.size = true) (hm : mt.mayB a b c d e f = true) (ht : a * d - b * c = t) (h0 : ¬ t = 0)
    (hp : Pg V A n cp Y) (hr : rg.Rows V D h dr (rowsOf w R)) :
    Calls Try.prog 31 #[.agg #[.int .i64 (w : Int), .int .i64 (h : Int), .slice A n cp], .agg #[.int .i64 W, .int .i64 H, .int .i64 B, .string s], .agg #[.int .i64 a, .int .i64 b, .int .i64 c, .int .i64 d, .int .i64 e, .int .i64 f], .agg #[.int .i64 (w : Int), .int .i64 (h : Int), .slice D h dr]] V fun ed w' =>
      ∃ g fc, V.heap.size ≤ g ∧ ed = .returned (.tuple #[.agg #[.int .i64 (w : Int), .int .i64 (h : Int), .slice (some ⟨g, 0, none⟩) n fc], .int .i64 0]) ∧ Pg w' (some ⟨g, 0, none⟩) n fc (paintB w R (fun (j i : Nat) => atV W H B s a b c d e f (16 * (i : Int) + 8) (16 * (j : Int) + 8)) (greyV B) Y) ∧ Below V.heap.size V w' := by
  have hsz := page_size hw hh
  obtain ⟨hnc, bA, oA, rfl, hlt, hcell⟩ := id hp
  have hd := det_bd hm
  have hBv := (mayI_bd hi).1
  have HL := Lib.hid (fun W' => look_yes W H B a b c d e f s (a * d) (b * c) t W' hs hi hm rfl rfl ht hd.1.1 hd.1.2 hd.2.1 hd.2.2)
  obtain ⟨S, hS⟩ : ∃ S : Nat → Nat → Int, (fun (j i : Nat) => atV W H B s a b c d e f (16 * (i : Int) + 8) (16 * (j : Int) + 8)) = S := ⟨_, rfl⟩
  have hS1 : ∀ j i : Nat, atV W H B s a b c d e f (16 * (i : Int) + 8) (16 * (j : Int) + 8) = S j i := fun j i => by rw [← hS]
  have HA := Lib.hid (fun (j i : Nat) W' => (hS1 j i) ▸ at_any W H B a b c d e f t (16 * (i : Int) + 8) (16 * (j : Int) + 8) s W' hi hm ht)
  have HSB := Lib.hid (fun (j i : Nat) => (hS1 j i) ▸ atV_bd W H B a b c d e f (16 * (i : Int) + 8) (16 * (j : Int) + 8) s hi)
  have HM1 := Lib.hid (fun W' => inkmay_yes w h n cp (some ⟨bA, oA, none⟩) W' hw hh hn)
  have HM2 := Lib.hid (fun W' (hW' : Below V.heap.size V W') => rmay_yes w h dr D _ W' hw hh (fun j _ => rowsOf_mayB w R j hw.2) (hr.below hW'))
  have HPM := Lib.hid (fun g pB iB vB zB pv iv vv zv => pts_mk V g n pB iB vB zB pv iv vv zv w h R S (greyV B) Y (fun j i x => greyV_bd hBv x ((HSB.out j i).2)))
  have HALL := Lib.hid (fun t x => pntB_all w h R S (greyV B) Y t x)
  have HZ := Lib.hid (fun t => pntB_zero w R S (greyV B) Y t)
  have HPIX := Lib.hid (fun j i hj hi => (pix_in (W := w) (H := h) (j := j) (i := i) hj hi))
  obtain ⟨i0, hi0, hz0, hz1, hz2⟩ := info_parts (show (Try.prog.info? 5).map (fun i => (i.zero, i.size, i.bytes)) = some (some (.int .u8 0), 1, 1) by kernel_rfl)
  have ht0 : (t == 0) = false := by simp; exact h0
  have hwn : ¬ (w : Int) = 0 := by omega
  have HBV := Lib.hid hBv
  have HN := Lib.hid hn
  have HP := Lib.hid hp
  have HR := Lib.hid hr
  have HW := Lib.hid hw
  have HH := Lib.hid hh
  have hnn : 0 < n := by rw [hn]; exact hsz.1
  have hnx : n ≤ 12288 := by rw [hn]; exact hsz.2
  rw [hS]
  clear hs hi hm ht hd hw hh hn hp hr hS hS1 hsz hcell hBv

  go_enter Try.func31, Try.ntmps31
  go_wp2_with fail
  refine (HL.out _).mono ?_
  rintro e_ V1 ⟨rfl, hb1⟩
  have Kp := (((((Blk.new V 46 #[.int .i64 (w : Int), .int .i64 (h : Int), .slice (some ⟨bA, oA, none⟩) n cp]).alloc (.cells #[.int .i64 W, .int .i64 H, .int .i64 B, .string s] 23)).alloc (.cells #[.int .i64 a, .int .i64 b, .int .i64 c, .int .i64 d, .int .i64 e, .int .i64 f] 25)).alloc (.cells #[.int .i64 (w : Int), .int .i64 (h : Int), .slice D h dr] 51)).alloc (.cells #[.int .i64 0, .int .i64 0, .slice none 0 0] 46))
  have Ki := ((((Blk.new (V.alloc (.cells #[.int .i64 (w : Int), .int .i64 (h : Int), .slice (some ⟨bA, oA, none⟩) n cp] 46)) 23 #[.int .i64 W, .int .i64 H, .int .i64 B, .string s]).alloc (.cells #[.int .i64 a, .int .i64 b, .int .i64 c, .int .i64 d, .int .i64 e, .int .i64 f] 25)).alloc (.cells #[.int .i64 (w : Int), .int .i64 (h : Int), .slice D h dr] 51)).alloc (.cells #[.int .i64 0, .int .i64 0, .slice none 0 0] 46))
  have hz_Ki : (V.alloc (.cells #[.int .i64 (w : Int), .int .i64 (h : Int), .slice (some ⟨bA, oA, none⟩) n cp] 46)).heap.size = V.heap.size + 1 := by simp
  rw [hz_Ki] at Ki
  clear hz_Ki
  have Km := (((Blk.new ((V.alloc (.cells #[.int .i64 (w : Int), .int .i64 (h : Int), .slice (some ⟨bA, oA, none⟩) n cp] 46)).alloc (.cells #[.int .i64 W, .int .i64 H, .int .i64 B, .string s] 23)) 25 #[.int .i64 a, .int .i64 b, .int .i64 c, .int .i64 d, .int .i64 e, .int .i64 f]).alloc (.cells #[.int .i64 (w : Int), .int .i64 (h : Int), .slice D h dr] 51)).alloc (.cells #[.int .i64 0, .int .i64 0, .slice none 0 0] 46))
  have hz_Km : ((V.alloc (.cells #[.int .i64 (w : Int), .int .i64 (h : Int), .slice (some ⟨bA, oA, none⟩) n cp] 46)).alloc (.cells #[.int .i64 W, .int .i64 H, .int .i64 B, .string s] 23)).heap.size = V.heap.size + 1 + 1 := by simp
  rw [hz_Km] at Km
  clear hz_Km
  have Kg := ((Blk.new (((V.alloc (.cells #[.int .i64 (w : Int), .int .i64 (h : Int), .slice (some ⟨bA, oA, none⟩) n cp] 46)).alloc (.cells #[.int .i64 W, .int .i64 H, .int .i64 B, .string s] 23)).alloc (.cells #[.int .i64 a, .int .i64 b, .int .i64 c, .int .i64 d, .int .i64 e, .int .i64 f] 25)) 51 #[.int .i64 (w : Int), .int .i64 (h : Int), .slice D h dr]).alloc (.cells #[.int .i64 0, .int .i64 0, .slice none 0 0] 46))
  have hz_Kg : (((V.alloc (.cells #[.int .i64 (w : Int), .int .i64 (h : Int), .slice (some ⟨bA, oA, none⟩) n cp] 46)).alloc (.cells #[.int .i64 W, .int .i64 H, .int .i64 B, .string s] 23)).alloc (.cells #[.int .i64 a, .int .i64 b, .int .i64 c, .int .i64 d, .int .i64 e, .int .i64 f] 25)).heap.size = V.heap.size + 1 + 1 + 1 := by simp
  rw [hz_Kg] at Kg
  clear hz_Kg
  have Kz := (Blk.new ((((V.alloc (.cells #[.int .i64 (w : Int), .int .i64 (h : Int), .slice (some ⟨bA, oA, none⟩) n cp] 46)).alloc (.cells #[.int .i64 W, .int .i64 H, .int .i64 B, .string s] 23)).alloc (.cells #[.int .i64 a, .int .i64 b, .int .i64 c, .int .i64 d, .int .i64 e, .int .i64 f] 25)).alloc (.cells #[.int .i64 (w : Int), .int .i64 (h : Int), .slice D h dr] 51)) 46 #[.int .i64 0, .int .i64 0, .slice none 0 0])
  have hz_Kz : ((((V.alloc (.cells #[.int .i64 (w : Int), .int .i64 (h : Int), .slice (some ⟨bA, oA, none⟩) n cp] 46)).alloc (.cells #[.int .i64 W, .int .i64 H, .int .i64 B, .string s] 23)).alloc (.cells #[.int .i64 a, .int .i64 b, .int .i64 c, .int .i64 d, .int .i64 e, .int .i64 f] 25)).alloc (.cells #[.int .i64 (w : Int), .int .i64 (h : Int), .slice D h dr] 51)).heap.size = V.heap.size + 1 + 1 + 1 + 1 := by simp
  rw [hz_Kz] at Kz
  clear hz_Kz
  replace Kp := Kp.below hb1 Kp.lt
  replace Ki := Ki.below hb1 Ki.lt
  replace Km := Km.below hb1 Km.lt
  replace Kg := Kg.below hb1 Kg.lt
  replace Kz := Kz.below hb1 Kz.lt
  have hbw : Below V.heap.size V V1 := btrans (by (repeat' (first | exact Below.refl _ _ | exact Below.refl _ _ | refine balloc ?_ _ | refine Below.drew ?_ | refine below_drewN ?_ _ | refine bset ?_ (by first | omega | (simp <;> omega)) _))) hb1
  clear hb1 
  have lKp := Kp.lt
  have cKp0 := Kp.cell 0
  have cKp1 := Kp.cell 1
  have cKp2 := Kp.cell 2
  have lKi := Ki.lt
  have cKi0 := Ki.cell 0
  have cKi1 := Ki.cell 1
  have cKi2 := Ki.cell 2
  have cKi3 := Ki.cell 3
  have lKm := Km.lt
  have cKm0 := Km.cell 0
  have cKm1 := Km.cell 1
  have cKm2 := Km.cell 2
  have cKm3 := Km.cell 3
  have cKm4 := Km.cell 4
  have cKm5 := Km.cell 5
  have lKg := Kg.lt
  have cKg0 := Kg.cell 0
  have cKg1 := Kg.cell 1
  have cKg2 := Kg.cell 2
  have lKz := Kz.lt
  have cKz0 := Kz.cell 0
  have cKz1 := Kz.cell 1
  have cKz2 := Kz.cell 2
  simp only [List.getElem?_toArray, List.getElem?_cons_succ, List.getElem?_cons_zero] at cKp0 cKp1 cKp2 cKi0 cKi1 cKi2 cKi3 cKm0 cKm1 cKm2 cKm3 cKm4 cKm5 cKg0 cKg1 cKg2 cKz0 cKz1 cKz2
  have hv1 := lKz
  go_wp2_with fail
  refine (HM1.out _).mono ?_
  rintro e_ V2 ⟨rfl, hb2⟩
  replace Kp := (Kp.alloc (.cells #[.int .i64 W, .int .i64 H, .int .i64 B, .string s, .int .i64 a, .int .i64 b, .int .i64 c, .int .i64 d, .int .i64 e, .int .i64 f, .int .i64 t] 92))
  replace Ki := (Ki.alloc (.cells #[.int .i64 W, .int .i64 H, .int .i64 B, .string s, .int .i64 a, .int .i64 b, .int .i64 c, .int .i64 d, .int .i64 e, .int .i64 f, .int .i64 t] 92))
  replace Km := (Km.alloc (.cells #[.int .i64 W, .int .i64 H, .int .i64 B, .string s, .int .i64 a, .int .i64 b, .int .i64 c, .int .i64 d, .int .i64 e, .int .i64 f, .int .i64 t] 92))
  replace Kg := (Kg.alloc (.cells #[.int .i64 W, .int .i64 H, .int .i64 B, .string s, .int .i64 a, .int .i64 b, .int .i64 c, .int .i64 d, .int .i64 e, .int .i64 f, .int .i64 t] 92))
  replace Kz := (Kz.alloc (.cells #[.int .i64 W, .int .i64 H, .int .i64 B, .string s, .int .i64 a, .int .i64 b, .int .i64 c, .int .i64 d, .int .i64 e, .int .i64 f, .int .i64 t] 92))
  have Kv := (Blk.new V1 92 #[.int .i64 W, .int .i64 H, .int .i64 B, .string s, .int .i64 a, .int .i64 b, .int .i64 c, .int .i64 d, .int .i64 e, .int .i64 f, .int .i64 t])
  replace Kp := Kp.below hb2 Kp.lt
  replace Ki := Ki.below hb2 Ki.lt
  replace Km := Km.below hb2 Km.lt
  replace Kg := Kg.below hb2 Kg.lt
  replace Kz := Kz.below hb2 Kz.lt
  replace Kv := Kv.below hb2 Kv.lt
  replace hbw : Below V.heap.size V V2 := btrans (by (repeat' (first | refine bset ?_ (by first | omega | (simp <;> omega)) _ | refine balloc ?_ _ | refine Below.drew ?_ | refine below_drewN ?_ _ | exact hbw | exact Below.refl _ _))) hb2
  clear hb2 lKp cKp0 cKp1 cKp2 lKi cKi0 cKi1 cKi2 cKi3 lKm cKm0 cKm1 cKm2 cKm3 cKm4 cKm5 lKg cKg0 cKg1 cKg2 lKz cKz0 cKz1 cKz2 Km
  have lKp := Kp.lt
  have cKp0 := Kp.cell 0
  have cKp1 := Kp.cell 1
  have cKp2 := Kp.cell 2
  have lKi := Ki.lt
  have cKi0 := Ki.cell 0
  have cKi1 := Ki.cell 1
  have cKi2 := Ki.cell 2
  have cKi3 := Ki.cell 3
  have lKg := Kg.lt
  have cKg0 := Kg.cell 0
  have cKg1 := Kg.cell 1
  have cKg2 := Kg.cell 2
  have lKz := Kz.lt
  have cKz0 := Kz.cell 0
  have cKz1 := Kz.cell 1
  have cKz2 := Kz.cell 2
  have lKv := Kv.lt
  have cKv0 := Kv.cell 0
  have cKv1 := Kv.cell 1
  have cKv2 := Kv.cell 2
  have cKv3 := Kv.cell 3
  have cKv4 := Kv.cell 4
  have cKv5 := Kv.cell 5
  have cKv6 := Kv.cell 6
  have cKv7 := Kv.cell 7
  have cKv8 := Kv.cell 8
  have cKv9 := Kv.cell 9
  have cKv10 := Kv.cell 10
  simp only [List.getElem?_toArray, List.getElem?_cons_succ, List.getElem?_cons_zero] at cKp0 cKp1 cKp2 cKi0 cKi1 cKi2 cKi3 cKg0 cKg1 cKg2 cKz0 cKz1 cKz2 cKv0 cKv1 cKv2 cKv3 cKv4 cKv5 cKv6 cKv7 cKv8 cKv9 cKv10
  go_wp2_with fail
  refine ((HM2.out _ hbw)).mono ?_
  rintro e_ V3 ⟨rfl, hb3⟩
  replace Kp := Kp.below hb3 Kp.lt
  replace Ki := Ki.below hb3 Ki.lt
  replace Kg := Kg.below hb3 Kg.lt
  replace Kz := Kz.below hb3 Kz.lt
  replace Kv := Kv.below hb3 Kv.lt
  replace hbw : Below V.heap.size V V3 := btrans (by (repeat' (first | refine bset ?_ (by first | omega | (simp <;> omega)) _ | refine balloc ?_ _ | refine Below.drew ?_ | refine below_drewN ?_ _ | exact hbw | exact Below.refl _ _))) hb3
  clear hb3 lKp cKp0 cKp1 cKp2 lKi cKi0 cKi1 cKi2 cKi3 lKg cKg0 cKg1 cKg2 lKz cKz0 cKz1 cKz2 lKv cKv0 cKv1 cKv2 cKv3 cKv4 cKv5 cKv6 cKv7 cKv8 cKv9 cKv10
  have lKp := Kp.lt
  have cKp0 := Kp.cell 0
  have cKp1 := Kp.cell 1
  have cKp2 := Kp.cell 2
  have fKp0 := Kp.frozen 0
  have fKp1 := Kp.frozen 1
  have fKp2 := Kp.frozen 2
  have lKi := Ki.lt
  have cKi0 := Ki.cell 0
  have cKi1 := Ki.cell 1
  have cKi2 := Ki.cell 2
  have cKi3 := Ki.cell 3
  have lKg := Kg.lt
  have cKg0 := Kg.cell 0
  have cKg1 := Kg.cell 1
  have cKg2 := Kg.cell 2
  have lKz := Kz.lt
  have cKz0 := Kz.cell 0
  have cKz1 := Kz.cell 1
  have cKz2 := Kz.cell 2
  have lKv := Kv.lt
  have cKv0 := Kv.cell 0
  have cKv1 := Kv.cell 1
  have cKv2 := Kv.cell 2
  have cKv3 := Kv.cell 3
  have cKv4 := Kv.cell 4
  have cKv5 := Kv.cell 5
  have cKv6 := Kv.cell 6
  have cKv7 := Kv.cell 7
  have cKv8 := Kv.cell 8
  have cKv9 := Kv.cell 9
  have cKv10 := Kv.cell 10
  simp only [List.getElem?_toArray, List.getElem?_cons_succ, List.getElem?_cons_zero] at cKp0 cKp1 cKp2 cKi0 cKi1 cKi2 cKi3 cKg0 cKg1 cKg2 cKz0 cKz1 cKz2 cKv0 cKv1 cKv2 cKv3 cKv4 cKv5 cKv6 cKv7 cKv8 cKv9 cKv10
  have hv3 := lKv
  go_wp2_with (at_builtin; refine wpList_append_any _ rfl (.tmp 57) (.tmp 59) 44 rfl V3.heap.size 5 i0 (.int .u8 0) 1 1 Try.underlying44 hi0 hz0 hz1 hz2 rfl (by omega) _ 0 [] rfl (own_empty _ _ _ rfl (by omega)) _ (some ⟨bA, oA, none⟩) n cp _ rfl (HP.out.below (by (repeat' (first | refine bset ?_ (by first | omega | (simp <;> omega)) _ | refine balloc ?_ _ | refine Below.drew ?_ | refine below_drewN ?_ _ | exact hbw | exact Below.refl _ _)))).reads (by simp [Value.oneCell']) (by simp [maxLen]; omega) (by omega) (by first | (simp; done) | (simp; omega)) ?_; intro v1 V4 hown1 hg1 _; obtain ⟨g, fc, cs, hv, hg, hB, hfc, hcs, hct, hb4⟩ := appended hnn hown1 hg1 (by (repeat' (first | exact Below.refl _ _ | exact Below.refl _ _ | refine balloc ?_ _ | refine Below.drew ?_ | refine below_drewN ?_ _ | refine bset ?_ (by first | omega | (simp <;> omega)) _))); subst hv; replace Kp := Kp.below hb4 lKp; replace Ki := Ki.below hb4 lKi; replace Kg := Kg.below hb4 lKg; replace Kz := Kz.below hb4 lKz; replace Kv := Kv.below hb4 lKv; replace hbw := btrans hbw hb4; clear hown1 hg1 hb4 lKp cKp0 cKp1 cKp2 fKp0 fKp1 fKp2 lKi cKi0 cKi1 cKi2 cKi3 lKg cKg0 cKg1 cKg2 lKz cKz0 cKz1 cKz2 lKv cKv0 cKv1 cKv2 cKv3 cKv4 cKv5 cKv6 cKv7 cKv8 cKv9 cKv10; have lKp := Kp.lt; have lKi := Ki.lt; have lKg := Kg.lt; have lKz := Kz.lt; have lKv := Kv.lt; have cKg0 := Kg.cell 0; have cKg1 := Kg.cell 1; have cKg2 := Kg.cell 2; have fKp2 := Kp.frozen 2; have cKp2 := Kp.cell 2; simp only [List.getElem?_toArray, List.getElem?_cons_succ, List.getElem?_cons_zero] at cKg0 cKg1 cKg2 cKp2; have HKp := Lib.hid Kp; have HKi := Lib.hid Ki; have HKz := Lib.hid Kz; have HKv := Lib.hid Kv; have HKg := Lib.hid Kg; have HHB := Lib.hid hB; have HCT := Lib.hid hct; have HBW := Lib.hid hbw; clear Kp Ki Kz Kv Kg hB hct hbw)
  have hP0 : PtR V g n V.heap.size (V.heap.size + 1) V1.heap.size (V.heap.size + 1 + 1 + 1 + 1) #[.int .i64 (w : Int), .int .i64 (h : Int), .slice (some ⟨g, 0, none⟩) n fc] #[.int .i64 W, .int .i64 H, .int .i64 B, .string s] #[.int .i64 W, .int .i64 H, .int .i64 B, .string s, .int .i64 a, .int .i64 b, .int .i64 c, .int .i64 d, .int .i64 e, .int .i64 f, .int .i64 t] #[.int .i64 0, .int .i64 0, .slice none 0 0] Y (V4.setCell ⟨V.heap.size, 2, none⟩ (.slice (some ⟨g, 0, none⟩) n fc)) :=
    ⟨cs, HHB.out.far (by first | (simp; done) | (simp; omega)) _, Holds.of_take HP.out (by omega) HCT.out, HKp.out.set_ 2 _, HKi.out.far (by first | (simp; done) | (simp; omega)) _, HKv.out.far (by first | (simp; done) | (simp; omega)) _, HKz.out.far (by first | (simp; done) | (simp; omega)) _, by omega, by omega, by omega, by omega, by omega, bset HBW.out (by simp) _⟩
  obtain ⟨Rel, hRel⟩ : ∃ Rel : Nat → World → Prop, (fun p => PtR V g n V.heap.size (V.heap.size + 1) V1.heap.size (V.heap.size + 1 + 1 + 1 + 1) #[.int .i64 (w : Int), .int .i64 (h : Int), .slice (some ⟨g, 0, none⟩) n fc] #[.int .i64 W, .int .i64 H, .int .i64 B, .string s] #[.int .i64 W, .int .i64 H, .int .i64 B, .string s, .int .i64 a, .int .i64 b, .int .i64 c, .int .i64 d, .int .i64 e, .int .i64 f, .int .i64 t] #[.int .i64 0, .int .i64 0, .slice none 0 0] (pntB w R S (greyV B) Y p)) = Rel := ⟨_, rfl⟩
  have HPT := Lib.hid (hRel ▸ HPM.out g V.heap.size (V.heap.size + 1) V1.heap.size (V.heap.size + 1 + 1 + 1 + 1) #[.int .i64 (w : Int), .int .i64 (h : Int), .slice (some ⟨g, 0, none⟩) n fc] #[.int .i64 W, .int .i64 H, .int .i64 B, .string s] #[.int .i64 W, .int .i64 H, .int .i64 B, .string s, .int .i64 a, .int .i64 b, .int .i64 c, .int .i64 d, .int .i64 e, .int .i64 f, .int .i64 t] #[.int .i64 0, .int .i64 0, .slice none 0 0])
  have HST := Lib.hid (show Rel 0 (V4.setCell ⟨V.heap.size, 2, none⟩ (.slice (some ⟨g, 0, none⟩) n fc)) by rw [← hRel]; exact hP0.ext fun j _ => HZ.out j)
  have HEND := Lib.hid (show ∀ wr, Rel (h * w) wr → PtR V g n V.heap.size (V.heap.size + 1) V1.heap.size (V.heap.size + 1 + 1 + 1 + 1) #[.int .i64 (w : Int), .int .i64 (h : Int), .slice (some ⟨g, 0, none⟩) n fc] #[.int .i64 W, .int .i64 H, .int .i64 B, .string s] #[.int .i64 W, .int .i64 H, .int .i64 B, .string s, .int .i64 a, .int .i64 b, .int .i64 c, .int .i64 d, .int .i64 e, .int .i64 f, .int .i64 t] #[.int .i64 0, .int .i64 0, .slice none 0 0] (paintB w R S (greyV B) Y) wr from fun wr x => by rw [← hRel] at x; exact x.ext fun j hj => HALL.out j (by have := HN.out; omega))
  clear HKp HKi HKz HKv HKg HHB HCT HBW hP0 hRel HPM hcs
  go_loopw [65] (fun kv wr => ∃ k : Nat, k ≤ h ∧ kv = .int .i64 (k : Int) ∧ Rel (k * w) wr) (fun kv _ => h - (intOf kv).toNat)
  case atStart => exact ⟨0, by omega, rfl, by rw [Nat.zero_mul]; exact HST.out⟩
  case round =>
    clear HST
    obtain ⟨k, hk, rfl, hE⟩ := hrel
    by_cases hlt : k < h
    · have d1 : decide ((k : Int) < (h : Int)) = true := by simp; omega
      obtain ⟨bp, bi, bv, bw, bne, bgl, bgt⟩ := HPT.out.blocks _ _ hE
      obtain ⟨a1, ha⟩ := HR.out
      obtain ⟨x, o, rfl, hx, ha⟩ := ha (by omega)
      obtain ⟨l1, A1, c1, q0, r1⟩ := ha k hlt
      have q1 := (bw.cell (p := ⟨x, o + k, none⟩) hx).trans q0
      have hmay := rowsOf_may w R k
      have hend := reach_end hmay (by omega)
      have hrun : ∀ t (ht : t < (rowsOf w R k).length), ∃ a b : Nat, (rowsOf w R k)[t].1 = (a : Int) ∧ (rowsOf w R k)[t].2 = (b : Int) ∧ (reach (rowsOf w R k) t).toNat ≤ a ∧ a < b ∧ b ≤ w ∧ (reach (rowsOf w R k) (t + 1)).toNat = b ∧
          (∀ i, (reach (rowsOf w R k) t).toNat ≤ i → i < a → R k i = false) ∧ (∀ i, a ≤ i → i < b → R k i = true) := by
        intro t ht
        obtain ⟨e1, e2, e3, e4⟩ := reach_le hmay ht
        refine ⟨(rowsOf w R k)[t].1.toNat, (rowsOf w R k)[t].2.toNat, by omega, by omega, by omega, by omega, by omega, by rw [reach_succ ht], fun i h1 h2 => ?_, fun i h1 h2 => ?_⟩
        · exact row_false (by omega) (in_gap hmay (t := t) (by omega) (by omega) (fun _ => by omega))
        · exact row_true (in_run ht (by omega) (by omega))
      have hlast : ∀ i, (reach (rowsOf w R k) (rowsOf w R k).length).toNat ≤ i → i < w → R k i = false := fun i h1 h2 => row_false h2 (in_gap hmay (t := (rowsOf w R k).length) (by omega) (Nat.le_refl _) (fun h => absurd h (by omega)))
      obtain ⟨L, hL⟩ : ∃ L, rowsOf w R k = L := ⟨_, rfl⟩
      rw [hL] at l1 q0 q1 r1 hend hrun hlast
      clear hmay hL
      obtain ⟨ns, hns⟩ : ∃ ns, L.length = ns := ⟨_, rfl⟩
      rw [hns] at l1 q0 q1 r1 hend hlast
      obtain ⟨m, hm⟩ : ∃ m, k * w = m := ⟨_, rfl⟩
      have hm2 : m ≤ 4096 := by rw [← hm]; have := HW.out; have := HH.out; exact Nat.mul_le_mul (show k ≤ 64 by omega) (show w ≤ 64 by omega)
      have hm3 : (k : Int) * (w : Int) = (m : Int) := by rw [← hm]; push_cast; rfl
      have hk64 : k < 64 := by have := HH.out; omega
      have HE := Lib.hid hE
      have HR1 := Lib.hid r1
      have HRN := Lib.hid hrun
      have HLS := Lib.hid hlast
      have HEN := Lib.hid hend
      have HNS := Lib.hid hns
      have HM := Lib.hid hm
      clear ha a1 hE hns r1 hrun hlast q0 hend hm bp bi bv bw bne bgl bgt
      go_wp2_with fail
      go_loopw [72] (fun tv wi => ∃ t : Nat, t ≤ ns ∧ tv = .int .i64 (t : Int) ∧ Rel (k * w + (reach L t).toNat) wi) (fun tv _ => ns - (intOf tv).toNat)
      case atStart => exact ⟨0, by omega, rfl, HE.out⟩
      case round =>
        clear HE
        obtain ⟨t, ht, rfl, hE⟩ := hrel
        by_cases htl : t < ns
        · have d2 : decide ((t : Int) < (ns : Int)) = true := by simp; omega
          obtain ⟨a, b, ha, hb, h1, h2, h3, h4, h5, h6⟩ := HRN.out t (by rw [HNS.out]; exact htl)
          obtain ⟨bp, bi, bv, bw, bne, bgl, bgt⟩ := HPT.out.blocks _ _ hE
          obtain ⟨p1, p2, p3⟩ := HR1.out.below bw
          obtain ⟨y, oy, rfl, hy, hc⟩ := p3 (by omega)
          obtain ⟨c1, c2⟩ := hc t (by rw [HNS.out]; exact htl)
          rw [ha] at c1
          rw [hb] at c2
          have hE2 : Rel (k * w + a) (wr.alloc (.cells #[.int .i64 (a : Int), .int .i64 (b : Int)] 109)) := HPT.out.keep _ _ _ (HPT.out.skips hlt hE h1 (by omega) h5) (by (repeat' (first | exact Below.refl _ _ | exact Below.refl _ _ | refine balloc ?_ _ | refine Below.drew ?_ | refine below_drewN ?_ _ | refine bset ?_ (by first | omega | (simp <;> omega)) _)))
          have hbx := Blk.new wr 109 #[.int .i64 (a : Int), .int .i64 (b : Int)]
          have hne : g < wr.heap.size := bgt
          have HE2 := Lib.hid hE2
          have HBX := Lib.hid hbx
          have H4 := Lib.hid h4
          have H6 := Lib.hid h6
          have H3 := Lib.hid h3
          clear hE hc p1 p2 p3 h1 ha hb h5 hE2 hbx h4 h6 bp bi bv bw bne bgl bgt
          obtain ⟨q, hq⟩ : ∃ q, wr.heap.size = q := ⟨_, rfl⟩
          go_wp2_with fail
          rw [hq] at HBX hne
          go_loopw [16] (fun iv wn => ∃ i : Nat, a ≤ i ∧ i ≤ b ∧ iv = .int .i64 (i : Int) ∧ Rel (k * w + i) wn ∧ Blk wn q 109 #[.int .i64 (a : Int), .int .i64 (b : Int)]) (fun iv _ => b - (intOf iv).toNat)
          case atStart => exact ⟨a, by omega, by omega, rfl, HE2.out, HBX.out⟩
          case round =>
            clear HE2 HBX
            obtain ⟨i, hia, hib, rfl, hE, hbx⟩ := hrel
            have f1 := hbx.cell 1
            simp only [List.getElem?_toArray, List.getElem?_cons_succ, List.getElem?_cons_zero] at f1
            by_cases hil : i < b
            · have d3 : decide ((i : Int) < (b : Int)) = true := by simp; omega
              have hi64 : i < 64 := by have := HW.out; omega
              obtain ⟨bp, bi, bv, bw, bne, bgl, bgt⟩ := HPT.out.blocks _ _ hE
              have cv0 := bv.cell 0
              have cv1 := bv.cell 1
              have cv2 := bv.cell 2
              have cv3 := bv.cell 3
              have cv4 := bv.cell 4
              have cv5 := bv.cell 5
              have cv6 := bv.cell 6
              have cv7 := bv.cell 7
              have cv8 := bv.cell 8
              have cv9 := bv.cell 9
              have cv10 := bv.cell 10
              simp only [List.getElem?_toArray, List.getElem?_cons_succ, List.getElem?_cons_zero] at cv0 cv1 cv2 cv3 cv4 cv5 cv6 cv7 cv8 cv9 cv10
              have lx := hbx.lt
              have HE := Lib.hid hE
              have HBX := Lib.hid hbx
              have hvb := HSB.out k i
              obtain ⟨v, hv⟩ : ∃ v, S k i = v := ⟨_, rfl⟩
              have HA1 := Lib.hid (fun W' => HA.out k i W')
              simp only [hv] at HA1
              rw [hv] at hvb
              have HV := Lib.hid hv
              clear hE hbx hv bp bi bv bw bne bgl bgt
              go_wp2_with fail
              refine (HA1.out _).mono ?_
              rintro e_ w2 ⟨rfl, hb1⟩
              have hE := HPT.out.keep _ _ _ HE.out hb1
              have hbx := HBX.out.below hb1 lx
              clear HE HBX hb1 HA1 cv0 cv1 cv2 cv3 cv4 cv5 cv6 cv7 cv8 cv9 cv10 f1 lx
              by_cases hv0 : v < 0
              · have d4 : decide (v < 0) = true := by simp; omega
                have HN2 := Lib.hid (HPT.out.skip k i _ hlt (by have := H3.out; omega) (.inr (by rw [HV.out]; exact hv0)) hE)
                have HBX := Lib.hid hbx
                clear hE hbx
                go_wp2_with fail
                go_roundw
                case rel => exact ⟨i + 1, by omega, by omega, by go_num, HN2.out, HBX.out⟩
                case measure => simp [intOf]; omega
              · have d4 : decide (v < 0) = false := by simp; omega
                obtain ⟨bp, bi, bv, bw, bne, bgl, bgt⟩ := HPT.out.blocks _ _ hE
                obtain ⟨pp, hpp⟩ : ∃ pp, 3 * (k * w + i) = pp := ⟨_, rfl⟩
                have hpn : pp + 3 ≤ n := by have := HPIX.out k i hlt (by have := H3.out; omega); have := HN.out; omega
                have HN2 := Lib.hid (HPT.out.put k i pp _ hlt (by have := H3.out; omega) (H6.out i hia hil) (by rw [HV.out]; omega) hpp hE)
                rw [HV.out] at HN2
                have hgb := greyV_bd HBV.out (show 0 ≤ v by omega) hvb.2
                obtain ⟨gv, hgv⟩ : ∃ gv, greyV B v = gv := ⟨_, rfl⟩
                rw [hgv] at HN2 hgb
                have hpb := pow_bd HBV.out
                have hquo : (v * 255).tdiv ((2 : Int) ^ B.toNat - 1) = gv := by
                  rw [← hgv, Int.tdiv_eq_ediv_of_nonneg (by omega)]; rfl
                have hB0 : ¬ B < 0 := by rcases HBV.out with h | h | h | h <;> omega
                have hB1 : 0 ≤ B := by omega
                have hB2 : B ≤ 8 := by rcases HBV.out with h | h | h | h <;> omega
                have hBsh : (B.toNat : Int) = B := by omega
                obtain ⟨pw, hpw⟩ : ∃ pw, (2 : Int) ^ B.toNat = pw := ⟨_, rfl⟩
                rw [hpw] at hpb hquo hvb
                have hpz : ¬ pw - 1 = 0 := by omega
                have hgw : IntKind.u8.wrap gv = gv := by simp only [IntKind.wrap, IntKind.signed, IntKind.bits]; simp; omega
                have hpi : 3 * ((m : Int) + (i : Int)) = (pp : Int) := by rw [← hpp, HM.out]; push_cast; rfl
                have kp0 := bp.cell 0
                have kp2 := bp.cell 2
                have ki2 := bi.cell 2
                simp only [List.getElem?_toArray, List.getElem?_cons_succ, List.getElem?_cons_zero] at kp0 kp2 ki2
                obtain ⟨⟨y0, gc0⟩, gf0⟩ := HPT.out.cell _ _ pp hE (by omega)
                obtain ⟨⟨y1, gc1⟩, gf1⟩ := HPT.out.cell _ _ (pp + 1) hE (by omega)
                obtain ⟨⟨y2, gc2⟩, gf2⟩ := HPT.out.cell _ _ (pp + 2) hE (by omega)
                have hqg : q ≠ g := by omega
                have HBX := Lib.hid (((hbx.far (p := ⟨g, pp, none⟩) hqg (.int .u8 gv)).far (p := ⟨g, pp + 1, none⟩) hqg (.int .u8 gv)).far (p := ⟨g, pp + 2, none⟩) hqg (.int .u8 gv))
                have bne2 : ¬ V.heap.size = g := bne
                have bne3 : ¬ g = V.heap.size := fun e => bne e.symm
                have jn0 : (pp : Int) < (n : Int) := by omega
                have jn1 : (pp : Int) + 1 < (n : Int) := by omega
                have jn2 : (pp : Int) + 2 < (n : Int) := by omega
                have jt1 : ((pp : Int) + 1).toNat = pp + 1 := by omega
                have jt2 : ((pp : Int) + 2).toNat = pp + 2 := by omega
                have jw1 : IntKind.i64.wrap ((pp : Int) + 1) = (pp : Int) + 1 := by simp only [IntKind.wrap, IntKind.signed, IntKind.bits]; simp; omega
                have jw2 : IntKind.i64.wrap ((pp : Int) + 2) = (pp : Int) + 2 := by simp only [IntKind.wrap, IntKind.signed, IntKind.bits]; simp; omega
                clear hE hbx hpp hgv bp bi bv bw bne
                go_wp2_with fail
                go_region
                go_wp2_with fail
                go_roundw
                case rel => exact ⟨i + 1, by omega, by omega, by go_num, HPT.out.keep _ _ _ HN2.out (by (repeat' (first | exact Below.refl _ _ | exact Below.refl _ _ | refine balloc ?_ _ | refine Below.drew ?_ | refine below_drewN ?_ _ | refine bset ?_ (by first | omega | (simp <;> omega)) _))), HBX.out.drew⟩
                case measure => simp [intOf]; omega
            · obtain rfl : i = b := by omega
              have d3 : decide ((i : Int) < (i : Int)) = false := by simp
              have HE := Lib.hid hE
              clear hE hbx
              go_wp2_with fail
              go_roundw
              case rel => exact ⟨t + 1, by omega, by go_num, by rw [H4.out]; exact HE.out⟩
              case measure => simp [intOf]; omega
        · obtain rfl : t = ns := by omega
          have d2 : decide ((t : Int) < (t : Int)) = false := by simp
          have hE2 := HPT.out.skips hlt hE (by have := HEN.out; omega) (Nat.le_refl _) HLS.out
          have HE := Lib.hid hE2
          clear hE hE2
          go_wp2_with fail
          go_roundw
          case rel => exact ⟨k + 1, by omega, by go_num, by rw [Nat.add_mul, Nat.one_mul]; exact HE.out⟩
          case measure => simp [intOf]; omega
    · obtain rfl : k = h := by omega
      have d1 : decide ((k : Int) < (k : Int)) = false := by simp
      have hP := HEND.out _ hE
      obtain ⟨cs, k1, k2, k3, k4, k5, k6, g1, g2, g3, g4, g5, k7⟩ := hP
      have a0 := k3.cell 0
      have a1 := k3.cell 1
      have a2 := k3.cell 2
      have z0 := k6.cell 0
      have z1 := k6.cell 1
      have z2 := k6.cell 2
      have y0 := k6.frozen 0
      have y1 := k6.frozen 1
      have y2 := k6.frozen 2
      simp only [List.getElem?_toArray, List.getElem?_cons_succ, List.getElem?_cons_zero] at a0 a1 a2 z0 z1 z2
      have H1 := Lib.hid k1
      have H2 := Lib.hid k2
      have HKz := Lib.hid k6
      have HBW := Lib.hid k7
      clear k1 k2 k3 k4 k5 k6 k7 hE
      go_wp2_with fail
      have K := ((HKz.out.set_ 0 (.int .i64 (w : Int))).set_ 1 (.int .i64 (k : Int))).set_ 2 (.slice (some ⟨g, 0, none⟩) n fc)
      refine ret_struct2 (g := (V.heap.size + 1 + 1 + 1 + 1)) (t := 46) (cs := #[.int .i64 (w : Int), .int .i64 (k : Int), .slice (some ⟨g, 0, none⟩) n fc]) rfl rfl ?_ Try.underlying46 rfl rfl rfl ?_
      · exact K
      · exact ⟨g, fc, g1, rfl, H2.out.pg (((H1.out.far (p := ⟨_, 0, none⟩) g5.symm _).far (p := ⟨_, 1, none⟩) g5.symm _).far (p := ⟨_, 2, none⟩) g5.symm _) hfc, by (repeat' (first | refine bset ?_ (by first | omega | (simp <;> omega)) _ | refine balloc ?_ _ | refine Below.drew ?_ | refine below_drewN ?_ _ | exact HBW.out | exact Below.refl _ _))⟩
end Go.Proofs.Ytegpjjkbbdfggaa.im
