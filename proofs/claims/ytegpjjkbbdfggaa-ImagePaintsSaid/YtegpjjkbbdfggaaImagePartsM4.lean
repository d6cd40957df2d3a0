/-
  Lemmas for ImageParts: Det0, Over, PaintR, Paint, New, Known, Det, UpAlloc, MadeT, UpChain, Agree, RNot.
-/
import Derived.BigQuiet
import Derived.BigRegion
import Derived.Lib.Hide
import Derived.StillTailTactics
import Derived.Test.YtegpjjkbbdfggaaImagePartsM3

/-
  Layer 37: image.Region and image.Paint by a matrix whose determinant is 0.
-/
namespace Go.Proofs.Ytegpjjkbbdfggaa.im
set_option linter.unusedVariables false
set_option linter.unusedSimpArgs false
open Go.RowKit bs rg

set_option maxRecDepth 100000 in
set_option maxHeartbeats 3200000 in
theorem over_det0 (W H B a b c d e f : Int) (s : ByteArray) (w h : Nat) (V : World) (hw : 1 ≤ w ∧ w ≤ 64) (hh : 1 ≤ h ∧ h ≤ 64) (hs : (s.size : Int) ≤ 9223372036854775807) (hi : mayI W H B s.size = true) (hm : mt.mayB a b c d e f = true) (ht : a * d - b * c = 0) :
    Calls Try.prog 38 #[.agg #[.int .i64 W, .int .i64 H, .int .i64 B, .string s], .agg #[.int .i64 a, .int .i64 b, .int .i64 c, .int .i64 d, .int .i64 e, .int .i64 f], .int .i64 (w : Int), .int .i64 (h : Int)] V fun ed w' => ed = .returned (.tuple #[.agg #[.int .i64 0, .int .i64 0, .slice none 0 0], .int .i64 14]) ∧ Below V.heap.size V w' := by
  have hd := det_bd hm
  have HL := Lib.hid (fun W' => look_yes W H B a b c d e f s (a * d) (b * c) 0 W' hs hi hm rfl rfl ht hd.1.1 hd.1.2 hd.2.1 hd.2.2)
  have g1 : decide ((w : Int) < 1) = false := by simp; omega
  have g2 : decide ((w : Int) > 64) = false := by simp; omega
  have g3 : decide ((h : Int) < 1) = false := by simp; omega
  have g4 : decide ((h : Int) > 64) = false := by simp; omega
  have g5 : ¬ (w : Int) < 1 := by omega
  have g6 : ¬ (64 : Int) < (w : Int) := by omega
  have g7 : ¬ (h : Int) < 1 := by omega
  have g8 : ¬ (64 : Int) < (h : Int) := by omega
  clear hs hi hm ht hd hw hh

  go_enter Try.func38, Try.ntmps38
  go_wp2_with fail
  refine (HL.out _).mono ?_
  rintro e_ V1 ⟨rfl, hb1⟩
  have Ki := (((Blk.new V 23 #[.int .i64 W, .int .i64 H, .int .i64 B, .string s]).alloc (.cells #[.int .i64 a, .int .i64 b, .int .i64 c, .int .i64 d, .int .i64 e, .int .i64 f] 25)).alloc (.cells #[.int .i64 0, .int .i64 0, .slice none 0 0] 51))
  have Km := ((Blk.new (V.alloc (.cells #[.int .i64 W, .int .i64 H, .int .i64 B, .string s] 23)) 25 #[.int .i64 a, .int .i64 b, .int .i64 c, .int .i64 d, .int .i64 e, .int .i64 f]).alloc (.cells #[.int .i64 0, .int .i64 0, .slice none 0 0] 51))
  have hz_Km : (V.alloc (.cells #[.int .i64 W, .int .i64 H, .int .i64 B, .string s] 23)).heap.size = V.heap.size + 1 := by simp
  rw [hz_Km] at Km
  clear hz_Km
  have KR := (Blk.new ((V.alloc (.cells #[.int .i64 W, .int .i64 H, .int .i64 B, .string s] 23)).alloc (.cells #[.int .i64 a, .int .i64 b, .int .i64 c, .int .i64 d, .int .i64 e, .int .i64 f] 25)) 51 #[.int .i64 0, .int .i64 0, .slice none 0 0])
  have hz_KR : ((V.alloc (.cells #[.int .i64 W, .int .i64 H, .int .i64 B, .string s] 23)).alloc (.cells #[.int .i64 a, .int .i64 b, .int .i64 c, .int .i64 d, .int .i64 e, .int .i64 f] 25)).heap.size = V.heap.size + 1 + 1 := by simp
  rw [hz_KR] at KR
  clear hz_KR
  replace Ki := Ki.below hb1 Ki.lt
  replace Km := Km.below hb1 Km.lt
  replace KR := KR.below hb1 KR.lt
  have hbw : Below V.heap.size V V1 := btrans (by (repeat' (first | exact Below.refl _ _ | exact Below.refl _ _ | refine balloc ?_ _ | refine Below.drew ?_ | refine below_drewN ?_ _ | refine bset ?_ (by first | omega | (simp <;> omega)) _))) hb1
  clear hb1 
  have lKi := Ki.lt
  have cKi0 := Ki.cell 0
  have cKi1 := Ki.cell 1
  have cKi2 := Ki.cell 2
  have cKi3 := Ki.cell 3
  have lKm := Km.lt
  have cKm0 := Km.cell 0
  have cKm1 := Km.cell 1
  have cKm2 := Km.cell 2
  have cKm3 := Km.cell 3
  have cKm4 := Km.cell 4
  have cKm5 := Km.cell 5
  have lKR := KR.lt
  have cKR0 := KR.cell 0
  have cKR1 := KR.cell 1
  have cKR2 := KR.cell 2
  have fKR0 := KR.frozen 0
  have fKR1 := KR.frozen 1
  have fKR2 := KR.frozen 2
  simp only [List.getElem?_toArray, List.getElem?_cons_succ, List.getElem?_cons_zero] at cKi0 cKi1 cKi2 cKi3 cKm0 cKm1 cKm2 cKm3 cKm4 cKm5 cKR0 cKR1 cKR2
  have lKR2 := lKR
  have HKr := Lib.hid KR
  have HBW := Lib.hid hbw
  clear KR hbw
  go_wp2_with fail
  have K := ((HKr.out.set_ 0 (.int .i64 0)).set_ 1 (.int .i64 0)).set_ 2 (.slice none 0 0)
  refine ret_struct2 (g := (V.heap.size + 1 + 1)) (t := 51) (cs := #[.int .i64 0, .int .i64 0, .slice none 0 0]) rfl rfl ?_ Try.underlying51 rfl rfl rfl ?_
  · first | exact K | exact K.alloc _
  · exact ⟨rfl, by (repeat' (first | refine bset ?_ (by first | omega | (simp <;> omega)) _ | refine balloc ?_ _ | refine Below.drew ?_ | refine below_drewN ?_ _ | exact HBW.out | exact Below.refl _ _))⟩

set_option maxRecDepth 100000 in
set_option maxHeartbeats 3200000 in
theorem paint_det0 (W H B a b c d e f : Int) (s : ByteArray) (w h n cp dr : Nat) (A D : Option Addr) (R : Nat → Nat → Bool) (V : World) (hw : 1 ≤ w ∧ w ≤ 64) (hh : 1 ≤ h ∧ h ≤ 64) (hn : n = 3 * (w * h)) (hs : (s.size : Int) ≤ 9223372036854775807) (hi : mayI W H B s.size = true) (hm : mt.mayB a b c d e f = true) (ht : a * d - b * c = 0)
    (hr : rg.Rows V D h dr (rowsOf w R)) :
    Calls Try.prog 31 #[.agg #[.int .i64 (w : Int), .int .i64 (h : Int), .slice A n cp], .agg #[.int .i64 W, .int .i64 H, .int .i64 B, .string s], .agg #[.int .i64 a, .int .i64 b, .int .i64 c, .int .i64 d, .int .i64 e, .int .i64 f], .agg #[.int .i64 (w : Int), .int .i64 (h : Int), .slice D h dr]] V fun ed w' => ed = .returned (.tuple #[.agg #[.int .i64 0, .int .i64 0, .slice none 0 0], .int .i64 14]) ∧ Below V.heap.size V w' := by
  have hd := det_bd hm
  have HL := Lib.hid (fun W' => look_yes W H B a b c d e f s (a * d) (b * c) 0 W' hs hi hm rfl rfl ht hd.1.1 hd.1.2 hd.2.1 hd.2.2)
  have HM1 := Lib.hid (fun W' => inkmay_yes w h n cp A W' hw hh hn)
  have HM2 := Lib.hid (fun W' (hW' : Below V.heap.size V W') => rmay_yes w h dr D _ W' hw hh (fun j _ => rowsOf_mayB w R j hw.2) (hr.below hW'))
  clear hs hi hm ht hd hw hh hn hr

  go_enter Try.func31, Try.ntmps31
  go_wp2_with fail
  refine (HL.out _).mono ?_
  rintro e_ V1 ⟨rfl, hb1⟩
  have Kp := (((((Blk.new V 46 #[.int .i64 (w : Int), .int .i64 (h : Int), .slice A n cp]).alloc (.cells #[.int .i64 W, .int .i64 H, .int .i64 B, .string s] 23)).alloc (.cells #[.int .i64 a, .int .i64 b, .int .i64 c, .int .i64 d, .int .i64 e, .int .i64 f] 25)).alloc (.cells #[.int .i64 (w : Int), .int .i64 (h : Int), .slice D h dr] 51)).alloc (.cells #[.int .i64 0, .int .i64 0, .slice none 0 0] 46))
  have Ki := ((((Blk.new (V.alloc (.cells #[.int .i64 (w : Int), .int .i64 (h : Int), .slice A n cp] 46)) 23 #[.int .i64 W, .int .i64 H, .int .i64 B, .string s]).alloc (.cells #[.int .i64 a, .int .i64 b, .int .i64 c, .int .i64 d, .int .i64 e, .int .i64 f] 25)).alloc (.cells #[.int .i64 (w : Int), .int .i64 (h : Int), .slice D h dr] 51)).alloc (.cells #[.int .i64 0, .int .i64 0, .slice none 0 0] 46))
  have hz_Ki : (V.alloc (.cells #[.int .i64 (w : Int), .int .i64 (h : Int), .slice A n cp] 46)).heap.size = V.heap.size + 1 := by simp
  rw [hz_Ki] at Ki
  clear hz_Ki
  have Km := (((Blk.new ((V.alloc (.cells #[.int .i64 (w : Int), .int .i64 (h : Int), .slice A n cp] 46)).alloc (.cells #[.int .i64 W, .int .i64 H, .int .i64 B, .string s] 23)) 25 #[.int .i64 a, .int .i64 b, .int .i64 c, .int .i64 d, .int .i64 e, .int .i64 f]).alloc (.cells #[.int .i64 (w : Int), .int .i64 (h : Int), .slice D h dr] 51)).alloc (.cells #[.int .i64 0, .int .i64 0, .slice none 0 0] 46))
  have hz_Km : ((V.alloc (.cells #[.int .i64 (w : Int), .int .i64 (h : Int), .slice A n cp] 46)).alloc (.cells #[.int .i64 W, .int .i64 H, .int .i64 B, .string s] 23)).heap.size = V.heap.size + 1 + 1 := by simp
  rw [hz_Km] at Km
  clear hz_Km
  have Kg := ((Blk.new (((V.alloc (.cells #[.int .i64 (w : Int), .int .i64 (h : Int), .slice A n cp] 46)).alloc (.cells #[.int .i64 W, .int .i64 H, .int .i64 B, .string s] 23)).alloc (.cells #[.int .i64 a, .int .i64 b, .int .i64 c, .int .i64 d, .int .i64 e, .int .i64 f] 25)) 51 #[.int .i64 (w : Int), .int .i64 (h : Int), .slice D h dr]).alloc (.cells #[.int .i64 0, .int .i64 0, .slice none 0 0] 46))
  have hz_Kg : (((V.alloc (.cells #[.int .i64 (w : Int), .int .i64 (h : Int), .slice A n cp] 46)).alloc (.cells #[.int .i64 W, .int .i64 H, .int .i64 B, .string s] 23)).alloc (.cells #[.int .i64 a, .int .i64 b, .int .i64 c, .int .i64 d, .int .i64 e, .int .i64 f] 25)).heap.size = V.heap.size + 1 + 1 + 1 := by simp
  rw [hz_Kg] at Kg
  clear hz_Kg
  have KR := (Blk.new ((((V.alloc (.cells #[.int .i64 (w : Int), .int .i64 (h : Int), .slice A n cp] 46)).alloc (.cells #[.int .i64 W, .int .i64 H, .int .i64 B, .string s] 23)).alloc (.cells #[.int .i64 a, .int .i64 b, .int .i64 c, .int .i64 d, .int .i64 e, .int .i64 f] 25)).alloc (.cells #[.int .i64 (w : Int), .int .i64 (h : Int), .slice D h dr] 51)) 46 #[.int .i64 0, .int .i64 0, .slice none 0 0])
  have hz_KR : ((((V.alloc (.cells #[.int .i64 (w : Int), .int .i64 (h : Int), .slice A n cp] 46)).alloc (.cells #[.int .i64 W, .int .i64 H, .int .i64 B, .string s] 23)).alloc (.cells #[.int .i64 a, .int .i64 b, .int .i64 c, .int .i64 d, .int .i64 e, .int .i64 f] 25)).alloc (.cells #[.int .i64 (w : Int), .int .i64 (h : Int), .slice D h dr] 51)).heap.size = V.heap.size + 1 + 1 + 1 + 1 := by simp
  rw [hz_KR] at KR
  clear hz_KR
  replace Kp := Kp.below hb1 Kp.lt
  replace Ki := Ki.below hb1 Ki.lt
  replace Km := Km.below hb1 Km.lt
  replace Kg := Kg.below hb1 Kg.lt
  replace KR := KR.below hb1 KR.lt
  have hbw : Below V.heap.size V V1 := btrans (by (repeat' (first | exact Below.refl _ _ | exact Below.refl _ _ | refine balloc ?_ _ | refine Below.drew ?_ | refine below_drewN ?_ _ | refine bset ?_ (by first | omega | (simp <;> omega)) _))) hb1
  clear hb1 
  have lKp := Kp.lt
  have cKp0 := Kp.cell 0
  have cKp1 := Kp.cell 1
  have cKp2 := Kp.cell 2
  have lKi := Ki.lt
  have cKi0 := Ki.cell 0
  have cKi1 := Ki.cell 1
  have cKi2 := Ki.cell 2
  have cKi3 := Ki.cell 3
  have lKm := Km.lt
  have cKm0 := Km.cell 0
  have cKm1 := Km.cell 1
  have cKm2 := Km.cell 2
  have cKm3 := Km.cell 3
  have cKm4 := Km.cell 4
  have cKm5 := Km.cell 5
  have lKg := Kg.lt
  have cKg0 := Kg.cell 0
  have cKg1 := Kg.cell 1
  have cKg2 := Kg.cell 2
  have lKR := KR.lt
  have cKR0 := KR.cell 0
  have cKR1 := KR.cell 1
  have cKR2 := KR.cell 2
  simp only [List.getElem?_toArray, List.getElem?_cons_succ, List.getElem?_cons_zero] at cKp0 cKp1 cKp2 cKi0 cKi1 cKi2 cKi3 cKm0 cKm1 cKm2 cKm3 cKm4 cKm5 cKg0 cKg1 cKg2 cKR0 cKR1 cKR2
  go_wp2_with fail
  refine (HM1.out _).mono ?_
  rintro e_ V2 ⟨rfl, hb2⟩
  replace Kp := (Kp.alloc (.cells #[.int .i64 W, .int .i64 H, .int .i64 B, .string s, .int .i64 a, .int .i64 b, .int .i64 c, .int .i64 d, .int .i64 e, .int .i64 f, .int .i64 0] 92))
  replace Ki := (Ki.alloc (.cells #[.int .i64 W, .int .i64 H, .int .i64 B, .string s, .int .i64 a, .int .i64 b, .int .i64 c, .int .i64 d, .int .i64 e, .int .i64 f, .int .i64 0] 92))
  replace Km := (Km.alloc (.cells #[.int .i64 W, .int .i64 H, .int .i64 B, .string s, .int .i64 a, .int .i64 b, .int .i64 c, .int .i64 d, .int .i64 e, .int .i64 f, .int .i64 0] 92))
  replace Kg := (Kg.alloc (.cells #[.int .i64 W, .int .i64 H, .int .i64 B, .string s, .int .i64 a, .int .i64 b, .int .i64 c, .int .i64 d, .int .i64 e, .int .i64 f, .int .i64 0] 92))
  replace KR := (KR.alloc (.cells #[.int .i64 W, .int .i64 H, .int .i64 B, .string s, .int .i64 a, .int .i64 b, .int .i64 c, .int .i64 d, .int .i64 e, .int .i64 f, .int .i64 0] 92))
  have Kv := (Blk.new V1 92 #[.int .i64 W, .int .i64 H, .int .i64 B, .string s, .int .i64 a, .int .i64 b, .int .i64 c, .int .i64 d, .int .i64 e, .int .i64 f, .int .i64 0])
  replace Kp := Kp.below hb2 Kp.lt
  replace Ki := Ki.below hb2 Ki.lt
  replace Km := Km.below hb2 Km.lt
  replace Kg := Kg.below hb2 Kg.lt
  replace KR := KR.below hb2 KR.lt
  replace Kv := Kv.below hb2 Kv.lt
  replace hbw : Below V.heap.size V V2 := btrans (by (repeat' (first | refine bset ?_ (by first | omega | (simp <;> omega)) _ | refine balloc ?_ _ | refine Below.drew ?_ | refine below_drewN ?_ _ | exact hbw | exact Below.refl _ _))) hb2
  clear hb2 lKp cKp0 cKp1 cKp2 lKi cKi0 cKi1 cKi2 cKi3 lKm cKm0 cKm1 cKm2 cKm3 cKm4 cKm5 lKg cKg0 cKg1 cKg2 lKR cKR0 cKR1 cKR2 Ki Km
  have lKp := Kp.lt
  have cKp0 := Kp.cell 0
  have cKp1 := Kp.cell 1
  have cKp2 := Kp.cell 2
  have lKg := Kg.lt
  have cKg0 := Kg.cell 0
  have cKg1 := Kg.cell 1
  have cKg2 := Kg.cell 2
  have lKR := KR.lt
  have cKR0 := KR.cell 0
  have cKR1 := KR.cell 1
  have cKR2 := KR.cell 2
  have lKv := Kv.lt
  have cKv0 := Kv.cell 0
  have cKv1 := Kv.cell 1
  have cKv2 := Kv.cell 2
  have cKv3 := Kv.cell 3
  have cKv4 := Kv.cell 4
  have cKv5 := Kv.cell 5
  have cKv6 := Kv.cell 6
  have cKv7 := Kv.cell 7
  have cKv8 := Kv.cell 8
  have cKv9 := Kv.cell 9
  have cKv10 := Kv.cell 10
  simp only [List.getElem?_toArray, List.getElem?_cons_succ, List.getElem?_cons_zero] at cKp0 cKp1 cKp2 cKg0 cKg1 cKg2 cKR0 cKR1 cKR2 cKv0 cKv1 cKv2 cKv3 cKv4 cKv5 cKv6 cKv7 cKv8 cKv9 cKv10
  go_wp2_with fail
  refine ((HM2.out _ hbw)).mono ?_
  rintro e_ V3 ⟨rfl, hb3⟩
  replace Kp := Kp.below hb3 Kp.lt
  replace Kg := Kg.below hb3 Kg.lt
  replace KR := KR.below hb3 KR.lt
  replace Kv := Kv.below hb3 Kv.lt
  replace hbw : Below V.heap.size V V3 := btrans (by (repeat' (first | refine bset ?_ (by first | omega | (simp <;> omega)) _ | refine balloc ?_ _ | refine Below.drew ?_ | refine below_drewN ?_ _ | exact hbw | exact Below.refl _ _))) hb3
  clear hb3 lKp cKp0 cKp1 cKp2 lKg cKg0 cKg1 cKg2 lKR cKR0 cKR1 cKR2 lKv cKv0 cKv1 cKv2 cKv3 cKv4 cKv5 cKv6 cKv7 cKv8 cKv9 cKv10
  have lKp := Kp.lt
  have cKp0 := Kp.cell 0
  have cKp1 := Kp.cell 1
  have cKp2 := Kp.cell 2
  have lKg := Kg.lt
  have cKg0 := Kg.cell 0
  have cKg1 := Kg.cell 1
  have cKg2 := Kg.cell 2
  have lKR := KR.lt
  have cKR0 := KR.cell 0
  have cKR1 := KR.cell 1
  have cKR2 := KR.cell 2
  have fKR0 := KR.frozen 0
  have fKR1 := KR.frozen 1
  have fKR2 := KR.frozen 2
  have lKv := Kv.lt
  have cKv0 := Kv.cell 0
  have cKv1 := Kv.cell 1
  have cKv2 := Kv.cell 2
  have cKv3 := Kv.cell 3
  have cKv4 := Kv.cell 4
  have cKv5 := Kv.cell 5
  have cKv6 := Kv.cell 6
  have cKv7 := Kv.cell 7
  have cKv8 := Kv.cell 8
  have cKv9 := Kv.cell 9
  have cKv10 := Kv.cell 10
  simp only [List.getElem?_toArray, List.getElem?_cons_succ, List.getElem?_cons_zero] at cKp0 cKp1 cKp2 cKg0 cKg1 cKg2 cKR0 cKR1 cKR2 cKv0 cKv1 cKv2 cKv3 cKv4 cKv5 cKv6 cKv7 cKv8 cKv9 cKv10
  have HKr := Lib.hid KR
  have HBW := Lib.hid hbw
  clear KR hbw
  go_wp2_with fail
  have K := ((HKr.out.set_ 0 (.int .i64 0)).set_ 1 (.int .i64 0)).set_ 2 (.slice none 0 0)
  refine ret_struct2 (g := (V.heap.size + 1 + 1 + 1 + 1)) (t := 46) (cs := #[.int .i64 0, .int .i64 0, .slice none 0 0]) rfl rfl ?_ Try.underlying46 rfl rfl rfl ?_
  · first | exact K | exact K.alloc _
  · exact ⟨rfl, by (repeat' (first | refine bset ?_ (by first | omega | (simp <;> omega)) _ | refine balloc ?_ _ | refine Below.drew ?_ | refine below_drewN ?_ _ | exact HBW.out | exact Below.refl _ _))⟩

end Go.Proofs.Ytegpjjkbbdfggaa.im

/-
  Layer 37: image.Region: where a sample over 0 lies.
-/
namespace Go.Proofs.Ytegpjjkbbdfggaa.im
set_option linter.unusedVariables false
set_option linter.unusedSimpArgs false
open Go.RowKit bs rg

/-- does a sample over 0 lie over a pixel? -/
def overB (W H B : Int) (s : ByteArray) (a b c d e f : Int) (j i : Nat) : Bool := decide (0 < atV W H B s a b c d e f (16 * (i : Int) + 8) (16 * (j : Int) + 8))
/-- the loop's world behind k pixels -/
def OvRel (w0 : World) (gb mb vb rb : Nat) (w h q : Nat) (V : Array Value) (F : Nat → Bool) (k : Nat) (wr : World) : Prop :=
  ∃ cs, Blk wr gb 5 cs ∧ Holds cs q (fun j => if j < k ∧ F j = true then 1 else 0) ∧ Blk wr mb 111 #[.int .i64 (w : Int), .int .i64 (h : Int), .slice (some ⟨gb, 0, none⟩) q q] ∧
    Blk wr vb 92 V ∧ Blk wr rb 51 #[.int .i64 0, .int .i64 0, .slice none 0 0] ∧ w0.heap.size ≤ rb ∧ rb < vb ∧ vb < gb ∧ mb ≠ gb ∧ Below w0.heap.size w0 wr
theorem OvRel.below {w0 wr w' : World} {gb mb vb rb w h q : Nat} {V : Array Value} {F : Nat → Bool} {k : Nat} (x : OvRel w0 gb mb vb rb w h q V F k wr) (hb : Below wr.heap.size wr w') : OvRel w0 gb mb vb rb w h q V F k w' := by
  obtain ⟨cs, h1, h2, h3, h4, h5, h6, h7, h8, h9, h10⟩ := x
  exact ⟨cs, h1.below hb h1.lt, h2, h3.below hb h3.lt, h4.below hb h4.lt, h5.below hb h5.lt, h6, h7, h8, h9, btrans h10 hb⟩
theorem OvRel.skip {w0 wr : World} {gb mb vb rb w h q : Nat} {V : Array Value} {F : Nat → Bool} {k : Nat} (x : OvRel w0 gb mb vb rb w h q V F k wr) (hf : F k = false) : OvRel w0 gb mb vb rb w h q V F (k + 1) wr := by
  obtain ⟨cs, h1, h2, h3⟩ := x
  refine ⟨cs, h1, h2.ext fun j hj => ?_, h3⟩
  by_cases e : j = k
  · subst e; simp [hf]
  · have : j < k + 1 ↔ j < k := by omega
    simp only [this]
theorem OvRel.put {w0 wr : World} {gb mb vb rb w h q : Nat} {V : Array Value} {F : Nat → Bool} {k : Nat} (x : OvRel w0 gb mb vb rb w h q V F k wr) (hf : F k = true) : OvRel w0 gb mb vb rb w h q V F (k + 1) (wr.setCell ⟨gb, k, none⟩ (.int .u8 1)) := by
  obtain ⟨cs, h1, h2, h3, h4, h5, h6, h7, h8, h9, h10⟩ := x
  refine ⟨_, h1.set_ k _, (h2.put k 1 (by omega) (by omega)).ext fun j hj => ?_, h3.far h9 _, h4.far (by simp; omega) _, h5.far (by simp; omega) _, h6, h7, h8, h9, bset h10 (by simp; omega) _⟩
  by_cases e : j = k
  · subst e; simp [hf]
  · have : j < k + 1 ↔ j < k := by omega
    simp only [this, if_neg e]
theorem OvRel.start {w0 w1 : World} {rb w h q : Nat} {V : Array Value} (F : Nat → Bool) (hb : Below w0.heap.size w0 w1) (hr : w0.heap.size ≤ rb) (K : Blk w1 rb 51 #[.int .i64 0, .int .i64 0, .slice none 0 0]) :
    OvRel w0 (w1.heap.size + 1) (w1.heap.size + 1 + 1) w1.heap.size rb w h q V F 0 (((w1.alloc (.cells V 92)).alloc (.cells (madeCells #[.int .u8 0] q) 5)).alloc (.cells #[.int .i64 (w : Int), .int .i64 (h : Int), .slice (some ⟨w1.heap.size + 1, 0, none⟩) q q] 111)) := by
  have b1 := Blk.new (w1.alloc (.cells V 92)) 5 (madeCells #[.int .u8 0] q)
  have b2 := Blk.new ((w1.alloc (.cells V 92)).alloc (.cells (madeCells #[.int .u8 0] q) 5)) 111 #[.int .i64 (w : Int), .int .i64 (h : Int), .slice (some ⟨w1.heap.size + 1, 0, none⟩) q q]
  have s1 : ∀ (u : World) (o : Obj), (u.alloc o).heap.size = u.heap.size + 1 := fun u o => by simp
  simp only [s1] at b1 b2
  exact ⟨_, b1.alloc _, ⟨by rw [size_madeCells]; omega, fun j hj => ⟨by simp [madeCells, hj, Nat.mod_one], by simp, by simp⟩⟩, b2, ((Blk.new _ _ _).alloc _).alloc _, ((K.alloc _).alloc _).alloc _, hr, K.lt, by omega, by omega, balloc (balloc (balloc hb _) _) _⟩

set_option maxRecDepth 100000 in
set_option maxHeartbeats 3200000 in
theorem over_any (W H B a b c d e f t : Int) (s : ByteArray) (w h : Nat) (V : World) (hw : 1 ≤ w ∧ w ≤ 64) (hh : 1 ≤ h ∧ h ≤ 64) (hs : (s.size : Int) ≤ 9223372036854775807) (hi : mayI W H B s.size = true) (hm : mt.mayB a b c d e f = true) (ht : a * d - b * c = t) (h0 : ¬ t = 0) :
    Calls Try.prog 38 #[.agg #[.int .i64 W, .int .i64 H, .int .i64 B, .string s], .agg #[.int .i64 a, .int .i64 b, .int .i64 c, .int .i64 d, .int .i64 e, .int .i64 f], .int .i64 (w : Int), .int .i64 (h : Int)] V fun ed w' =>
      ∃ g, V.heap.size ≤ g ∧ ed = .returned (.tuple #[.agg #[.int .i64 (w : Int), .int .i64 (h : Int), .slice (some ⟨g, 0, none⟩) h h], .int .i64 0]) ∧ rg.Rows w' (some ⟨g, 0, none⟩) h h (rowsOf w (overB W H B s a b c d e f)) ∧ Below V.heap.size V w' := by
  have hd := det_bd hm
  have HL := Lib.hid (fun W' => look_yes W H B a b c d e f s (a * d) (b * c) t W' hs hi hm rfl rfl ht hd.1.1 hd.1.2 hd.2.1 hd.2.2)
  have HA := Lib.hid (fun j i W' => at_any W H B a b c d e f t (16 * ((i : Nat) : Int) + 8) (16 * ((j : Nat) : Int) + 8) s W' hi hm ht)
  obtain ⟨q, hqq⟩ : ∃ q, w * h = q := ⟨_, rfl⟩
  have hq1 : q ≤ 4096 := by rw [← hqq]; exact Nat.mul_le_mul hw.2 hh.2
  obtain ⟨i0, hi0, hz0, hz1, hz2⟩ := info_parts (show (Try.prog.info? 5).map (fun i => (i.zero, i.size, i.bytes)) = some (some (.int .u8 0), 1, 1) by kernel_rfl)
  have hmk := fun W => run_make_rowN (P := Try.prog) 44 5 i0 (.int .u8 0) Try.underlying44 hi0 hz0 .i64 .i64 q q (Nat.le_refl _) (by rw [hz2]; omega) (by omega) W
  simp only [hz1, Nat.mul_one] at hmk
  have hmq : (w : Int) * (h : Int) = (q : Int) := by rw [← hqq]; push_cast; rfl
  have hwq : IntKind.i64.wrap (q : Int) = (q : Int) := by simp only [IntKind.wrap, IntKind.signed, IntKind.bits]; simp; omega
  have HOF := Lib.hid (fun g M W' h1 hM => rof_any w h q q (some ⟨g, 0, none⟩) M W' hw hh hqq.symm h1 hM)
  have HOV := Lib.hid (show ∀ j i : Nat, overB W H B s a b c d e f j i = decide (0 < atV W H B s a b c d e f (16 * (i : Int) + 8) (16 * (j : Int) + 8)) from fun _ _ => rfl)
  generalize hF : overB W H B s a b c d e f = F at *
  have HQ := Lib.hid hqq
  have g1 : decide ((w : Int) < 1) = false := by simp; omega
  have g2 : decide ((w : Int) > 64) = false := by simp; omega
  have g3 : decide ((h : Int) < 1) = false := by simp; omega
  have g4 : decide ((h : Int) > 64) = false := by simp; omega
  have g5 : ¬ (w : Int) < 1 := by omega
  have g6 : ¬ (64 : Int) < (w : Int) := by omega
  have g7 : ¬ (h : Int) < 1 := by omega
  have g8 : ¬ (64 : Int) < (h : Int) := by omega
  have ht0 : (t == 0) = false := by simp; exact h0
  have wz1 : ¬ (w : Int) = 0 := by omega
  have wz2 : ¬ w = 0 := by omega
  have HW := Lib.hid hw
  have HH := Lib.hid hh
  have HT := Lib.hid ht
  clear hs hi hm ht hd hqq hF hw hh

  go_enter Try.func38, Try.ntmps38
  go_wp2_with fail
  refine (HL.out _).mono ?_
  rintro e_ V1 ⟨rfl, hb1⟩
  have Ki := (((Blk.new V 23 #[.int .i64 W, .int .i64 H, .int .i64 B, .string s]).alloc (.cells #[.int .i64 a, .int .i64 b, .int .i64 c, .int .i64 d, .int .i64 e, .int .i64 f] 25)).alloc (.cells #[.int .i64 0, .int .i64 0, .slice none 0 0] 51))
  have Km := ((Blk.new (V.alloc (.cells #[.int .i64 W, .int .i64 H, .int .i64 B, .string s] 23)) 25 #[.int .i64 a, .int .i64 b, .int .i64 c, .int .i64 d, .int .i64 e, .int .i64 f]).alloc (.cells #[.int .i64 0, .int .i64 0, .slice none 0 0] 51))
  have hz_Km : (V.alloc (.cells #[.int .i64 W, .int .i64 H, .int .i64 B, .string s] 23)).heap.size = V.heap.size + 1 := by simp
  rw [hz_Km] at Km
  clear hz_Km
  have Kr := (Blk.new ((V.alloc (.cells #[.int .i64 W, .int .i64 H, .int .i64 B, .string s] 23)).alloc (.cells #[.int .i64 a, .int .i64 b, .int .i64 c, .int .i64 d, .int .i64 e, .int .i64 f] 25)) 51 #[.int .i64 0, .int .i64 0, .slice none 0 0])
  have hz_Kr : ((V.alloc (.cells #[.int .i64 W, .int .i64 H, .int .i64 B, .string s] 23)).alloc (.cells #[.int .i64 a, .int .i64 b, .int .i64 c, .int .i64 d, .int .i64 e, .int .i64 f] 25)).heap.size = V.heap.size + 1 + 1 := by simp
  rw [hz_Kr] at Kr
  clear hz_Kr
  replace Ki := Ki.below hb1 Ki.lt
  replace Km := Km.below hb1 Km.lt
  replace Kr := Kr.below hb1 Kr.lt
  have hbw : Below V.heap.size V V1 := btrans (by (repeat' (first | exact Below.refl _ _ | exact Below.refl _ _ | refine balloc ?_ _ | refine Below.drew ?_ | refine below_drewN ?_ _ | refine bset ?_ (by first | omega | (simp <;> omega)) _))) hb1
  clear hb1 
  have lKi := Ki.lt
  have cKi0 := Ki.cell 0
  have cKi1 := Ki.cell 1
  have cKi2 := Ki.cell 2
  have cKi3 := Ki.cell 3
  have lKm := Km.lt
  have cKm0 := Km.cell 0
  have cKm1 := Km.cell 1
  have cKm2 := Km.cell 2
  have cKm3 := Km.cell 3
  have cKm4 := Km.cell 4
  have cKm5 := Km.cell 5
  have lKr := Kr.lt
  have cKr0 := Kr.cell 0
  have cKr1 := Kr.cell 1
  have cKr2 := Kr.cell 2
  simp only [List.getElem?_toArray, List.getElem?_cons_succ, List.getElem?_cons_zero] at cKi0 cKi1 cKi2 cKi3 cKm0 cKm1 cKm2 cKm3 cKm4 cKm5 cKr0 cKr1 cKr2
  have HST := Lib.hid (OvRel.start (w := w) (h := h) (q := q) (V := #[.int .i64 W, .int .i64 H, .int .i64 B, .string s, .int .i64 a, .int .i64 b, .int .i64 c, .int .i64 d, .int .i64 e, .int .i64 f, .int .i64 t]) (fun k => F (k / w) (k % w)) hbw (by omega) Kr)
  obtain ⟨rb, hrb⟩ : ∃ rb, V.heap.size + 1 + 1 = rb := ⟨_, rfl⟩
  rw [hrb] at HST Kr lKr cKr0 cKr1 cKr2
  obtain ⟨z, hz⟩ : ∃ z, V1.heap.size = z := ⟨_, rfl⟩
  rw [hz] at HST
  have HBW := Lib.hid hbw
  have HKr := Lib.hid Kr
  clear hbw Ki Km Kr lKi lKm cKi0 cKi1 cKi2 cKi3 cKm0 cKm1 cKm2 cKm3 cKm4 cKm5 cKr0 cKr1 cKr2
  go_wp2_with fail
  go_loopw [53] (fun sv wr => ∃ k : Nat, k ≤ q ∧ sv = .int .i64 (k : Int) ∧ OvRel V (z + 1) (z + 1 + 1) z rb w h q #[.int .i64 W, .int .i64 H, .int .i64 B, .string s, .int .i64 a, .int .i64 b, .int .i64 c, .int .i64 d, .int .i64 e, .int .i64 f, .int .i64 t] (fun k => F (k / w) (k % w)) k wr) (fun sv _ => q - (intOf sv).toNat)
  case atStart => exact ⟨0, by omega, rfl, HST.out⟩
  case round =>
    clear HST HBW HKr
    obtain ⟨k, hk, rfl, hU⟩ := hrel
    obtain ⟨cs, u1, u2, u3, u4, u5, u6, u7, u8, u9, u10⟩ := id hU
    by_cases hkq : k < q
    · have d1 : decide ((k : Int) < (q : Int)) = true := by simp; omega
      have m2 := u3.cell 2
      simp only [List.getElem?_toArray, List.getElem?_cons_succ, List.getElem?_cons_zero] at m2
      have gc : wr.cell? ⟨z + 1, k, none⟩ = some (.int .u8 0) := by rw [u1.cell, (u2.2 k hkq).1]; simp
      have gf := u1.frozen k
      have lg := u1.lt
      have lm := u3.lt
      have lv := u4.lt
      have U2_0 := fun u : Up wr => (u.cell (p := ⟨z, 0, none⟩) lv).trans (show wr.cell? ⟨z, 0, none⟩ = some (.int .i64 W) from by rw [u4.cell]; rfl)
      have U2_1 := fun u : Up wr => (u.cell (p := ⟨z, 1, none⟩) lv).trans (show wr.cell? ⟨z, 1, none⟩ = some (.int .i64 H) from by rw [u4.cell]; rfl)
      have U2_2 := fun u : Up wr => (u.cell (p := ⟨z, 2, none⟩) lv).trans (show wr.cell? ⟨z, 2, none⟩ = some (.int .i64 B) from by rw [u4.cell]; rfl)
      have U2_3 := fun u : Up wr => (u.cell (p := ⟨z, 3, none⟩) lv).trans (show wr.cell? ⟨z, 3, none⟩ = some (.string s) from by rw [u4.cell]; rfl)
      have U2_4 := fun u : Up wr => (u.cell (p := ⟨z, 4, none⟩) lv).trans (show wr.cell? ⟨z, 4, none⟩ = some (.int .i64 a) from by rw [u4.cell]; rfl)
      have U2_5 := fun u : Up wr => (u.cell (p := ⟨z, 5, none⟩) lv).trans (show wr.cell? ⟨z, 5, none⟩ = some (.int .i64 b) from by rw [u4.cell]; rfl)
      have U2_6 := fun u : Up wr => (u.cell (p := ⟨z, 6, none⟩) lv).trans (show wr.cell? ⟨z, 6, none⟩ = some (.int .i64 c) from by rw [u4.cell]; rfl)
      have U2_7 := fun u : Up wr => (u.cell (p := ⟨z, 7, none⟩) lv).trans (show wr.cell? ⟨z, 7, none⟩ = some (.int .i64 d) from by rw [u4.cell]; rfl)
      have U2_8 := fun u : Up wr => (u.cell (p := ⟨z, 8, none⟩) lv).trans (show wr.cell? ⟨z, 8, none⟩ = some (.int .i64 e) from by rw [u4.cell]; rfl)
      have U2_9 := fun u : Up wr => (u.cell (p := ⟨z, 9, none⟩) lv).trans (show wr.cell? ⟨z, 9, none⟩ = some (.int .i64 f) from by rw [u4.cell]; rfl)
      have U2_10 := fun u : Up wr => (u.cell (p := ⟨z, 10, none⟩) lv).trans (show wr.cell? ⟨z, 10, none⟩ = some (.int .i64 t) from by rw [u4.cell]; rfl)
      have U3 := fun (u : Up wr) => (u.cell (p := ⟨z + 1 + 1, 2, none⟩) lm).trans m2
      have U4 := fun (u : Up wr) => (u.cell (p := ⟨z + 1, k, none⟩) lg).trans gc
      have U5 := fun (u : Up wr) => ((bcell u.ok).2 (z + 1) k lg).trans gf
      obtain ⟨i, him⟩ : ∃ i, k % w = i := ⟨_, rfl⟩
      obtain ⟨j, hjm⟩ : ∃ j, k / w = j := ⟨_, rfl⟩
      have hil : i < 64 := by have := HW.out; have := Nat.mod_lt k (show 0 < w by omega); omega
      have hjl : j < 64 := by
        have h1 := HW.out; have h2 := HH.out; have h3 := HQ.out
        rw [← hjm]
        refine Nat.lt_of_lt_of_le ((Nat.div_lt_iff_lt_mul (by omega)).2 ?_) h2.2
        rw [Nat.mul_comm, h3]; exact hkq
      have e1 : (k : Int).tmod (w : Int) = (i : Int) := by rw [Int.tmod_eq_emod_of_nonneg (by omega), ← Int.natCast_emod, him]
      have e2 : (k : Int).tdiv (w : Int) = (j : Int) := by rw [Int.tdiv_eq_ediv_of_nonneg (by omega), ← Int.natCast_ediv, hjm]
      have HFK := Lib.hid (show (fun k => F (k / w) (k % w)) k = F j i by show F (k / w) (k % w) = F j i; rw [him, hjm])
      have hov := HOV.out j i
      have HAU := Lib.hid (fun u : Up wr => up_of (u := u) (HA.out j i u.val))
      obtain ⟨v, hv⟩ : ∃ v, atV W H B s a b c d e f (16 * (i : Int) + 8) (16 * (j : Int) + 8) = v := ⟨_, rfl⟩
      simp only [hv] at HAU
      rw [hv] at hov
      have HU := Lib.hid hU
      clear u1 u2 u3 u4 u5 u6 u7 u8 u9 u10 hU him hjm hv
      go_wp2_with fail
      refine wp_region_up (by kernel_rfl) (by kernel_rfl) ?_
      repeat (go_big_quiet_step (fail))
      go_big_quiet_step (exact HAU.out _)
      repeat (go_big_quiet_step (fail))
      refine wpQuiet_nil ?_
      rintro _ ⟨uq, rfl⟩
      have n1 := U3 uq
      have n2 := U4 uq
      have n3 := U5 uq
      have HU2 := Lib.hid (HU.out.below uq.ok)
      clear U2_0 U2_1 U2_2 U2_3 U2_4 U2_5 U2_6 U2_7 U2_8 U2_9 U2_10 U3 U4 U5 HAU m2 gc gf lg lm lv HU
      generalize hwx : uq.val = wz at *
      clear hwx uq
      by_cases hv : 0 < v
      · have d2 : decide (v > 0) = true := by simp; omega
        have d3 : decide (0 < v) = true := by simp; omega
        have HN := Lib.hid (HU2.out.put (by rw [HFK.out, hov]; exact d3))
        clear HU2 hov HFK
        go_wp2_with fail
        go_roundw
        case rel => exact ⟨k + 1, by omega, by go_num, HN.out⟩
        case measure => simp [intOf]; omega
      · have d2 : decide (v > 0) = false := by simp; omega
        have d3 : decide (0 < v) = false := by simp; omega
        have HN := Lib.hid (HU2.out.skip (by rw [HFK.out, hov]; exact d3))
        clear HU2 hov HFK
        go_wp2_with fail
        go_roundw
        case rel => exact ⟨k + 1, by omega, by go_num, HN.out⟩
        case measure => simp [intOf]; omega
    · obtain rfl : k = q := by omega
      have d1 : decide ((k : Int) < (k : Int)) = false := by simp
      have m0 := u3.cell 0
      have m1 := u3.cell 1
      have m2 := u3.cell 2
      have z0 := u5.cell 0
      have z1 := u5.cell 1
      have z2 := u5.cell 2
      simp only [List.getElem?_toArray, List.getElem?_cons_succ, List.getElem?_cons_zero] at m0 m1 m2 z0 z1 z2
      have lr := u5.lt
      have HKr := Lib.hid u5
      have HBW := Lib.hid u10
      have HRB := Lib.hid u6
      have HC := Lib.hid (HOF.out (z + 1) _ wr (u2.pg u1 (Nat.le_refl _)) (fun j hj => by
        by_cases h : j < k ∧ (fun k => F (k / w) (k % w)) j = true
        · right; exact if_pos h
        · left; exact if_neg h))
      clear u1 u2 u3 u4 u5 u6 u7 u8 u9 u10 hU
      go_wp2_with fail
      refine HC.out.mono ?_
      rintro e_ w3 ⟨g, hg, rfl, hr3, hb1⟩
      have hsz := HBW.out.size
      have hr4 : rg.Rows w3 (some ⟨g, 0, none⟩) h h (rowsOf w F) := hr3.ext fun j hj => rowsOf_ext fun i hi => by
        have h3 := pix_in hj hi
        have h4 : j * w + i < k := by have := HQ.out; omega
        have h5 := pix_of (j := j) hi
        by_cases h : F j i = true <;> simp [h, h4, h5]
      have Kr := HKr.out.below hb1 lr
      have hbw := btrans HBW.out hb1
      have hgne : g ≠ rb := by omega
      have hg2 : V.heap.size ≤ g := by omega
      clear hr3 hb1 HKr HBW HC hg m0 m1 m2 z0 z1 z2
      have g0 := Kr.cell 0
      have g1 := Kr.cell 1
      have g2 := Kr.cell 2
      have f0 := Kr.frozen 0
      have f1 := Kr.frozen 1
      have f2 := Kr.frozen 2
      simp only [List.getElem?_toArray, List.getElem?_cons_succ, List.getElem?_cons_zero] at g0 g1 g2
      have HKr := Lib.hid Kr
      have HBW := Lib.hid hbw
      have HR4 := Lib.hid hr4
      clear Kr hbw hr4
      go_wp2_with fail
      have K := ((HKr.out.set_ 0 (.int .i64 (w : Int))).set_ 1 (.int .i64 (h : Int))).set_ 2 (.slice (some ⟨g, 0, none⟩) h h)
      have hrb2 := HRB.out
      refine ret_struct2 (g := rb) (t := 51) (cs := #[.int .i64 (w : Int), .int .i64 (h : Int), .slice (some ⟨g, 0, none⟩) h h]) rfl rfl ?_ Try.underlying51 rfl rfl rfl ?_
      · exact K
      · exact ⟨g, hg2, rfl, rg.Rows.setBox HR4.out hgne HKr.out _ _ _, by (repeat' (first | refine bset ?_ (by first | omega | (simp <;> omega)) _ | refine balloc ?_ _ | refine Below.drew ?_ | refine below_drewN ?_ _ | exact HBW.out | exact Below.refl _ _))⟩
end Go.Proofs.Ytegpjjkbbdfggaa.im

/-
  Layer 37: Paint's worlds: what the loops keep.
-/
namespace Go.Proofs.Ytegpjjkbbdfggaa.im
set_option linter.unusedVariables false
set_option linter.unusedSimpArgs false
open Go.RowKit bs rg

/-- a page's bytes behind Paint, up to pixel p -/
def pntB (w : Nat) (R : Nat → Nat → Bool) (S : Nat → Nat → Int) (G : Int → Int) (Y : Nat → Int) (p j : Nat) : Int :=
  if j / 3 < p ∧ R (j / 3 / w) (j / 3 % w) = true ∧ 0 ≤ S (j / 3 / w) (j / 3 % w) then G (S (j / 3 / w) (j / 3 % w)) else Y j
/-- a page's bytes behind Paint -/
def paintB (w : Nat) (R : Nat → Nat → Bool) (S : Nat → Nat → Int) (G : Int → Int) (Y : Nat → Int) (j : Nat) : Int :=
  if R (j / 3 / w) (j / 3 % w) = true ∧ 0 ≤ S (j / 3 / w) (j / 3 % w) then G (S (j / 3 / w) (j / 3 % w)) else Y j
theorem pntB_zero (w : Nat) (R : Nat → Nat → Bool) (S : Nat → Nat → Int) (G : Int → Int) (Y : Nat → Int) (j : Nat) : Y j = pntB w R S G Y 0 j := by
  unfold pntB; rw [if_neg (by omega)]
theorem pntB_skip (w : Nat) (R : Nat → Nat → Bool) (S : Nat → Nat → Int) (G : Int → Int) (Y : Nat → Int) (j i : Nat) (hi : i < w) (h : R j i = false ∨ S j i < 0) (t : Nat) : pntB w R S G Y (j * w + i) t = pntB w R S G Y (j * w + i + 1) t := by
  unfold pntB
  by_cases e : t / 3 = j * w + i
  · obtain ⟨e1, e2⟩ := pix_of (j := j) hi
    rw [e, e1, e2]
    rcases h with h | h
    · simp [h]
    · rw [if_neg (by omega), if_neg (by omega)]
  · have : t / 3 < j * w + i + 1 ↔ t / 3 < j * w + i := by omega
    simp only [this]
theorem pntB_step (w : Nat) (R : Nat → Nat → Bool) (S : Nat → Nat → Int) (G : Int → Int) (Y : Nat → Int) (j i : Nat) (hi : i < w) (h : R j i = true) (h0 : 0 ≤ S j i) (p t : Nat) (hp : 3 * (j * w + i) = p) :
    (if t = p + 2 then G (S j i) else if t = p + 1 then G (S j i) else if t = p then G (S j i) else pntB w R S G Y (j * w + i) t) = pntB w R S G Y (j * w + i + 1) t := by
  by_cases e : t / 3 = j * w + i
  · obtain ⟨e1, e2⟩ := pix_of (j := j) hi
    have : pntB w R S G Y (j * w + i + 1) t = G (S j i) := by
      unfold pntB
      rw [e, e1, e2, if_pos ⟨by omega, h, h0⟩]
    rw [this]
    (repeat' split) <;> first | rfl | omega
  · rw [if_neg (by omega), if_neg (by omega), if_neg (by omega)]
    unfold pntB
    have : t / 3 < j * w + i + 1 ↔ t / 3 < j * w + i := by omega
    simp only [this]
theorem pntB_all (w h : Nat) (R : Nat → Nat → Bool) (S : Nat → Nat → Int) (G : Int → Int) (Y : Nat → Int) (t : Nat) (ht : t < 3 * (w * h)) : pntB w R S G Y (h * w) t = paintB w R S G Y t := by
  unfold pntB paintB
  have h1 : t / 3 < h * w := by rw [Nat.mul_comm h w]; omega
  simp only [h1, true_and]
/-- the blocks that the loops read and write -/
def PtR (w0 : World) (g n pB iB vB zB : Nat) (pv iv vv zv : Array Value) (Y : Nat → Int) (wr : World) : Prop :=
  ∃ cs, Blk wr g 5 cs ∧ Holds cs n Y ∧ Blk wr pB 46 pv ∧ Blk wr iB 23 iv ∧ Blk wr vB 92 vv ∧ Blk wr zB 46 zv ∧
    w0.heap.size ≤ g ∧ pB ≠ g ∧ iB ≠ g ∧ vB ≠ g ∧ zB ≠ g ∧ Below w0.heap.size w0 wr
section
variable {w0 wr w' : World} {g n pB iB vB zB : Nat} {pv iv vv zv : Array Value} {Y Z : Nat → Int}
theorem PtR.below (x : PtR w0 g n pB iB vB zB pv iv vv zv Y wr) (hb : Below wr.heap.size wr w') : PtR w0 g n pB iB vB zB pv iv vv zv Y w' := by
  obtain ⟨cs, h1, h2, h3, h4, h5, h6, g1, g2, g3, g4, g5, h7⟩ := x
  exact ⟨cs, h1.below hb h1.lt, h2, h3.below hb h3.lt, h4.below hb h4.lt, h5.below hb h5.lt, h6.below hb h6.lt, g1, g2, g3, g4, g5, btrans h7 hb⟩
theorem PtR.ext (x : PtR w0 g n pB iB vB zB pv iv vv zv Y wr) (e : ∀ j, j < n → Y j = Z j) : PtR w0 g n pB iB vB zB pv iv vv zv Z wr := by
  obtain ⟨cs, h1, h2, h3⟩ := x
  exact ⟨cs, h1, h2.ext e, h3⟩
theorem PtR.put (x : PtR w0 g n pB iB vB zB pv iv vv zv Y wr) (k : Nat) (v : Int) (h0 : 0 ≤ v) (h1 : v ≤ 255) : PtR w0 g n pB iB vB zB pv iv vv zv (fun j => if j = k then v else Y j) (wr.setCell ⟨g, k, none⟩ (.int .u8 v)) := by
  obtain ⟨cs, h1', h2, h3, h4, h5, h6, g1, g2, g3, g4, g5, h7⟩ := x
  exact ⟨_, h1'.set_ k _, h2.put k v h0 h1, h3.far g2 _, h4.far g3 _, h5.far g4 _, h6.far g5 _, g1, g2, g3, g4, g5, bset h7 g1 _⟩
end
/-- what a walk over the region's pixels keeps -/
structure Pts (V : World) (g n pB iB vB : Nat) (pv iv vv : Array Value) (w h : Nat) (R : Nat → Nat → Bool) (S : Nat → Nat → Int) (G : Int → Int) (Rel : Nat → World → Prop) : Prop where
  keep : ∀ p w1 w2, Rel p w1 → Below w1.heap.size w1 w2 → Rel p w2
  skip : ∀ j i w1, j < h → i < w → (R j i = false ∨ S j i < 0) → Rel (j * w + i) w1 → Rel (j * w + i + 1) w1
  put : ∀ j i p w1, j < h → i < w → R j i = true → 0 ≤ S j i → 3 * (j * w + i) = p → Rel (j * w + i) w1 → Rel (j * w + i + 1) (((w1.setCell ⟨g, p, none⟩ (.int .u8 (G (S j i)))).setCell ⟨g, p + 1, none⟩ (.int .u8 (G (S j i)))).setCell ⟨g, p + 2, none⟩ (.int .u8 (G (S j i))))
  blocks : ∀ p wr, Rel p wr → Blk wr pB 46 pv ∧ Blk wr iB 23 iv ∧ Blk wr vB 92 vv ∧ Below V.heap.size V wr ∧ pB ≠ g ∧ V.heap.size ≤ g ∧ g < wr.heap.size
  cell : ∀ p wr j, Rel p wr → j < n → (∃ y, wr.cell? ⟨g, j, none⟩ = some (.int .u8 y)) ∧ wr.frozen? ⟨g, j, none⟩ = false
theorem pts_mk (V : World) (g n pB iB vB zB : Nat) (pv iv vv zv : Array Value) (w h : Nat) (R : Nat → Nat → Bool) (S : Nat → Nat → Int) (G : Int → Int) (Y : Nat → Int) (hG : ∀ j i, 0 ≤ S j i → 0 ≤ G (S j i) ∧ G (S j i) ≤ 255) :
    Pts V g n pB iB vB pv iv vv w h R S G (fun p => PtR V g n pB iB vB zB pv iv vv zv (pntB w R S G Y p)) := by
  refine ⟨fun p w1 w2 h hb => h.below hb, fun j i w1 hj hi h hr => hr.ext fun t _ => pntB_skip w R S G Y j i hi h t, fun j i p w1 hj hi h h0 hp hr => ?_, fun p wr h => ?_, fun p wr j h hj => ?_⟩
  · obtain ⟨b0, b1⟩ := hG j i h0
    exact (((hr.put p _ b0 b1).put (p + 1) _ b0 b1).put (p + 2) _ b0 b1).ext fun t _ => pntB_step w R S G Y j i hi h h0 p t hp
  · obtain ⟨cs, h1, h2, h3, h4, h5, h6, g1, g2, g3, g4, g5, h7⟩ := h
    exact ⟨h3, h4, h5, h7, g2, g1, h1.lt⟩
  · obtain ⟨cs, h1, h2, h3, h4, h5, h6, g1, g2, g3, g4, g5, h7⟩ := h
    exact ⟨⟨_, (h1.cell j).trans (h2.2 j hj).1⟩, h1.frozen j⟩
theorem Pts.skips {V : World} {g n pB iB vB : Nat} {pv iv vv : Array Value} {w h : Nat} {R : Nat → Nat → Bool} {S : Nat → Nat → Int} {G : Int → Int} {Rel : Nat → World → Prop} (x : Pts V g n pB iB vB pv iv vv w h R S G Rel)
    {k a b : Nat} {wr : World} (hk : k < h) (r : Rel (k * w + a) wr) (hab : a ≤ b) (hb : b ≤ w) (hR : ∀ i, a ≤ i → i < b → R k i = false) : Rel (k * w + b) wr := by
  obtain ⟨n, rfl⟩ := Nat.exists_eq_add_of_le hab
  clear hab
  induction n with
  | zero => exact r
  | succ n ih =>
    have h1 := ih (by omega) (fun i h1 h2 => hR i h1 (by omega))
    exact x.skip k (a + n) wr hk (by omega) (.inl (hR _ (by omega) (by omega))) h1
end Go.Proofs.Ytegpjjkbbdfggaa.im

/-
  Layer 37: image.Paint: a picture on a region's pixels.
-/
namespace Go.Proofs.Ytegpjjkbbdfggaa.im
set_option linter.unusedVariables false
set_option linter.unusedSimpArgs false
open Go.RowKit bs rg

theorem appended {w u w1 : World} {n : Nat} {v : Value} {xs : List Value} (hn : 0 < n) (hown : w1.ownsRow w.heap.size 5 1 v (0 + n) ([] ++ xs)) (hg1 : u.grownBy w1 (some w.heap.size)) (hbu : Below w.heap.size w u) :
    ∃ g d cs, v = .slice (some ⟨g, 0, none⟩) n d ∧ w.heap.size ≤ g ∧ Blk w1 g 5 cs ∧ n ≤ d ∧ cs.size = d ∧ cs.toList.take n = xs ∧ Below w.heap.size w w1 := by
  rw [Nat.zero_add, List.nil_append] at hown
  obtain ⟨g, d, cs, hv, hg, hB, hd, hs, ht⟩ := own_out hn hown
  exact ⟨g, d, cs, hv, hg, hB, hd, hs, ht, Below.grown hbu hg1 hbu.size (fun k e => by cases e; omega)⟩

set_option maxRecDepth 100000 in
set_option maxHeartbeats 6400000 in
theorem paint_any (W H B a b c d e f t : Int) (s : ByteArray) (w h n cp dr : Nat) (A D : Option Addr) (R : Nat → Nat → Bool) (Y : Nat → Int) (V : World) (hw : 1 ≤ w ∧ w ≤ 64) (hh : 1 ≤ h ∧ h ≤ 64) (hn : n = 3 * (w * h)) (hs : (s.size : Int) ≤ 9223372036854775807) (hi : mayI W H B s.size = true) (hm : mt.mayB a b c d e f = true) (ht : a * d - b * c = t) (h0 : ¬ t = 0)
    (hp : Pg V A n cp Y) (hr : rg.Rows V D h dr (rowsOf w R)) :
    Calls Try.prog 31 #[.agg #[.int .i64 (w : Int), .int .i64 (h : Int), .slice A n cp], .agg #[.int .i64 W, .int .i64 H, .int .i64 B, .string s], .agg #[.int .i64 a, .int .i64 b, .int .i64 c, .int .i64 d, .int .i64 e, .int .i64 f], .agg #[.int .i64 (w : Int), .int .i64 (h : Int), .slice D h dr]] V fun ed w' =>
      ∃ g fc, V.heap.size ≤ g ∧ ed = .returned (.tuple #[.agg #[.int .i64 (w : Int), .int .i64 (h : Int), .slice (some ⟨g, 0, none⟩) n fc], .int .i64 0]) ∧ Pg w' (some ⟨g, 0, none⟩) n fc (paintB w R (fun (j i : Nat) => atV W H B s a b c d e f (16 * (i : Int) + 8) (16 * (j : Int) + 8)) (greyV B) Y) ∧ Below V.heap.size V w' := by
  have hsz := page_size hw hh
  obtain ⟨hnc, bA, oA, rfl, hlt, hcell⟩ := id hp
  have hd := det_bd hm
  have hBv := (mayI_bd hi).1
  have HL := Lib.hid (fun W' => look_yes W H B a b c d e f s (a * d) (b * c) t W' hs hi hm rfl rfl ht hd.1.1 hd.1.2 hd.2.1 hd.2.2)
  obtain ⟨S, hS⟩ : ∃ S : Nat → Nat → Int, (fun (j i : Nat) => atV W H B s a b c d e f (16 * (i : Int) + 8) (16 * (j : Int) + 8)) = S := ⟨_, rfl⟩
  have hS1 : ∀ j i : Nat, atV W H B s a b c d e f (16 * (i : Int) + 8) (16 * (j : Int) + 8) = S j i := fun j i => by rw [← hS]
  have HA := Lib.hid (fun (j i : Nat) W' => (hS1 j i) ▸ at_any W H B a b c d e f t (16 * (i : Int) + 8) (16 * (j : Int) + 8) s W' hi hm ht)
  have HSB := Lib.hid (fun (j i : Nat) => (hS1 j i) ▸ atV_bd W H B a b c d e f (16 * (i : Int) + 8) (16 * (j : Int) + 8) s hi)
  have HM1 := Lib.hid (fun W' => inkmay_yes w h n cp (some ⟨bA, oA, none⟩) W' hw hh hn)
  have HM2 := Lib.hid (fun W' (hW' : Below V.heap.size V W') => rmay_yes w h dr D _ W' hw hh (fun j _ => rowsOf_mayB w R j hw.2) (hr.below hW'))
  have HPM := Lib.hid (fun g pB iB vB zB pv iv vv zv => pts_mk V g n pB iB vB zB pv iv vv zv w h R S (greyV B) Y (fun j i x => greyV_bd hBv x ((HSB.out j i).2)))
  have HALL := Lib.hid (fun t x => pntB_all w h R S (greyV B) Y t x)
  have HZ := Lib.hid (fun t => pntB_zero w R S (greyV B) Y t)
  have HPIX := Lib.hid (fun j i hj hi => (pix_in (W := w) (H := h) (j := j) (i := i) hj hi))
  obtain ⟨i0, hi0, hz0, hz1, hz2⟩ := info_parts (show (Try.prog.info? 5).map (fun i => (i.zero, i.size, i.bytes)) = some (some (.int .u8 0), 1, 1) by kernel_rfl)
  have ht0 : (t == 0) = false := by simp; exact h0
  have hwn : ¬ (w : Int) = 0 := by omega
  have HBV := Lib.hid hBv
  have HN := Lib.hid hn
  have HP := Lib.hid hp
  have HR := Lib.hid hr
  have HW := Lib.hid hw
  have HH := Lib.hid hh
  have hnn : 0 < n := by rw [hn]; exact hsz.1
  have hnx : n ≤ 12288 := by rw [hn]; exact hsz.2
  rw [hS]
  clear hs hi hm ht hd hw hh hn hp hr hS hS1 hsz hcell hBv

  go_enter Try.func31, Try.ntmps31
  go_wp2_with fail
  refine (HL.out _).mono ?_
  rintro e_ V1 ⟨rfl, hb1⟩
  have Kp := (((((Blk.new V 46 #[.int .i64 (w : Int), .int .i64 (h : Int), .slice (some ⟨bA, oA, none⟩) n cp]).alloc (.cells #[.int .i64 W, .int .i64 H, .int .i64 B, .string s] 23)).alloc (.cells #[.int .i64 a, .int .i64 b, .int .i64 c, .int .i64 d, .int .i64 e, .int .i64 f] 25)).alloc (.cells #[.int .i64 (w : Int), .int .i64 (h : Int), .slice D h dr] 51)).alloc (.cells #[.int .i64 0, .int .i64 0, .slice none 0 0] 46))
  have Ki := ((((Blk.new (V.alloc (.cells #[.int .i64 (w : Int), .int .i64 (h : Int), .slice (some ⟨bA, oA, none⟩) n cp] 46)) 23 #[.int .i64 W, .int .i64 H, .int .i64 B, .string s]).alloc (.cells #[.int .i64 a, .int .i64 b, .int .i64 c, .int .i64 d, .int .i64 e, .int .i64 f] 25)).alloc (.cells #[.int .i64 (w : Int), .int .i64 (h : Int), .slice D h dr] 51)).alloc (.cells #[.int .i64 0, .int .i64 0, .slice none 0 0] 46))
  have hz_Ki : (V.alloc (.cells #[.int .i64 (w : Int), .int .i64 (h : Int), .slice (some ⟨bA, oA, none⟩) n cp] 46)).heap.size = V.heap.size + 1 := by simp
  rw [hz_Ki] at Ki
  clear hz_Ki
  have Km := (((Blk.new ((V.alloc (.cells #[.int .i64 (w : Int), .int .i64 (h : Int), .slice (some ⟨bA, oA, none⟩) n cp] 46)).alloc (.cells #[.int .i64 W, .int .i64 H, .int .i64 B, .string s] 23)) 25 #[.int .i64 a, .int .i64 b, .int .i64 c, .int .i64 d, .int .i64 e, .int .i64 f]).alloc (.cells #[.int .i64 (w : Int), .int .i64 (h : Int), .slice D h dr] 51)).alloc (.cells #[.int .i64 0, .int .i64 0, .slice none 0 0] 46))
  have hz_Km : ((V.alloc (.cells #[.int .i64 (w : Int), .int .i64 (h : Int), .slice (some ⟨bA, oA, none⟩) n cp] 46)).alloc (.cells #[.int .i64 W, .int .i64 H, .int .i64 B, .string s] 23)).heap.size = V.heap.size + 1 + 1 := by simp
  rw [hz_Km] at Km
  clear hz_Km
  have Kg := ((Blk.new (((V.alloc (.cells #[.int .i64 (w : Int), .int .i64 (h : Int), .slice (some ⟨bA, oA, none⟩) n cp] 46)).alloc (.cells #[.int .i64 W, .int .i64 H, .int .i64 B, .string s] 23)).alloc (.cells #[.int .i64 a, .int .i64 b, .int .i64 c, .int .i64 d, .int .i64 e, .int .i64 f] 25)) 51 #[.int .i64 (w : Int), .int .i64 (h : Int), .slice D h dr]).alloc (.cells #[.int .i64 0, .int .i64 0, .slice none 0 0] 46))
  have hz_Kg : (((V.alloc (.cells #[.int .i64 (w : Int), .int .i64 (h : Int), .slice (some ⟨bA, oA, none⟩) n cp] 46)).alloc (.cells #[.int .i64 W, .int .i64 H, .int .i64 B, .string s] 23)).alloc (.cells #[.int .i64 a, .int .i64 b, .int .i64 c, .int .i64 d, .int .i64 e, .int .i64 f] 25)).heap.size = V.heap.size + 1 + 1 + 1 := by simp
  rw [hz_Kg] at Kg
  clear hz_Kg
  have Kz := (Blk.new ((((V.alloc (.cells #[.int .i64 (w : Int), .int .i64 (h : Int), .slice (some ⟨bA, oA, none⟩) n cp] 46)).alloc (.cells #[.int .i64 W, .int .i64 H, .int .i64 B, .string s] 23)).alloc (.cells #[.int .i64 a, .int .i64 b, .int .i64 c, .int .i64 d, .int .i64 e, .int .i64 f] 25)).alloc (.cells #[.int .i64 (w : Int), .int .i64 (h : Int), .slice D h dr] 51)) 46 #[.int .i64 0, .int .i64 0, .slice none 0 0])
  have hz_Kz : ((((V.alloc (.cells #[.int .i64 (w : Int), .int .i64 (h : Int), .slice (some ⟨bA, oA, none⟩) n cp] 46)).alloc (.cells #[.int .i64 W, .int .i64 H, .int .i64 B, .string s] 23)).alloc (.cells #[.int .i64 a, .int .i64 b, .int .i64 c, .int .i64 d, .int .i64 e, .int .i64 f] 25)).alloc (.cells #[.int .i64 (w : Int), .int .i64 (h : Int), .slice D h dr] 51)).heap.size = V.heap.size + 1 + 1 + 1 + 1 := by simp
  rw [hz_Kz] at Kz
  clear hz_Kz
  replace Kp := Kp.below hb1 Kp.lt
  replace Ki := Ki.below hb1 Ki.lt
  replace Km := Km.below hb1 Km.lt
  replace Kg := Kg.below hb1 Kg.lt
  replace Kz := Kz.below hb1 Kz.lt
  have hbw : Below V.heap.size V V1 := btrans (by (repeat' (first | exact Below.refl _ _ | exact Below.refl _ _ | refine balloc ?_ _ | refine Below.drew ?_ | refine below_drewN ?_ _ | refine bset ?_ (by first | omega | (simp <;> omega)) _))) hb1
  clear hb1 
  have lKp := Kp.lt
  have cKp0 := Kp.cell 0
  have cKp1 := Kp.cell 1
  have cKp2 := Kp.cell 2
  have lKi := Ki.lt
  have cKi0 := Ki.cell 0
  have cKi1 := Ki.cell 1
  have cKi2 := Ki.cell 2
  have cKi3 := Ki.cell 3
  have lKm := Km.lt
  have cKm0 := Km.cell 0
  have cKm1 := Km.cell 1
  have cKm2 := Km.cell 2
  have cKm3 := Km.cell 3
  have cKm4 := Km.cell 4
  have cKm5 := Km.cell 5
  have lKg := Kg.lt
  have cKg0 := Kg.cell 0
  have cKg1 := Kg.cell 1
  have cKg2 := Kg.cell 2
  have lKz := Kz.lt
  have cKz0 := Kz.cell 0
  have cKz1 := Kz.cell 1
  have cKz2 := Kz.cell 2
  simp only [List.getElem?_toArray, List.getElem?_cons_succ, List.getElem?_cons_zero] at cKp0 cKp1 cKp2 cKi0 cKi1 cKi2 cKi3 cKm0 cKm1 cKm2 cKm3 cKm4 cKm5 cKg0 cKg1 cKg2 cKz0 cKz1 cKz2
  have hv1 := lKz
  go_wp2_with fail
  refine (HM1.out _).mono ?_
  rintro e_ V2 ⟨rfl, hb2⟩
  replace Kp := (Kp.alloc (.cells #[.int .i64 W, .int .i64 H, .int .i64 B, .string s, .int .i64 a, .int .i64 b, .int .i64 c, .int .i64 d, .int .i64 e, .int .i64 f, .int .i64 t] 92))
  replace Ki := (Ki.alloc (.cells #[.int .i64 W, .int .i64 H, .int .i64 B, .string s, .int .i64 a, .int .i64 b, .int .i64 c, .int .i64 d, .int .i64 e, .int .i64 f, .int .i64 t] 92))
  replace Km := (Km.alloc (.cells #[.int .i64 W, .int .i64 H, .int .i64 B, .string s, .int .i64 a, .int .i64 b, .int .i64 c, .int .i64 d, .int .i64 e, .int .i64 f, .int .i64 t] 92))
  replace Kg := (Kg.alloc (.cells #[.int .i64 W, .int .i64 H, .int .i64 B, .string s, .int .i64 a, .int .i64 b, .int .i64 c, .int .i64 d, .int .i64 e, .int .i64 f, .int .i64 t] 92))
  replace Kz := (Kz.alloc (.cells #[.int .i64 W, .int .i64 H, .int .i64 B, .string s, .int .i64 a, .int .i64 b, .int .i64 c, .int .i64 d, .int .i64 e, .int .i64 f, .int .i64 t] 92))
  have Kv := (Blk.new V1 92 #[.int .i64 W, .int .i64 H, .int .i64 B, .string s, .int .i64 a, .int .i64 b, .int .i64 c, .int .i64 d, .int .i64 e, .int .i64 f, .int .i64 t])
  replace Kp := Kp.below hb2 Kp.lt
  replace Ki := Ki.below hb2 Ki.lt
  replace Km := Km.below hb2 Km.lt
  replace Kg := Kg.below hb2 Kg.lt
  replace Kz := Kz.below hb2 Kz.lt
  replace Kv := Kv.below hb2 Kv.lt
  replace hbw : Below V.heap.size V V2 := btrans (by (repeat' (first | refine bset ?_ (by first | omega | (simp <;> omega)) _ | refine balloc ?_ _ | refine Below.drew ?_ | refine below_drewN ?_ _ | exact hbw | exact Below.refl _ _))) hb2
  clear hb2 lKp cKp0 cKp1 cKp2 lKi cKi0 cKi1 cKi2 cKi3 lKm cKm0 cKm1 cKm2 cKm3 cKm4 cKm5 lKg cKg0 cKg1 cKg2 lKz cKz0 cKz1 cKz2 Km
  have lKp := Kp.lt
  have cKp0 := Kp.cell 0
  have cKp1 := Kp.cell 1
  have cKp2 := Kp.cell 2
  have lKi := Ki.lt
  have cKi0 := Ki.cell 0
  have cKi1 := Ki.cell 1
  have cKi2 := Ki.cell 2
  have cKi3 := Ki.cell 3
  have lKg := Kg.lt
  have cKg0 := Kg.cell 0
  have cKg1 := Kg.cell 1
  have cKg2 := Kg.cell 2
  have lKz := Kz.lt
  have cKz0 := Kz.cell 0
  have cKz1 := Kz.cell 1
  have cKz2 := Kz.cell 2
  have lKv := Kv.lt
  have cKv0 := Kv.cell 0
  have cKv1 := Kv.cell 1
  have cKv2 := Kv.cell 2
  have cKv3 := Kv.cell 3
  have cKv4 := Kv.cell 4
  have cKv5 := Kv.cell 5
  have cKv6 := Kv.cell 6
  have cKv7 := Kv.cell 7
  have cKv8 := Kv.cell 8
  have cKv9 := Kv.cell 9
  have cKv10 := Kv.cell 10
  simp only [List.getElem?_toArray, List.getElem?_cons_succ, List.getElem?_cons_zero] at cKp0 cKp1 cKp2 cKi0 cKi1 cKi2 cKi3 cKg0 cKg1 cKg2 cKz0 cKz1 cKz2 cKv0 cKv1 cKv2 cKv3 cKv4 cKv5 cKv6 cKv7 cKv8 cKv9 cKv10
  go_wp2_with fail
  refine ((HM2.out _ hbw)).mono ?_
  rintro e_ V3 ⟨rfl, hb3⟩
  replace Kp := Kp.below hb3 Kp.lt
  replace Ki := Ki.below hb3 Ki.lt
  replace Kg := Kg.below hb3 Kg.lt
  replace Kz := Kz.below hb3 Kz.lt
  replace Kv := Kv.below hb3 Kv.lt
  replace hbw : Below V.heap.size V V3 := btrans (by (repeat' (first | refine bset ?_ (by first | omega | (simp <;> omega)) _ | refine balloc ?_ _ | refine Below.drew ?_ | refine below_drewN ?_ _ | exact hbw | exact Below.refl _ _))) hb3
  clear hb3 lKp cKp0 cKp1 cKp2 lKi cKi0 cKi1 cKi2 cKi3 lKg cKg0 cKg1 cKg2 lKz cKz0 cKz1 cKz2 lKv cKv0 cKv1 cKv2 cKv3 cKv4 cKv5 cKv6 cKv7 cKv8 cKv9 cKv10
  have lKp := Kp.lt
  have cKp0 := Kp.cell 0
  have cKp1 := Kp.cell 1
  have cKp2 := Kp.cell 2
  have fKp0 := Kp.frozen 0
  have fKp1 := Kp.frozen 1
  have fKp2 := Kp.frozen 2
  have lKi := Ki.lt
  have cKi0 := Ki.cell 0
  have cKi1 := Ki.cell 1
  have cKi2 := Ki.cell 2
  have cKi3 := Ki.cell 3
  have lKg := Kg.lt
  have cKg0 := Kg.cell 0
  have cKg1 := Kg.cell 1
  have cKg2 := Kg.cell 2
  have lKz := Kz.lt
  have cKz0 := Kz.cell 0
  have cKz1 := Kz.cell 1
  have cKz2 := Kz.cell 2
  have lKv := Kv.lt
  have cKv0 := Kv.cell 0
  have cKv1 := Kv.cell 1
  have cKv2 := Kv.cell 2
  have cKv3 := Kv.cell 3
  have cKv4 := Kv.cell 4
  have cKv5 := Kv.cell 5
  have cKv6 := Kv.cell 6
  have cKv7 := Kv.cell 7
  have cKv8 := Kv.cell 8
  have cKv9 := Kv.cell 9
  have cKv10 := Kv.cell 10
  simp only [List.getElem?_toArray, List.getElem?_cons_succ, List.getElem?_cons_zero] at cKp0 cKp1 cKp2 cKi0 cKi1 cKi2 cKi3 cKg0 cKg1 cKg2 cKz0 cKz1 cKz2 cKv0 cKv1 cKv2 cKv3 cKv4 cKv5 cKv6 cKv7 cKv8 cKv9 cKv10
  have hv3 := lKv
  go_wp2_with (at_builtin; refine wpList_append_any _ rfl (.tmp 57) (.tmp 59) 44 rfl V3.heap.size 5 i0 (.int .u8 0) 1 1 Try.underlying44 hi0 hz0 hz1 hz2 rfl (by omega) _ 0 [] rfl (own_empty _ _ _ rfl (by omega)) _ (some ⟨bA, oA, none⟩) n cp _ rfl (HP.out.below (by (repeat' (first | refine bset ?_ (by first | omega | (simp <;> omega)) _ | refine balloc ?_ _ | refine Below.drew ?_ | refine below_drewN ?_ _ | exact hbw | exact Below.refl _ _)))).reads (by simp [Value.oneCell']) (by simp [maxLen]; omega) (by omega) (by first | (simp; done) | (simp; omega)) ?_; intro v1 V4 hown1 hg1 _; obtain ⟨g, fc, cs, hv, hg, hB, hfc, hcs, hct, hb4⟩ := appended hnn hown1 hg1 (by (repeat' (first | exact Below.refl _ _ | exact Below.refl _ _ | refine balloc ?_ _ | refine Below.drew ?_ | refine below_drewN ?_ _ | refine bset ?_ (by first | omega | (simp <;> omega)) _))); subst hv; replace Kp := Kp.below hb4 lKp; replace Ki := Ki.below hb4 lKi; replace Kg := Kg.below hb4 lKg; replace Kz := Kz.below hb4 lKz; replace Kv := Kv.below hb4 lKv; replace hbw := btrans hbw hb4; clear hown1 hg1 hb4 lKp cKp0 cKp1 cKp2 fKp0 fKp1 fKp2 lKi cKi0 cKi1 cKi2 cKi3 lKg cKg0 cKg1 cKg2 lKz cKz0 cKz1 cKz2 lKv cKv0 cKv1 cKv2 cKv3 cKv4 cKv5 cKv6 cKv7 cKv8 cKv9 cKv10; have lKp := Kp.lt; have lKi := Ki.lt; have lKg := Kg.lt; have lKz := Kz.lt; have lKv := Kv.lt; have cKg0 := Kg.cell 0; have cKg1 := Kg.cell 1; have cKg2 := Kg.cell 2; have fKp2 := Kp.frozen 2; have cKp2 := Kp.cell 2; simp only [List.getElem?_toArray, List.getElem?_cons_succ, List.getElem?_cons_zero] at cKg0 cKg1 cKg2 cKp2; have HKp := Lib.hid Kp; have HKi := Lib.hid Ki; have HKz := Lib.hid Kz; have HKv := Lib.hid Kv; have HKg := Lib.hid Kg; have HHB := Lib.hid hB; have HCT := Lib.hid hct; have HBW := Lib.hid hbw; clear Kp Ki Kz Kv Kg hB hct hbw)
  have hP0 : PtR V g n V.heap.size (V.heap.size + 1) V1.heap.size (V.heap.size + 1 + 1 + 1 + 1) #[.int .i64 (w : Int), .int .i64 (h : Int), .slice (some ⟨g, 0, none⟩) n fc] #[.int .i64 W, .int .i64 H, .int .i64 B, .string s] #[.int .i64 W, .int .i64 H, .int .i64 B, .string s, .int .i64 a, .int .i64 b, .int .i64 c, .int .i64 d, .int .i64 e, .int .i64 f, .int .i64 t] #[.int .i64 0, .int .i64 0, .slice none 0 0] Y (V4.setCell ⟨V.heap.size, 2, none⟩ (.slice (some ⟨g, 0, none⟩) n fc)) :=
    ⟨cs, HHB.out.far (by first | (simp; done) | (simp; omega)) _, Holds.of_take HP.out (by omega) HCT.out, HKp.out.set_ 2 _, HKi.out.far (by first | (simp; done) | (simp; omega)) _, HKv.out.far (by first | (simp; done) | (simp; omega)) _, HKz.out.far (by first | (simp; done) | (simp; omega)) _, by omega, by omega, by omega, by omega, by omega, bset HBW.out (by simp) _⟩
  obtain ⟨Rel, hRel⟩ : ∃ Rel : Nat → World → Prop, (fun p => PtR V g n V.heap.size (V.heap.size + 1) V1.heap.size (V.heap.size + 1 + 1 + 1 + 1) #[.int .i64 (w : Int), .int .i64 (h : Int), .slice (some ⟨g, 0, none⟩) n fc] #[.int .i64 W, .int .i64 H, .int .i64 B, .string s] #[.int .i64 W, .int .i64 H, .int .i64 B, .string s, .int .i64 a, .int .i64 b, .int .i64 c, .int .i64 d, .int .i64 e, .int .i64 f, .int .i64 t] #[.int .i64 0, .int .i64 0, .slice none 0 0] (pntB w R S (greyV B) Y p)) = Rel := ⟨_, rfl⟩
  have HPT := Lib.hid (hRel ▸ HPM.out g V.heap.size (V.heap.size + 1) V1.heap.size (V.heap.size + 1 + 1 + 1 + 1) #[.int .i64 (w : Int), .int .i64 (h : Int), .slice (some ⟨g, 0, none⟩) n fc] #[.int .i64 W, .int .i64 H, .int .i64 B, .string s] #[.int .i64 W, .int .i64 H, .int .i64 B, .string s, .int .i64 a, .int .i64 b, .int .i64 c, .int .i64 d, .int .i64 e, .int .i64 f, .int .i64 t] #[.int .i64 0, .int .i64 0, .slice none 0 0])
  have HST := Lib.hid (show Rel 0 (V4.setCell ⟨V.heap.size, 2, none⟩ (.slice (some ⟨g, 0, none⟩) n fc)) by rw [← hRel]; exact hP0.ext fun j _ => HZ.out j)
  have HEND := Lib.hid (show ∀ wr, Rel (h * w) wr → PtR V g n V.heap.size (V.heap.size + 1) V1.heap.size (V.heap.size + 1 + 1 + 1 + 1) #[.int .i64 (w : Int), .int .i64 (h : Int), .slice (some ⟨g, 0, none⟩) n fc] #[.int .i64 W, .int .i64 H, .int .i64 B, .string s] #[.int .i64 W, .int .i64 H, .int .i64 B, .string s, .int .i64 a, .int .i64 b, .int .i64 c, .int .i64 d, .int .i64 e, .int .i64 f, .int .i64 t] #[.int .i64 0, .int .i64 0, .slice none 0 0] (paintB w R S (greyV B) Y) wr from fun wr x => by rw [← hRel] at x; exact x.ext fun j hj => HALL.out j (by have := HN.out; omega))
  clear HKp HKi HKz HKv HKg HHB HCT HBW hP0 hRel HPM hcs
  go_loopw [65] (fun kv wr => ∃ k : Nat, k ≤ h ∧ kv = .int .i64 (k : Int) ∧ Rel (k * w) wr) (fun kv _ => h - (intOf kv).toNat)
  case atStart => exact ⟨0, by omega, rfl, by rw [Nat.zero_mul]; exact HST.out⟩
  case round =>
    clear HST
    obtain ⟨k, hk, rfl, hE⟩ := hrel
    by_cases hlt : k < h
    · have d1 : decide ((k : Int) < (h : Int)) = true := by simp; omega
      obtain ⟨bp, bi, bv, bw, bne, bgl, bgt⟩ := HPT.out.blocks _ _ hE
      obtain ⟨a1, ha⟩ := HR.out
      obtain ⟨x, o, rfl, hx, ha⟩ := ha (by omega)
      obtain ⟨l1, A1, c1, q0, r1⟩ := ha k hlt
      have q1 := (bw.cell (p := ⟨x, o + k, none⟩) hx).trans q0
      have hmay := rowsOf_may w R k
      have hend := reach_end hmay (by omega)
      have hrun : ∀ t (ht : t < (rowsOf w R k).length), ∃ a b : Nat, (rowsOf w R k)[t].1 = (a : Int) ∧ (rowsOf w R k)[t].2 = (b : Int) ∧ (reach (rowsOf w R k) t).toNat ≤ a ∧ a < b ∧ b ≤ w ∧ (reach (rowsOf w R k) (t + 1)).toNat = b ∧
          (∀ i, (reach (rowsOf w R k) t).toNat ≤ i → i < a → R k i = false) ∧ (∀ i, a ≤ i → i < b → R k i = true) := by
        intro t ht
        obtain ⟨e1, e2, e3, e4⟩ := reach_le hmay ht
        refine ⟨(rowsOf w R k)[t].1.toNat, (rowsOf w R k)[t].2.toNat, by omega, by omega, by omega, by omega, by omega, by rw [reach_succ ht], fun i h1 h2 => ?_, fun i h1 h2 => ?_⟩
        · exact row_false (by omega) (in_gap hmay (t := t) (by omega) (by omega) (fun _ => by omega))
        · exact row_true (in_run ht (by omega) (by omega))
      have hlast : ∀ i, (reach (rowsOf w R k) (rowsOf w R k).length).toNat ≤ i → i < w → R k i = false := fun i h1 h2 => row_false h2 (in_gap hmay (t := (rowsOf w R k).length) (by omega) (Nat.le_refl _) (fun h => absurd h (by omega)))
      obtain ⟨L, hL⟩ : ∃ L, rowsOf w R k = L := ⟨_, rfl⟩
      rw [hL] at l1 q0 q1 r1 hend hrun hlast
      clear hmay hL
      obtain ⟨ns, hns⟩ : ∃ ns, L.length = ns := ⟨_, rfl⟩
      rw [hns] at l1 q0 q1 r1 hend hlast
      obtain ⟨m, hm⟩ : ∃ m, k * w = m := ⟨_, rfl⟩
      have hm2 : m ≤ 4096 := by rw [← hm]; have := HW.out; have := HH.out; exact Nat.mul_le_mul (show k ≤ 64 by omega) (show w ≤ 64 by omega)
      have hm3 : (k : Int) * (w : Int) = (m : Int) := by rw [← hm]; push_cast; rfl
      have hk64 : k < 64 := by have := HH.out; omega
      have HE := Lib.hid hE
      have HR1 := Lib.hid r1
      have HRN := Lib.hid hrun
      have HLS := Lib.hid hlast
      have HEN := Lib.hid hend
      have HNS := Lib.hid hns
      have HM := Lib.hid hm
      clear ha a1 hE hns r1 hrun hlast q0 hend hm bp bi bv bw bne bgl bgt
      go_wp2_with fail
      go_loopw [72] (fun tv wi => ∃ t : Nat, t ≤ ns ∧ tv = .int .i64 (t : Int) ∧ Rel (k * w + (reach L t).toNat) wi) (fun tv _ => ns - (intOf tv).toNat)
      case atStart => exact ⟨0, by omega, rfl, HE.out⟩
      case round =>
        clear HE
        obtain ⟨t, ht, rfl, hE⟩ := hrel
        by_cases htl : t < ns
        · have d2 : decide ((t : Int) < (ns : Int)) = true := by simp; omega
          obtain ⟨a, b, ha, hb, h1, h2, h3, h4, h5, h6⟩ := HRN.out t (by rw [HNS.out]; exact htl)
          obtain ⟨bp, bi, bv, bw, bne, bgl, bgt⟩ := HPT.out.blocks _ _ hE
          obtain ⟨p1, p2, p3⟩ := HR1.out.below bw
          obtain ⟨y, oy, rfl, hy, hc⟩ := p3 (by omega)
          obtain ⟨c1, c2⟩ := hc t (by rw [HNS.out]; exact htl)
          rw [ha] at c1
          rw [hb] at c2
          have hE2 : Rel (k * w + a) (wr.alloc (.cells #[.int .i64 (a : Int), .int .i64 (b : Int)] 109)) := HPT.out.keep _ _ _ (HPT.out.skips hlt hE h1 (by omega) h5) (by (repeat' (first | exact Below.refl _ _ | exact Below.refl _ _ | refine balloc ?_ _ | refine Below.drew ?_ | refine below_drewN ?_ _ | refine bset ?_ (by first | omega | (simp <;> omega)) _)))
          have hbx := Blk.new wr 109 #[.int .i64 (a : Int), .int .i64 (b : Int)]
          have hne : g < wr.heap.size := bgt
          have HE2 := Lib.hid hE2
          have HBX := Lib.hid hbx
          have H4 := Lib.hid h4
          have H6 := Lib.hid h6
          have H3 := Lib.hid h3
          clear hE hc p1 p2 p3 h1 ha hb h5 hE2 hbx h4 h6 bp bi bv bw bne bgl bgt
          obtain ⟨q, hq⟩ : ∃ q, wr.heap.size = q := ⟨_, rfl⟩
          go_wp2_with fail
          rw [hq] at HBX hne
          go_loopw [16] (fun iv wn => ∃ i : Nat, a ≤ i ∧ i ≤ b ∧ iv = .int .i64 (i : Int) ∧ Rel (k * w + i) wn ∧ Blk wn q 109 #[.int .i64 (a : Int), .int .i64 (b : Int)]) (fun iv _ => b - (intOf iv).toNat)
          case atStart => exact ⟨a, by omega, by omega, rfl, HE2.out, HBX.out⟩
          case round =>
            clear HE2 HBX
            obtain ⟨i, hia, hib, rfl, hE, hbx⟩ := hrel
            have f1 := hbx.cell 1
            simp only [List.getElem?_toArray, List.getElem?_cons_succ, List.getElem?_cons_zero] at f1
            by_cases hil : i < b
            · have d3 : decide ((i : Int) < (b : Int)) = true := by simp; omega
              have hi64 : i < 64 := by have := HW.out; omega
              obtain ⟨bp, bi, bv, bw, bne, bgl, bgt⟩ := HPT.out.blocks _ _ hE
              have cv0 := bv.cell 0
              have cv1 := bv.cell 1
              have cv2 := bv.cell 2
              have cv3 := bv.cell 3
              have cv4 := bv.cell 4
              have cv5 := bv.cell 5
              have cv6 := bv.cell 6
              have cv7 := bv.cell 7
              have cv8 := bv.cell 8
              have cv9 := bv.cell 9
              have cv10 := bv.cell 10
              simp only [List.getElem?_toArray, List.getElem?_cons_succ, List.getElem?_cons_zero] at cv0 cv1 cv2 cv3 cv4 cv5 cv6 cv7 cv8 cv9 cv10
              have lx := hbx.lt
              have HE := Lib.hid hE
              have HBX := Lib.hid hbx
              have hvb := HSB.out k i
              obtain ⟨v, hv⟩ : ∃ v, S k i = v := ⟨_, rfl⟩
              have HA1 := Lib.hid (fun W' => HA.out k i W')
              simp only [hv] at HA1
              rw [hv] at hvb
              have HV := Lib.hid hv
              clear hE hbx hv bp bi bv bw bne bgl bgt
              go_wp2_with fail
              refine (HA1.out _).mono ?_
              rintro e_ w2 ⟨rfl, hb1⟩
              have hE := HPT.out.keep _ _ _ HE.out hb1
              have hbx := HBX.out.below hb1 lx
              clear HE HBX hb1 HA1 cv0 cv1 cv2 cv3 cv4 cv5 cv6 cv7 cv8 cv9 cv10 f1 lx
              by_cases hv0 : v < 0
              · have d4 : decide (v < 0) = true := by simp; omega
                have HN2 := Lib.hid (HPT.out.skip k i _ hlt (by have := H3.out; omega) (.inr (by rw [HV.out]; exact hv0)) hE)
                have HBX := Lib.hid hbx
                clear hE hbx
                go_wp2_with fail
                go_roundw
                case rel => exact ⟨i + 1, by omega, by omega, by go_num, HN2.out, HBX.out⟩
                case measure => simp [intOf]; omega
              · have d4 : decide (v < 0) = false := by simp; omega
                obtain ⟨bp, bi, bv, bw, bne, bgl, bgt⟩ := HPT.out.blocks _ _ hE
                obtain ⟨pp, hpp⟩ : ∃ pp, 3 * (k * w + i) = pp := ⟨_, rfl⟩
                have hpn : pp + 3 ≤ n := by have := HPIX.out k i hlt (by have := H3.out; omega); have := HN.out; omega
                have HN2 := Lib.hid (HPT.out.put k i pp _ hlt (by have := H3.out; omega) (H6.out i hia hil) (by rw [HV.out]; omega) hpp hE)
                rw [HV.out] at HN2
                have hgb := greyV_bd HBV.out (show 0 ≤ v by omega) hvb.2
                obtain ⟨gv, hgv⟩ : ∃ gv, greyV B v = gv := ⟨_, rfl⟩
                rw [hgv] at HN2 hgb
                have hpb := pow_bd HBV.out
                have hquo : (v * 255).tdiv ((2 : Int) ^ B.toNat - 1) = gv := by
                  rw [← hgv, Int.tdiv_eq_ediv_of_nonneg (by omega)]; rfl
                have hB0 : ¬ B < 0 := by rcases HBV.out with h | h | h | h <;> omega
                have hB1 : 0 ≤ B := by omega
                have hB2 : B ≤ 8 := by rcases HBV.out with h | h | h | h <;> omega
                have hBsh : (B.toNat : Int) = B := by omega
                obtain ⟨pw, hpw⟩ : ∃ pw, (2 : Int) ^ B.toNat = pw := ⟨_, rfl⟩
                rw [hpw] at hpb hquo hvb
                have hpz : ¬ pw - 1 = 0 := by omega
                have hgw : IntKind.u8.wrap gv = gv := by simp only [IntKind.wrap, IntKind.signed, IntKind.bits]; simp; omega
                have hpi : 3 * ((m : Int) + (i : Int)) = (pp : Int) := by rw [← hpp, HM.out]; push_cast; rfl
                have kp0 := bp.cell 0
                have kp2 := bp.cell 2
                have ki2 := bi.cell 2
                simp only [List.getElem?_toArray, List.getElem?_cons_succ, List.getElem?_cons_zero] at kp0 kp2 ki2
                obtain ⟨⟨y0, gc0⟩, gf0⟩ := HPT.out.cell _ _ pp hE (by omega)
                obtain ⟨⟨y1, gc1⟩, gf1⟩ := HPT.out.cell _ _ (pp + 1) hE (by omega)
                obtain ⟨⟨y2, gc2⟩, gf2⟩ := HPT.out.cell _ _ (pp + 2) hE (by omega)
                have hqg : q ≠ g := by omega
                have HBX := Lib.hid (((hbx.far (p := ⟨g, pp, none⟩) hqg (.int .u8 gv)).far (p := ⟨g, pp + 1, none⟩) hqg (.int .u8 gv)).far (p := ⟨g, pp + 2, none⟩) hqg (.int .u8 gv))
                have bne2 : ¬ V.heap.size = g := bne
                have bne3 : ¬ g = V.heap.size := fun e => bne e.symm
                have jn0 : (pp : Int) < (n : Int) := by omega
                have jn1 : (pp : Int) + 1 < (n : Int) := by omega
                have jn2 : (pp : Int) + 2 < (n : Int) := by omega
                have jt1 : ((pp : Int) + 1).toNat = pp + 1 := by omega
                have jt2 : ((pp : Int) + 2).toNat = pp + 2 := by omega
                have jw1 : IntKind.i64.wrap ((pp : Int) + 1) = (pp : Int) + 1 := by simp only [IntKind.wrap, IntKind.signed, IntKind.bits]; simp; omega
                have jw2 : IntKind.i64.wrap ((pp : Int) + 2) = (pp : Int) + 2 := by simp only [IntKind.wrap, IntKind.signed, IntKind.bits]; simp; omega
                clear hE hbx hpp hgv bp bi bv bw bne
                go_wp2_with fail
                go_region
                go_wp2_with fail
                go_roundw
                case rel => exact ⟨i + 1, by omega, by omega, by go_num, HPT.out.keep _ _ _ HN2.out (by (repeat' (first | exact Below.refl _ _ | exact Below.refl _ _ | refine balloc ?_ _ | refine Below.drew ?_ | refine below_drewN ?_ _ | refine bset ?_ (by first | omega | (simp <;> omega)) _))), HBX.out.drew⟩
                case measure => simp [intOf]; omega
            · obtain rfl : i = b := by omega
              have d3 : decide ((i : Int) < (i : Int)) = false := by simp
              have HE := Lib.hid hE
              clear hE hbx
              go_wp2_with fail
              go_roundw
              case rel => exact ⟨t + 1, by omega, by go_num, by rw [H4.out]; exact HE.out⟩
              case measure => simp [intOf]; omega
        · obtain rfl : t = ns := by omega
          have d2 : decide ((t : Int) < (t : Int)) = false := by simp
          have hE2 := HPT.out.skips hlt hE (by have := HEN.out; omega) (Nat.le_refl _) HLS.out
          have HE := Lib.hid hE2
          clear hE hE2
          go_wp2_with fail
          go_roundw
          case rel => exact ⟨k + 1, by omega, by go_num, by rw [Nat.add_mul, Nat.one_mul]; exact HE.out⟩
          case measure => simp [intOf]; omega
    · obtain rfl : k = h := by omega
      have d1 : decide ((k : Int) < (k : Int)) = false := by simp
      have hP := HEND.out _ hE
      obtain ⟨cs, k1, k2, k3, k4, k5, k6, g1, g2, g3, g4, g5, k7⟩ := hP
      have a0 := k3.cell 0
      have a1 := k3.cell 1
      have a2 := k3.cell 2
      have z0 := k6.cell 0
      have z1 := k6.cell 1
      have z2 := k6.cell 2
      have y0 := k6.frozen 0
      have y1 := k6.frozen 1
      have y2 := k6.frozen 2
      simp only [List.getElem?_toArray, List.getElem?_cons_succ, List.getElem?_cons_zero] at a0 a1 a2 z0 z1 z2
      have H1 := Lib.hid k1
      have H2 := Lib.hid k2
      have HKz := Lib.hid k6
      have HBW := Lib.hid k7
      clear k1 k2 k3 k4 k5 k6 k7 hE
      go_wp2_with fail
      have K := ((HKz.out.set_ 0 (.int .i64 (w : Int))).set_ 1 (.int .i64 (k : Int))).set_ 2 (.slice (some ⟨g, 0, none⟩) n fc)
      refine ret_struct2 (g := (V.heap.size + 1 + 1 + 1 + 1)) (t := 46) (cs := #[.int .i64 (w : Int), .int .i64 (k : Int), .slice (some ⟨g, 0, none⟩) n fc]) rfl rfl ?_ Try.underlying46 rfl rfl rfl ?_
      · exact K
      · exact ⟨g, fc, g1, rfl, H2.out.pg (((H1.out.far (p := ⟨_, 0, none⟩) g5.symm _).far (p := ⟨_, 1, none⟩) g5.symm _).far (p := ⟨_, 2, none⟩) g5.symm _) hfc, by (repeat' (first | refine bset ?_ (by first | omega | (simp <;> omega)) _ | refine balloc ?_ _ | refine Below.drew ?_ | refine below_drewN ?_ _ | exact HBW.out | exact Below.refl _ _))⟩
end Go.Proofs.Ytegpjjkbbdfggaa.im

/-
  Layer 36: the contract of New. (PRUNE)
-/
namespace Go.Proofs.Ytegpjjkbbdfggaa.ik
set_option linter.unusedVariables false
set_option maxRecDepth 100000
set_option linter.unusedSimpArgs false
open Go.RowKit bs

/-- behind k rounds of New's loop: block g holds the bytes, block g + 1 the page, block r the result's place -/
def NewRel (W0 : World) (g r k n : Nat) (pg : Array Value) (wr : World) : Prop :=
  ∃ cs : Array Value, Blk wr g 5 cs ∧ cs.size = n ∧ (∀ j, j < k → cs[j]? = some (.int .u8 255)) ∧ Blk wr (g + 1) 46 pg ∧
    Blk wr r 46 #[.int .i64 0, .int .i64 0, .slice none 0 0] ∧ r < g ∧ W0.heap.size ≤ r ∧ Below W0.heap.size W0 wr
theorem NewRel.start (w : World) (n : Nat) (pg : Array Value) : NewRel w (w.heap.size + 1) w.heap.size 0 n pg
    (((w.alloc (.cells #[.int .i64 0, .int .i64 0, .slice none 0 0] 46)).alloc (.cells (madeCells #[.int .u8 0] n) 5)).alloc (.cells pg 46)) := by
  have b0 := Blk.new w 46 #[.int .i64 0, .int .i64 0, .slice none 0 0]
  have b1 := Blk.new (w.alloc (.cells #[.int .i64 0, .int .i64 0, .slice none 0 0] 46)) 5 (madeCells #[.int .u8 0] n)
  have b2 := Blk.new ((w.alloc (.cells #[.int .i64 0, .int .i64 0, .slice none 0 0] 46)).alloc (.cells (madeCells #[.int .u8 0] n) 5)) 46 pg
  have s1 : ∀ (u : World) (o : Obj), (u.alloc o).heap.size = u.heap.size + 1 := fun u o => by simp
  simp only [s1] at b1 b2
  exact ⟨_, b1.alloc _, size_madeCells _ _, fun j hj => absurd hj (by omega), b2, (b0.alloc _).alloc _, by omega, Nat.le_refl _, by (repeat' (first | exact Below.refl _ _ | exact Below.refl _ _ | refine balloc ?_ _ | refine Below.drew ?_ | refine below_drewN ?_ _ | refine bset ?_ (by first | omega | (simp <;> omega)) _))⟩
theorem NewRel.step {W0 wr : World} {g r k n : Nat} {pg : Array Value} (h : NewRel W0 g r k n pg wr) (hk : k < n) : NewRel W0 g r (k + 1) n pg (wr.setCell ⟨g, k, none⟩ (.int .u8 255)) := by
  obtain ⟨cs, h1, h2, h3, h4, h5, h6, h7, h8⟩ := h
  refine ⟨_, h1.set_ k _, by simp [h2], fun j hj => ?_, h4.far (by simp) _, h5.far (by show r ≠ g; omega) _, h6, h7, bset h8 (by show W0.heap.size ≤ g; omega) _⟩
  rw [Array.getElem?_setIfInBounds]
  by_cases hjk : k = j
  · subst hjk; simp [h2, hk]
  · simp [hjk, h3 j (by omega)]
theorem NewRel.cell {W0 wr : World} {g r k n : Nat} {pg : Array Value} (h : NewRel W0 g r k n pg wr) (hk : k < n) : ∃ v, wr.cell? ⟨g, k, none⟩ = some v := by
  obtain ⟨cs, h1, h2, _⟩ := h
  exact ⟨cs[k], by rw [h1.cell]; exact Array.getElem?_eq_getElem (by omega)⟩

theorem new_yes (V G : Nat) (w : World) (hV : 1 ≤ V ∧ V ≤ 64) (hG : 1 ≤ G ∧ G ≤ 64) :
    Calls Try.prog 35 #[.int .i64 (V : Int), .int .i64 (G : Int)] w fun e w' => ∃ A n c, e = .returned (.tuple #[.agg #[.int .i64 V, .int .i64 G, .slice A n c], .int .i64 0]) ∧
      Bytes w' A n c (List.replicate (3 * (V * G)) 255) ∧ Below w.heap.size w w' := by
  have s1 : sideB (V : Int) = true := sideB_true (by omega) (by omega)
  have s2 : sideB (G : Int) = true := sideB_true (by omega) (by omega)
  have hq : V * G ≤ 4096 := Nat.mul_le_mul (show V ≤ 64 by omega) (show G ≤ 64 by omega)
  obtain ⟨v0, v1⟩ := hV
  obtain ⟨g0, g1⟩ := hG
  obtain ⟨n, hn⟩ : ∃ n, n = 3 * (V * G) := ⟨_, rfl⟩
  have hm : 3 * (V : Int) * (G : Int) = (n : Int) := by rw [hn]; push_cast; rw [Int.mul_assoc]
  rw [← hn]
  have hn9 : n ≤ 12288 := by omega
  have HN := Lib.hid hn
  clear hn
  obtain ⟨i0, hi, hz0, hz1, hz2⟩ := info_parts (show (Try.prog.info? 5).map (fun i => (i.zero, i.size, i.bytes)) = some (some (.int .u8 0), 1, 1) by kernel_rfl)
  have hmk := fun W => run_make_rowN (P := Try.prog) 44 5 i0 (.int .u8 0) Try.underlying44 hi hz0 .i64 .i64 n n (Nat.le_refl _) (by rw [hz2]; omega) (by omega) W
  simp only [hz1, Nat.mul_one] at hmk
  go_enter Try.func35, Try.ntmps35
  go_wp2_with (go_at_call 73; refine (side_any _ _).mono ?_; rintro e w' ⟨rfl, rfl⟩)
  go_loopw [28] (fun c wr => ∃ k : Nat, k ≤ n ∧ c = .int .i64 k ∧ NewRel w (w.heap.size + 1) w.heap.size k n #[.int .i64 V, .int .i64 G, .slice (some ⟨w.heap.size + 1, 0, none⟩) n n] wr) (fun c _ => n - (intOf c).toNat)
  case atStart => exact ⟨0, by omega, rfl, NewRel.start w n _⟩
  case round =>
    obtain ⟨k, hk, rfl, hr⟩ := hrel
    by_cases hlt : k < n
    · obtain ⟨v, hv⟩ := hr.cell hlt
      have hnext := hr.step hlt
      obtain ⟨cs, B1, z1, _, B2, B3, _, _, hbw⟩ := hr
      have f1 := B1.frozen k
      have p2 := B2.cell 2
      simp only [List.getElem?_toArray, List.getElem?_cons_succ, List.getElem?_cons_zero] at p2
      clear B1 B2 B3 z1
      go_wp2_with fail
      go_roundw
      case rel => exact ⟨k + 1, by omega, by go_num, hnext⟩
      case measure => simp [intOf]; omega
    · obtain rfl : k = n := by omega
      obtain ⟨cs, B1, z1, hcs, B2, B3, hrg, hr0, hbw⟩ := hr
      have p0 := B2.cell 0
      have p1 := B2.cell 1
      have p2 := B2.cell 2
      have r0 := B3.cell 0
      have r1 := B3.cell 1
      have r2 := B3.cell 2
      have q0 := B3.frozen 0
      have q1 := B3.frozen 1
      have q2 := B3.frozen 2
      simp only [List.getElem?_toArray, List.getElem?_cons_succ, List.getElem?_cons_zero] at p0 p1 p2 r0 r1 r2
      go_wp2_with fail
      have K := (((B3.set_ 0 (.int .i64 V)).set_ 1 (.int .i64 G)).set_ 2 (.slice (some ⟨w.heap.size + 1, 0, none⟩) k k))
      refine ret_struct2 (g := w.heap.size) (t := 46) (cs := #[.int .i64 V, .int .i64 G, .slice (some ⟨w.heap.size + 1, 0, none⟩) k k]) rfl rfl ?_ Try.underlying46 rfl rfl rfl ?_
      · first | exact K | exact K.drew
      · refine ⟨_, _, _, rfl, ?_, by (repeat' (first | exact hbw | exact Below.refl _ _ | refine balloc ?_ _ | refine Below.drew ?_ | refine below_drewN ?_ _ | refine bset ?_ (by first | omega | (simp <;> omega)) _))⟩
        refine Bytes.of_blk (((B1.far ?_ _).far ?_ _).far ?_ _) (by simp) (Nat.le_refl _) (fun j hj => ?_)
        · simp
        · simp
        · simp
        · rw [hcs j (by simpa using hj)]; simp
end Go.Proofs.Ytegpjjkbbdfggaa.ik

/-
  Layer 36: known() returns true; the law InkBlends. (PRUNE)
-/
namespace Go.Proofs.Ytegpjjkbbdfggaa.ik
set_option linter.unusedVariables false
set_option linter.unusedSimpArgs false
open Go.RowKit bs

theorem new_any (V G : Int) (w : World) (v0 : 1 ≤ V) (v1 : V ≤ 64) (g0 : 1 ≤ G) (g1 : G ≤ 64) :
    Calls Try.prog 35 #[.int .i64 V, .int .i64 G] w fun e w' => ∃ A n c, e = .returned (.tuple #[.agg #[.int .i64 V, .int .i64 G, .slice A n c], .int .i64 0]) ∧
      Bytes w' A n c (List.replicate (3 * (V.toNat * G.toNat)) 255) ∧ Below w.heap.size w w' := by
  obtain ⟨v, rfl⟩ := Int.eq_ofNat_of_zero_le (show 0 ≤ V by omega)
  obtain ⟨g, rfl⟩ := Int.eq_ofNat_of_zero_le (show 0 ≤ G by omega)
  exact new_yes v g w (by omega) (by omega)

theorem at_any (W H : Int) (A : Option Addr) (n c : Nat) (bs : List UInt8) (i j : Int) (w : World) (hr : Bytes w A n c bs) (hm : mayB W H n = true) (i0 : 0 ≤ i) (hi : i < W) (j0 : 0 ≤ j) (hj : j < H) :
    Calls Try.prog 36 #[.agg #[.int .i64 W, .int .i64 H, .slice A n c], .int .i64 i, .int .i64 j] w fun e w' => ∃ r g b : UInt8,
      e = .returned (.tuple #[.agg #[.int .u8 (r.toNat : Int), .int .u8 (g.toNat : Int), .int .u8 (b.toNat : Int), .int .u8 255], .bool true]) ∧
      r = bs.getD (3 * (j.toNat * W.toNat + i.toNat)) 0 ∧ g = bs.getD (3 * (j.toNat * W.toNat + i.toNat) + 1) 0 ∧ b = bs.getD (3 * (j.toNat * W.toNat + i.toNat) + 2) 0 ∧ Below w.heap.size w w' := by
  obtain ⟨i, rfl⟩ := Int.eq_ofNat_of_zero_le i0
  obtain ⟨j, rfl⟩ := Int.eq_ofNat_of_zero_le j0
  exact (at_yes W H A n c bs i j w hr hm hi hj).mono fun e w' ⟨he, hb⟩ => ⟨_, _, _, he, rfl, rfl, rfl, hb⟩

end Go.Proofs.Ytegpjjkbbdfggaa.ik

/-
  A call hands back one value: two contracts of one call at one world tell the same value. And an edge may be added to a drawing region, from the first of its last operations to a move or an extract ahead of it.
-/
namespace Go.Proofs.Ytegpjjkbbdfggaa.bs
set_option linter.unusedVariables false
set_option linter.unusedSimpArgs false
open Go.RowKit

/-- a caller that stops as soon as the value has come -/
def stopper : Frame := { fn := 0, tmps := #[], todo := [.extern "" #[], .code (.cond (.const undef) .skip .skip)], defers := [], mode := .run, kind := .normal }

theorem stopper_ends (P : Program) (v : Value) (w : World) : ∃ o, step P (lone (stopper.finish v) [] w) = .ended o w :=
  ⟨_, step_lone_ended (by simp [stepG, stepG.exec, stopper, Frame.finish, Frame.eval, undef]; rfl)⟩

theorem runN_ended {P : Program} {m s : Machine} {o : Outcome} {w : World} (hs : step P s = .ended o w) : ∀ n, runN P n m = .next s → ∀ k, runN P (n + 1 + k) m = .ended o w := by
  intro n
  induction n generalizing m with
  | zero =>
    intro h k
    simp only [runN, Stepped.next.injEq] at h
    subst h
    rw [show 0 + 1 + k = k + 1 by omega]
    simp only [runN, hs]
  | succ n ih =>
    intro h k
    rw [show n + 1 + 1 + k = (n + 1 + k) + 1 by omega]
    simp only [runN] at h ⊢
    cases h1 : step P m with
    | next m1 =>
      rw [h1] at h
      exact ih h k
    | ended o' w' => rw [h1] at h; cases h

theorem steps_same {P : Program} {m s1 s2 : Machine} {o1 o2 : Outcome} {w1 w2 : World} (h1 : Steps P m s1) (h2 : Steps P m s2) (e1 : step P s1 = .ended o1 w1) (e2 : step P s2 = .ended o2 w2) : s1 = s2 := by
  obtain ⟨n1, h1⟩ := h1
  obtain ⟨n2, h2⟩ := h2
  rcases Nat.lt_trichotomy n1 n2 with h | h | h
  · have := runN_ended e1 n1 h1 (n2 - n1 - 1)
    rw [show n1 + 1 + (n2 - n1 - 1) = n2 by omega, h2] at this
    cases this
  · subst h
    rw [h1] at h2
    exact Stepped.next.inj h2
  · have := runN_ended e2 n2 h2 (n1 - n2 - 1)
    rw [show n2 + 1 + (n1 - n2 - 1) = n1 by omega, h1] at this
    cases this

theorem calls_same {P : Program} {f : FuncId} {args : Array Value} {w : World} {v1 v2 : Value} {A B : World → Prop} (h1 : Calls P f args w fun e w' => e = .returned v1 ∧ A w')
    (h2 : Calls P f args w fun e w' => e = .returned v2 ∧ B w') : v1 = v2 := by
  obtain ⟨_, w1, f1, ⟨rfl, _⟩, s1, _, l1⟩ := h1 [stopper]
  obtain ⟨_, w2, f2, ⟨rfl, _⟩, s2, _, l2⟩ := h2 [stopper]
  have t1 := Steps.trans s1 (Steps.one (step_leave_returned l1))
  have t2 := Steps.trans s2 (Steps.one (step_leave_returned l2))
  obtain ⟨o1, e1⟩ := stopper_ends P v1 w1
  obtain ⟨o2, e2⟩ := stopper_ends P v2 w2
  have := steps_same t1 t2 e1 e2
  exact (by simpa [lone, stopper, Frame.finish] using this : w1 = w2 ∧ v1 = v2).2

section
variable {P : Program} {ops : Array Oper} {md : Region.Mode} {C C1 C2 : World → Prop}

theorem quietAt_same {o : Oper} {a : Act} {w : World} {v1 v2 : Value} (h1 : o.quietAt P a C1 w v1) (h2 : o.quietAt P a C2 w v2) : v1 = v2 := by
  unfold Oper.quietAt at h1 h2
  generalize (execOp a.eval o).run P w = r at *
  cases r with
  | ok n w' =>
    cases n <;> simp only [Oper.quietUpon] at h1 h2
    case value u => rw [← h1.2, ← h2.2]
    case skip => rw [h1.2, h2.2]
    case enter f args => exact calls_same h1.2 h2.2
  | halt x w' => simp only [Oper.quietUpon] at h1

theorem yields_same {o : Oper} {a : Act} {v1 v2 : Value} (h1 : YieldsIn P ops C1 o v1 a) (h2 : YieldsIn P ops C2 o v2 a) (hw : ∃ w, C1 w ∧ C2 w) : v1 = v2 := by
  obtain ⟨w, c1, c2⟩ := hw
  rcases h1 with ⟨a1, b1⟩ | ⟨a1, b1⟩ <;> rcases h2 with ⟨a2, b2⟩ | ⟨a2, b2⟩
  · exact quietAt_same (b1 w c1) (b2 w c2)
  · rw [a1] at a2; cases a2
  · rw [a1] at a2; cases a2
  · rw [b1, b2]
end
/-! ### An edge more: from operation N to moves and extracts that may come late -/

def isLate (o : Oper) : Bool := match o.op with
  | .move _ => true
  | .assign _ => true
  | .extract _ _ => true
  | _ => false
def withLate (ops : Array Oper) (N : Nat) (late : List Nat) : Array Oper :=
  match ops[N]? with
  | some o => ops.setIfInBounds N { o with after := o.after ++ (late.map fun i => (⟨i, .data⟩ : Edge)).toArray }
  | none => ops
def lateB (ops : Array Oper) (N : Nat) (late : List Nat) : Bool :=
  Region.noSelect ops && decide (N < ops.size) && late.all fun i => decide (i ≠ N) && match ops[i]? with
    | some oi => isLate oi && oi.after.all (fun e => !Region.binds .any e || Region.waitsFor .any ops N e.on) &&
      (List.range ops.size).all fun j => j == i || Region.waitsFor .any ops N j || match ops[j]? with
        | some oj => oj.after.any (fun e => Region.binds .any e && e.on == i) || oi.apart ops oj
        | none => true
    | none => false

section
variable {P : Program} {ops : Array Oper} {Q : Exit → Act → World → Prop} {N : Nat} {late : List Nat}

theorem late_ne {i : Nat} (h : i ≠ N) : (withLate ops N late)[i]? = ops[i]? := by
  unfold withLate
  split
  · exact Array.getElem?_setIfInBounds_ne (Ne.symm h)
  · rfl
theorem late_at {o : Oper} (h : ops[N]? = some o) : (withLate ops N late)[N]? = some { o with after := o.after ++ (late.map fun i => (⟨i, .data⟩ : Edge)).toArray } := by
  unfold withLate
  simp only [h]
  rw [Array.getElem?_setIfInBounds_self_of_lt (Array.getElem?_eq_some_iff.1 h).1]
theorem late_size : (withLate ops N late).size = ops.size := by
  unfold withLate
  split <;> simp
theorem late_yielded : yielded (withLate ops N late) = yielded ops := by
  funext tmps j
  unfold yielded
  by_cases h : j = N
  · subst h
    cases ho : ops[j]? with
    | some o => rw [late_at ho]; rfl
    | none => unfold withLate; simp only [ho]
  · rw [late_ne h]
theorem late_wpOp {i : Nat} {K : Act → World → Prop} {a : Act} {w : World} : wpOp P (withLate ops N late) Q i K a w = wpOp P ops Q i K a w := by
  unfold wpOp
  rw [late_yielded]
  by_cases h : i = N
  · subst h
    cases ho : ops[i]? with
    | some o => rw [late_at ho]; rfl
    | none => unfold withLate; simp only [ho]
  · rw [late_ne h]
theorem late_ready {i : Nat} {listed : Array Bool} : i ∈ Region.ready .any (withLate ops N late) listed ↔ i ∈ Region.ready .any ops listed ∧ (i = N → ∀ l ∈ late, listed.getD l false = true) := by
  rw [mem_ready, mem_ready]
  by_cases h : i = N
  · subst h
    cases ho : ops[i]? with
    | some o =>
      rw [late_at ho]
      constructor
      · rintro ⟨h0, o', ho', hall⟩
        cases ho'
        refine ⟨⟨h0, o, rfl, fun e he hb => hall e (by simp [he]) hb⟩, fun _ l hl => ?_⟩
        exact hall ⟨l, .data⟩ (by simp [hl]) rfl
      · rintro ⟨⟨h0, o', ho', hall⟩, hl⟩
        cases ho'
        refine ⟨h0, _, rfl, fun e he hb => ?_⟩
        rcases Array.mem_append.1 he with he | he
        · exact hall e he hb
        · obtain ⟨l, hl1, rfl⟩ : ∃ l ∈ late, (⟨l, .data⟩ : Edge) = e := by simpa using he
          exact hl rfl l hl1
    | none => unfold withLate; simp [ho]
  · rw [late_ne h]
    simp [h]

theorem late_yields {i : Nat} {o : Oper} {K : Act → World → Prop} {a : Act} {w : World} (ho : ops[i]? = some o) (hl : isLate o = true) (h : wpOp P ops Q i K a w) : ∃ v, Yields P ops o v a ∧ K (a.put o.dst v) w := by
  have key : ∀ v, (∀ w, (execOp a.eval o).run P w = .ok (.value v) w) → (execOp a.eval o).runT P w #[] = (.ok (.value v) w, #[]) → Region.wanted o (yielded ops a.tmps) = true → ∃ v, Yields P ops o v a ∧ K (a.put o.dst v) w := by
    intro v h1 h2 hw
    unfold wpOp at h
    simp only [ho, hw, if_true] at h
    rcases h with h | h
    · unfold Oper.wp at h
      rw [h1] at h
      exact ⟨v, .inl ⟨hw, h1⟩, h⟩
    · unfold Oper.asks at h
      rw [h2] at h
      simp at h
  by_cases hw : Region.wanted o (yielded ops a.tmps) = true
  · obtain ⟨dst, op, type, pos, after, guard⟩ := o
    cases op <;> simp only [isLate] at hl <;> try contradiction
    case move x => exact key (a.eval x) (fun w => rfl) rfl hw
    case assign x => exact key (a.eval x) (fun w => rfl) rfl hw
    case extract t ix =>
      have bad : (∃ why, execOp a.eval ⟨dst, .extract t ix, type, pos, after, guard⟩ = Sem.halt (.stuck why)) → False := by
        rintro ⟨why, hb⟩
        unfold wpOp at h
        simp only [ho, hw, if_true] at h
        rcases h with h | h
        · unfold Oper.wp at h
          rw [hb] at h
          exact h
        · unfold Oper.asks at h
          rw [hb] at h
          simp [Sem.runT] at h
      cases ht : a.eval t
      case tuple vs =>
        cases hv : vs[ix]? with
        | some v => exact key v (fun w => by simp [execOp, Instr.extract, ht, hv]) (by simp only [execOp, Instr.extract, ht, hv]; rfl) hw
        | none => exact absurd ⟨_, by simp only [execOp, Instr.extract, ht, hv]; rfl⟩ bad
      all_goals exact absurd ⟨_, by simp only [execOp, Instr.extract, ht]; rfl⟩ bad
  · unfold wpOp at h
    simp only [ho, hw] at h
    exact ⟨undef, .inr ⟨by simpa using hw, rfl⟩, h⟩

theorem any_late (hQ : ∀ d v c a w, Q (.panic c) (Act.put a d v) w → Q (.panic c) a w) (hB : lateB ops N late = true) (k : Nat) :
    ∀ (listed : Array Bool) (a : Act) (w : World), listed.size = ops.size → wpAny P .any (withLate ops N late) Q k listed a w → wpAny P .any ops Q k listed a w := by
  simp only [lateB, Bool.and_eq_true, decide_eq_true_eq] at hB
  obtain ⟨⟨hsel, hN⟩, hall⟩ := hB
  have fact : ∀ l ∈ late, ∃ ol, l ≠ N ∧ ops[l]? = some ol ∧ isLate ol = true ∧ (∀ e ∈ ol.after, Region.binds .any e = true → Region.waitsFor .any ops N e.on = true) ∧
      ∀ j oj, ops[j]? = some oj → j ≠ l → Region.waitsFor .any ops N j = true ∨ (∃ e ∈ oj.after, Region.binds .any e = true ∧ e.on = l) ∨ ol.apart ops oj = true := by
    intro l hl
    have h1 := List.all_eq_true.1 hall l hl
    simp only [Bool.and_eq_true, decide_eq_true_eq] at h1
    obtain ⟨hne, h2⟩ := h1
    cases ho : ops[l]? with
    | none => rw [ho] at h2; cases h2
    | some ol =>
      rw [ho] at h2
      simp only [Bool.and_eq_true] at h2
      obtain ⟨⟨h3, h4⟩, h5⟩ := h2
      refine ⟨ol, hne, rfl, h3, fun e he hb => ?_, fun j oj hj hjl => ?_⟩
      · have := Array.all_eq_true_iff_forall_mem.1 h4 e he
        simpa [hb] using this
      · have h6 := List.all_eq_true.1 h5 j (List.mem_range.2 (Array.getElem?_eq_some_iff.1 hj).1)
        simp only [hj, Bool.or_eq_true, beq_iff_eq, hjl, false_or] at h6
        rcases h6 with h6 | h6 | h6
        · exact .inl h6
        · obtain ⟨e, he, hb⟩ := Array.any_eq_true'.1 h6
          simp only [Bool.and_eq_true, beq_iff_eq] at hb
          exact .inr (.inl ⟨e, he, hb⟩)
        · exact .inr (.inr h6)
  have lready : ∀ (listed : Array Bool) l, N ∈ Region.ready .any ops listed → l ∈ late → listed.getD l true = false → l ∈ Region.ready .any (withLate ops N late) listed := by
    intro listed l hNr hl hun
    obtain ⟨ol, hne, ho, _, hw, _⟩ := fact l hl
    refine late_ready.2 ⟨mem_ready.2 ⟨hun, ol, ho, fun e he hb => ?_⟩, fun h => absurd h hne⟩
    obtain ⟨oN, hoN, e', he', hb', hon⟩ := Region.waitsFor_spec (hw e he hb)
    obtain ⟨_, oN', hoN', hN2⟩ := mem_ready.1 hNr
    have : oN = oN' := Option.some.inj (hoN.symm.trans hoN')
    subst this
    rw [← hon]
    exact hN2 e' he' hb'
  have split : ∀ (listed : Array Bool), listed.size = ops.size → (∃ l ∈ late, N ∈ Region.ready .any ops listed ∧ listed.getD l true = false) ∨ ∀ i, i ∈ Region.ready .any ops listed → i ∈ Region.ready .any (withLate ops N late) listed := by
    intro listed hs
    by_cases h : ∃ l ∈ late, N ∈ Region.ready .any ops listed ∧ listed.getD l true = false
    · exact .inl h
    · refine .inr fun i hi => late_ready.2 ⟨hi, fun hiN l hl => ?_⟩
      subst hiN
      cases hg : listed.getD l false with
      | true => rfl
      | false =>
        obtain ⟨ol, _, ho, _⟩ := fact l hl
        exact absurd ⟨l, hl, hi, getD_in (by rw [hs]; exact (Array.getElem?_eq_some_iff.1 ho).1) hg⟩ h
  induction k with
  | zero =>
    intro listed a w hs H
    refine ⟨?_, H.2⟩
    rcases split listed hs with ⟨l, hl, hNr, hun⟩ | h
    · have := lready listed l hNr hl hun
      rw [H.1] at this
      cases this
    · cases hr : Region.ready .any ops listed with
      | nil => rfl
      | cons x xs =>
        have := h x (by rw [hr]; simp)
        rw [H.1] at this
        cases this
  | succ k ih =>
    intro listed a w hs H
    rcases split listed hs with ⟨l, hl, hNr, hun⟩ | h
    · have h1 := H.2 l (lready listed l hNr hl hun)
      rw [late_wpOp] at h1
      obtain ⟨ol, hne, ho, hlt, _, hap⟩ := fact l hl
      obtain ⟨v, hy, hK⟩ := late_yields ho hlt h1
      refine wpAny_first ho (Region.noSelect_spec hsel) (fun c a w => hQ _ _ c a w) k listed a w (fun j oj hj hjl hjun hno => ?_) (late_ready.1 (lready listed l hNr hl hun)).1 hy (ih _ _ _ (by simpa using hs) hK)
      rcases hap j oj hj hjl with h2 | ⟨e, he, hb, hon⟩ | h2
      · obtain ⟨oN, hoN, e', he', hb', hon⟩ := Region.waitsFor_spec h2
        obtain ⟨_, oN', hoN', hN2⟩ := mem_ready.1 hNr
        have : oN = oN' := Option.some.inj (hoN.symm.trans hoN')
        subst this
        have h3 := hN2 e' he' hb'
        rw [hon, getD_both hjun] at h3
        cases h3
      · exact absurd hon (hno e he hb)
      · exact h2
    · refine ⟨fun h0 => H.1 ?_, fun i hi => ?_⟩
      · cases hr : Region.ready .any (withLate ops N late) listed with
        | nil => rfl
        | cons x xs =>
          have := (late_ready.1 (show x ∈ Region.ready .any (withLate ops N late) listed by rw [hr]; simp)).1
          rw [h0] at this
          cases this
      · have h1 := H.2 i (h i hi)
        rw [late_wpOp] at h1
        exact wpOp_mono (fun a' w' h2 => ih _ _ _ (by simpa using hs) h2) h1
end
end Go.Proofs.Ytegpjjkbbdfggaa.bs

/-
  A region that draws its order: its head reads and calls (the callees may make memory of their own), then come allocs, each of which may come at any time, its last operations come in one forced order; some moves and extracts of the head may come later still.
-/
namespace Go.Proofs.Ytegpjjkbbdfggaa.bs
set_option linter.unusedVariables false
set_option linter.unusedSimpArgs false
open Go.RowKit

section
variable {P : Program} {ops : Array Oper} {md : Region.Mode} {C : World → Prop}

def sinkA (md : Region.Mode) (ops : Array Oper) (n m : Nat) : Bool :=
  (List.range n).all fun i => (List.range (n + m + 1)).any fun j => decide (i < j) && (decide (j < n) || decide (j = n + m)) && Region.waitsFor md ops j i
def chainA (md : Region.Mode) (ops : Array Oper) (n m : Nat) : Bool :=
  (List.range ops.size).all fun t => decide (t ≤ n + m) || Region.waitsFor md ops t (t - 1)
/-- no head operation waits for an alloc; no alloc waits; the first of the last operations waits for each alloc -/
def freeA (md : Region.Mode) (ops : Array Oper) (n m : Nat) : Bool :=
  (List.range m).all fun j => (List.range n).all (fun i => !Region.waitsFor md ops i (n + j)) && Region.waitsFor md ops (n + m) (n + j) &&
    match ops[n + j]? with
    | some o => o.after.all (fun e => !Region.binds md e) && o.guard.isNone &&
        (List.range n).all (fun i => match ops[i]? with
          | some oi => o.apart ops oi
          | none => true) &&
        (List.range m).all (fun i => i == j || match ops[n + i]? with
          | some oi => o.apart ops oi
          | none => true)
    | none => false
structure InvA (md : Region.Mode) (ops : Array Oper) (n m : Nat) (listed : Array Bool) : Prop where
  size : listed.size = ops.size
  closed : ∀ j oj, j < n → ops[j]? = some oj → listed.getD j false = true → ∀ e ∈ oj.after, Region.binds md e = true → listed.getD e.on false = true
  tail : ∀ t, n + m ≤ t → t < ops.size → listed.getD t true = false

theorem tail_waitsA {n m : Nat} {listed : Array Bool} (hs : sinkA md ops n m = true) (hc : chainA md ops n m = true) (hn : n + m < ops.size) (inv : InvA md ops n m listed) :
    ∀ (d i : Nat), n - i = d → i < n → listed.getD i true = false → ∀ t, n + m ≤ t → t ∉ Region.ready md ops listed := by
  intro d
  induction d using Nat.strongRecOn with
  | _ d ih =>
    intro i hd hi hun t ht hr
    obtain ⟨_, ot, hot, hall⟩ := mem_ready.1 hr
    have htlt : t < ops.size := (Array.getElem?_eq_some_iff.1 hot).1
    by_cases htn : t = n + m
    · have h1 := List.all_eq_true.1 hs i (List.mem_range.2 hi)
      obtain ⟨j, hj, hj2⟩ := List.any_eq_true.1 h1
      simp only [Bool.and_eq_true, Bool.or_eq_true, decide_eq_true_eq] at hj2
      obtain ⟨⟨hij, hjn⟩, hw⟩ := hj2
      obtain ⟨oj, hoj, e, he, hb, hon⟩ := Region.waitsFor_spec hw
      by_cases hjt : j = t
      · subst hjt
        have : oj = ot := Option.some.inj (hoj.symm.trans hot)
        subst this
        have h2 := hall e he hb
        rw [hon, getD_both hun] at h2
        cases h2
      · cases hl : listed.getD j false with
        | true =>
          have h2 := inv.closed j oj (by omega) hoj hl e he hb
          rw [hon, getD_both hun] at h2
          cases h2
        | false =>
          have hjs : j < listed.size := by rw [inv.size]; omega
          exact ih (n - j) (by omega) j rfl (by omega) (getD_in hjs hl) t ht hr
    · have h1 := List.all_eq_true.1 hc t (List.mem_range.2 htlt)
      simp only [Bool.or_eq_true, decide_eq_true_eq] at h1
      rcases h1 with h1 | h1
      · omega
      · obtain ⟨o', ho', e, he, hb, hon⟩ := Region.waitsFor_spec h1
        have : o' = ot := Option.some.inj (ho'.symm.trans hot)
        subst this
        have h2 := hall e he hb
        rw [hon, getD_both (inv.tail (t - 1) (by omega) (by omega))] at h2
        cases h2

/-- the head in whatever order, the allocs not yet come -/
def anyHeadA (P : Program) (md : Region.Mode) (ops : Array Oper) (C : World → Prop) (n m : Nat) (L : Array Bool → Act → Prop) : Nat → Array Bool → Act → Prop
  | 0, listed, a => L listed a
  | k + 1, listed, a => (∃ i ∈ Region.ready md ops listed, i < n) ∧ ∀ i ∈ Region.ready md ops listed, (n ≤ i ∧ i < n + m) ∨ i < n ∧ qOp P ops C i (anyHeadA P md ops C n m L k (listed.setIfInBounds i true)) a

theorem invA_of {n m : Nat} {listed : Array Bool} (inv : HeadInv md ops n listed) : InvA md ops n m listed :=
  ⟨inv.size, fun j oj _ => inv.closed j oj, fun t ht => inv.tail t (by omega)⟩

theorem head_firstA {n m i : Nat} {oi : Oper} {v : Value} {L : Array Bool → Act → Prop} (hi : ops[i]? = some oi) (hsel : ∀ (j : Nat) (o : Oper) cs b, ops[j]? = some o → o.op ≠ .select cs b)
    (hs : sinkA md ops n m = true) (hc : chainA md ops n m = true) (hn : n + m < ops.size) (hin : i < n) (hdone : ∀ listed a, L listed a → ∀ j ∈ Region.ready md ops listed, n ≤ j) (k : Nat) :
    ∀ (listed : Array Bool) (a : Act), HeadInv md ops n listed →
      (∀ j oj, ops[j]? = some oj → j ≠ i → listed.getD j true = false → (∀ e ∈ oj.after, Region.binds md e = true → e.on ≠ i) → oi.apart ops oj = true) →
      i ∈ Region.ready md ops listed → YieldsIn P ops C oi v a →
      anyHeadA P md ops C n m L k (listed.setIfInBounds i true) (a.put oi.dst v) → anyHeadA P md ops C n m L (k + 1) listed a := by
  have small : ∀ {listed : Array Bool}, HeadInv md ops n listed → i ∈ Region.ready md ops listed → ∀ j ∈ Region.ready md ops listed, (n ≤ j ∧ j < n + m) ∨ j < n := by
    intro listed inv hr j hj
    rcases Nat.lt_or_ge j (n + m) with h | h
    · omega
    · exact absurd hj (tail_waitsA hs hc hn (invA_of inv) _ i rfl hin (mem_ready.1 hr).1 j h)
  induction k with
  | zero =>
    intro listed a inv _ hr hy H
    refine ⟨⟨i, hr, hin⟩, fun j hj => ?_⟩
    rcases small inv hr j hj with h | h
    · exact .inl h
    · refine .inr ⟨h, ?_⟩
      by_cases hji : j = i
      · rw [hji]; exact hy.qOp hi H
      · exact absurd h (by have := hdone _ _ H j (ready_mono hj hji); omega)
  | succ k ih =>
    intro listed a inv hfree hr hy H
    refine ⟨⟨i, hr, hin⟩, fun j hj => ?_⟩
    rcases small inv hr j hj with h | hjn
    · exact .inl h
    · refine .inr ⟨hjn, ?_⟩
      by_cases hji : j = i
      · rw [hji]; exact hy.qOp hi H
      · obtain ⟨hjun, oj, hoj, hall⟩ := mem_ready.1 hj
        have hnot : ∀ e ∈ oj.after, Region.binds md e = true → e.on ≠ i := fun e he hb heq => by
          have h1 := hall e he hb
          rw [heq, getD_both (mem_ready.1 hr).1] at h1
          cases h1
        have hq : qOp P ops C j (anyHeadA P md ops C n m L k ((listed.setIfInBounds i true).setIfInBounds j true)) (a.put oi.dst v) := by
          rcases H.2 j (ready_mono hj hji) with h | h
          · omega
          · exact h.2
        have h2 := qOp_put hoj (hfree j oj hoj hji hjun hnot) (fun cs b => hsel i oi cs b hi) (fun cs b => hsel j oj cs b hoj) hy hq
        refine qOp_mono (fun a' h3 => ih (listed.setIfInBounds j true) a' (inv.set hj hjn) ?_ (ready_mono hr (Ne.symm hji)) h3.1 ?_) h2
        · intro o om hm hmi hun hno
          refine hfree o om hm hmi ?_ hno
          by_cases hjm : j = o
          · rw [← hjm]; exact hjun
          · rwa [getD_set_ne true hjm] at hun
        · rw [Array.setIfInBounds_comm _ _ hji]
          exact h3.2

def markAll (n : Nat) : Nat → Array Bool → Array Bool
  | 0, listed => listed
  | m + 1, listed => (markAll n m listed).setIfInBounds (n + m) true
def endB (md : Region.Mode) (ops : Array Oper) (n m g : Nat) (listed : Array Bool) : Bool :=
  (Region.ready md ops listed).all (fun j => decide (n ≤ j)) && Region.seqB md ops g (n + m) (markAll n m listed)
def lexHeadA (md : Region.Mode) (ops : Array Oper) (n m g : Nat) : Nat → Nat → Array Bool → Bool
  | 0, _, listed => endB md ops n m g listed
  | f + 1, k, listed => (Region.ready md ops listed).contains k && Region.free md ops listed k && lexHeadA md ops n m g f (k + 1) (listed.setIfInBounds k true)

theorem head_lexA {n m g : Nat} {Lq : Act → Prop} (hsel : Region.noSelect ops = true) (hs : sinkA md ops n m = true) (hc : chainA md ops n m = true) (hn : n + m < ops.size) (l : List Oper) :
    ∀ (k : Nat) (listed : Array Bool) (a : Act), (∀ j, j < l.length → l[j]? = ops[k + j]?) → k + l.length = n → HeadInv md ops n listed →
    lexHeadA md ops n m g l.length k listed = true → wpQuiet P ops C Lq l a → anyHeadA P md ops C n m (fun listed' a' => endB md ops n m g listed' = true ∧ Lq a') l.length listed a := by
  induction l with
  | nil =>
    intro k listed a _ hk _ hB h
    exact ⟨by simpa [lexHeadA] using hB, h⟩
  | cons o l ih =>
    intro k listed a hl hk inv hB h
    have h0 : ops[k]? = some o := by simpa using (hl 0 (by simp)).symm
    simp only [List.length_cons, lexHeadA, Bool.and_eq_true] at hB
    obtain ⟨⟨hr, hf⟩, hB'⟩ := hB
    simp only [List.length_cons] at hk
    have hr' : k ∈ Region.ready md ops listed := by simpa using hr
    have hst : qOp P ops C k (wpQuiet P ops C Lq l) a := by unfold qOp; simp only [h0]; exact h
    obtain ⟨v, hy, hK⟩ := yieldsIn_of_qOp h0 hst
    refine head_firstA h0 (Region.noSelect_spec hsel) hs hc hn (by omega) (fun listed' a' hL j hj => ?_) l.length listed a inv (Region.free_spec h0 hf) hr' hy ?_
    · have h1 := hL.1
      simp only [endB, Bool.and_eq_true] at h1
      simpa using List.all_eq_true.1 h1.1 j hj
    · refine ih (k + 1) _ _ (fun j hj => ?_) (by omega) (inv.set hr' (by omega)) hB' hK
      have := hl (j + 1) (by simp; omega)
      simpa [Nat.add_assoc, Nat.add_comm 1 j] using this

/-- the allocs that have come, in their slots -/
def putsC (ops : Array Oper) (n : Nat) (blk : Nat → Nat) (done : Nat → Bool) : Nat → Act → Act
  | 0, a => a
  | m + 1, a => if done (n + m) then (putsC ops n blk done m a).put ((ops[n + m]?).bind (·.dst)) (.pointer (some ⟨blk (n + m), 0, none⟩)) else putsC ops n blk done m a
def cntC (n : Nat) (done : Nat → Bool) : Nat → Nat
  | 0 => 0
  | m + 1 => cntC n done m + if done (n + m) then 0 else 1

theorem putsC_congr {n : Nat} {blk blk' : Nat → Nat} {done done' : Nat → Bool} (m : Nat) (a : Act) (h : ∀ j, j < m → done' (n + j) = done (n + j) ∧ blk' (n + j) = blk (n + j)) :
    putsC ops n blk' done' m a = putsC ops n blk done m a := by
  induction m with
  | zero => rfl
  | succ m ih =>
    have h1 := h m (by omega)
    simp only [putsC]
    rw [h1.1, h1.2, ih (fun j hj => h j (by omega))]
theorem putsC_add {n i B : Nat} {blk blk' : Nat → Nat} {done done' : Nat → Bool} {m M : Nat} (hap : ∀ j j', j < M → j' < M → j ≠ j' → ∀ o o', ops[n + j]? = some o → ops[n + j']? = some o' → o.apart ops o' = true) (a : Act)
    (hd : done (n + i) = false) (hd' : done' (n + i) = true) (hb : blk' (n + i) = B) (h : ∀ j, j ≠ i → done' (n + j) = done (n + j) ∧ blk' (n + j) = blk (n + j)) (him : i < m) (hmM : m ≤ M) :
    putsC ops n blk' done' m a = (putsC ops n blk done m a).put ((ops[n + i]?).bind (·.dst)) (.pointer (some ⟨B, 0, none⟩)) := by
  induction m with
  | zero => omega
  | succ m ih =>
    simp only [putsC]
    by_cases hmi : m = i
    · subst hmi
      rw [hd, hd', hb, putsC_congr m a (fun j hj => h j (by omega))]
      simp
    · have h1 := h m hmi
      rw [h1.1, h1.2, ih (by omega) (by omega)]
      split
      · refine Act.put_comm _ _ _ ?_
        intro d hx hy
        cases ho : ops[n + i]? with
        | none => rw [ho] at hx; cases hx
        | some o =>
          cases ho' : ops[n + m]? with
          | none => rw [ho'] at hy; cases hy
          | some o' =>
            rw [ho] at hx
            rw [ho'] at hy
            exact (Oper.apart_spec (hap i m (by omega) (by omega) (Ne.symm hmi) o o' ho ho')).2.1 d hx hy
      · rfl
theorem cntC_congr {n : Nat} {done done' : Nat → Bool} (m : Nat) (h : ∀ j, j < m → done' (n + j) = done (n + j)) : cntC n done' m = cntC n done m := by
  induction m with
  | zero => rfl
  | succ m ih =>
    simp only [cntC]
    rw [h m (by omega), ih (fun j hj => h j (by omega))]
theorem cntC_add {n i : Nat} {done done' : Nat → Bool} (m : Nat) (hd : done (n + i) = false) (hd' : done' (n + i) = true) (h : ∀ j, j ≠ i → done' (n + j) = done (n + j)) (him : i < m) : cntC n done m = cntC n done' m + 1 := by
  induction m with
  | zero => omega
  | succ m ih =>
    simp only [cntC]
    by_cases hmi : m = i
    · subst hmi
      rw [hd, hd', cntC_congr m (fun j hj => h j (by omega))]
      simp
    · rw [h m hmi, ih (by omega)]
      omega
theorem cntC_zero {n : Nat} {done : Nat → Bool} (m : Nat) (h : cntC n done m = 0) : ∀ j, j < m → done (n + j) = true := by
  induction m with
  | zero => intro j hj; omega
  | succ m ih =>
    simp only [cntC] at h
    intro j hj
    by_cases hjm : j = m
    · subst hjm
      cases hd : done (n + j) with
      | true => rfl
      | false => rw [hd] at h; simp at h
    · exact ih (by omega) j (by omega)
theorem cntC_pos {n : Nat} {done : Nat → Bool} (m : Nat) (h : cntC n done m ≠ 0) : ∃ j, j < m ∧ done (n + j) = false := by
  induction m with
  | zero => exact absurd rfl h
  | succ m ih =>
    cases hd : done (n + m) with
    | false => exact ⟨m, by omega, hd⟩
    | true =>
      simp only [cntC, hd, if_true, Nat.add_zero] at h
      obtain ⟨j, hj, h1⟩ := ih h
      exact ⟨j, by omega, h1⟩
theorem cntC_none {n : Nat} {done : Nat → Bool} (m : Nat) (h : ∀ j, j < m → done (n + j) = false) : cntC n done m = m := by
  induction m with
  | zero => rfl
  | succ m ih => simp only [cntC]; rw [h m (by omega), ih (fun j hj => h j (by omega))]; simp
theorem putsC_none {n : Nat} {blk : Nat → Nat} {done : Nat → Bool} (m : Nat) (a : Act) (h : ∀ j, j < m → done (n + j) = false) : putsC ops n blk done m a = a := by
  induction m with
  | zero => rfl
  | succ m ih => simp only [putsC]; rw [h m (by omega), ih (fun j hj => h j (by omega))]; simp

theorem puts_yields {n : Nat} {blk : Nat → Nat} {done : Nat → Bool} {oi : Oper} {v : Value} (hsi : ∀ cs b, oi.op ≠ .select cs b) (m : Nat) (hap : ∀ j, j < m → ∀ o, ops[n + j]? = some o → o.apart ops oi = true) {a : Act} (hy : YieldsIn P ops C oi v a) :
    YieldsIn P ops C oi v (putsC ops n blk done m a) ∧ (putsC ops n blk done m a).put oi.dst v = putsC ops n blk done m (a.put oi.dst v) := by
  induction m with
  | zero => exact ⟨hy, rfl⟩
  | succ m ih =>
    obtain ⟨h1, h2⟩ := ih (fun j hj => hap j (by omega))
    simp only [putsC]
    split
    · cases ho : ops[n + m]? with
      | none => exact ⟨h1, h2⟩
      | some o =>
        obtain ⟨p1, p2, p3⟩ := Oper.apart_spec (hap m (by omega) o ho)
        refine ⟨h1.of_same (execOp_put oi hsi _ _ _ p1) (wanted_put oi _ _ _ p1), ?_⟩
        rw [← h2]
        exact Act.put_comm _ _ _ p2
    · exact ⟨h1, h2⟩

theorem markAll_size {n : Nat} {listed : Array Bool} (m : Nat) : (markAll n m listed).size = listed.size := by
  induction m with
  | zero => rfl
  | succ m ih => simp [markAll, ih]
theorem markAll_get {n : Nat} {listed : Array Bool} (m : Nat) (hm : n + m ≤ listed.size) (j : Nat) : (markAll n m listed)[j]? = if n ≤ j ∧ j < n + m then some true else listed[j]? := by
  induction m with
  | zero =>
    rw [if_neg (by omega)]
    rfl
  | succ m ih =>
    simp only [markAll]
    by_cases hj : j = n + m
    · subst hj
      rw [if_pos (by omega), Array.getElem?_setIfInBounds_self_of_lt (by rw [markAll_size]; omega)]
    · rw [Array.getElem?_setIfInBounds_ne (Ne.symm hj), ih (by omega)]
      by_cases h : n ≤ j ∧ j < n + m
      · rw [if_pos h, if_pos (by omega)]
      · rw [if_neg h, if_neg (by omega)]

/-- the blocks that the allocs made, in the world of now -/
def BlkAt (w0 w : World) (n m : Nat) (objs : Nat → Obj) (blk : Nat → Nat) (done : Nat → Bool) : Prop :=
  (∀ j, j < m → done (n + j) = true → w0.heap.size ≤ blk (n + j) ∧ blk (n + j) < w.heap.size ∧ w.heap[blk (n + j)]? = some (objs j)) ∧
  ∀ j j', j < m → j' < m → done (n + j) = true → done (n + j') = true → j ≠ j' → blk (n + j) ≠ blk (n + j')

theorem BlkAt.keep {w0 w w' : World} {n m : Nat} {objs : Nat → Obj} {blk : Nat → Nat} {done : Nat → Bool} (h : BlkAt w0 w n m objs blk done) (hb : Below w.heap.size w w') : BlkAt w0 w' n m objs blk done :=
  ⟨fun j hj hd => let ⟨h1, h2, h3⟩ := h.1 j hj hd; ⟨h1, Nat.lt_of_lt_of_le h2 hb.size, by rw [hb.block _ h2]; exact h3⟩, h.2⟩

def allocOk (P : Program) (objs : Nat → Obj) (ops : Array Oper) (n m : Nat) : Prop :=
  ∀ j, j < m → ∀ o, ops[n + j]? = some o → ∀ ρ w, (execOp ρ o).run P w = .ok (.value (.pointer (some ⟨w.heap.size, 0, none⟩))) (w.alloc (objs j))

theorem any_of_alloc {n m g : Nat} {w0 : World} {objs : Nat → Obj} {Lq : Act → Prop} {Q' : Exit → Act → World → Prop} (hsel : ∀ (j : Nat) (o : Oper) cs b, ops[j]? = some o → o.op ≠ .select cs b)
    (hs : sinkA md ops n m = true) (hc : chainA md ops n m = true) (hf : freeA md ops n m = true) (hn : n + m < ops.size) (hal : allocOk P objs ops n m)
    (hL : ∀ listed0 a0 blk w', endB md ops n m g listed0 = true → Lq a0 → (∃ u : Up w0, w' = u.val) → BlkAt w0 w' n m objs blk (fun _ => true) → wpAny P md ops Q' g (markAll n m listed0) (putsC ops n blk (fun _ => true) m a0) w') (t : Nat) :
    ∀ (k : Nat) (listed0 listed : Array Bool) (a0 : Act) (blk : Nat → Nat) (w' : World), k + cntC n (fun j => listed.getD j false) m = t → HeadInv md ops n listed0 →
      listed.size = ops.size → (∀ j, ¬ (n ≤ j ∧ j < n + m) → listed[j]? = listed0[j]?) → (∃ u : Up w0, w' = u.val) → BlkAt w0 w' n m objs blk (fun j => listed.getD j false) →
      (∀ u0 : Up w0, anyHeadA P md ops (fun w' => ∃ u : Up u0.val, w' = u.val) n m (fun listed' a' => endB md ops n m g listed' = true ∧ Lq a') k listed0 a0) →
      wpAny P md ops Q' (t + g) listed (putsC ops n blk (fun j => listed.getD j false) m a0) w' := by
  have free : ∀ j, j < m → (∀ i, i < n → Region.waitsFor md ops i (n + j) = false) ∧ Region.waitsFor md ops (n + m) (n + j) = true ∧ ∃ o, ops[n + j]? = some o ∧ (∀ e ∈ o.after, Region.binds md e = false) ∧ o.guard = none ∧
      (∀ i oi, i < n → ops[i]? = some oi → o.apart ops oi = true) ∧ ∀ i oi, i < m → i ≠ j → ops[n + i]? = some oi → o.apart ops oi = true := by
    intro j hj
    have h1 := List.all_eq_true.1 hf j (List.mem_range.2 hj)
    simp only [Bool.and_eq_true] at h1
    obtain ⟨⟨h2, h3⟩, h4⟩ := h1
    refine ⟨fun i hi => by simpa using List.all_eq_true.1 h2 i (List.mem_range.2 hi), h3, ?_⟩
    cases ho : ops[n + j]? with
    | none => rw [ho] at h4; cases h4
    | some o =>
      rw [ho] at h4
      simp only [Bool.and_eq_true] at h4
      obtain ⟨⟨⟨h5, h6⟩, h7⟩, h8⟩ := h4
      refine ⟨o, rfl, fun e he => by simpa using Array.all_eq_true_iff_forall_mem.1 h5 e he, by simpa using h6, fun i oi hi hoi => ?_, fun i oi hi hij hoi => ?_⟩
      · have := List.all_eq_true.1 h7 i (List.mem_range.2 hi)
        simpa [hoi] using this
      · have := List.all_eq_true.1 h8 i (List.mem_range.2 hi)
        simpa [hoi, hij] using this
  induction t with
  | zero =>
    intro k listed0 listed a0 blk w' hk inv hsz hR hw hB H
    have hk0 : k = 0 := by omega
    have hc0 : cntC n (fun j => listed.getD j false) m = 0 := by omega
    subst hk0
    obtain ⟨hE, hq⟩ := H (Up.of (Below.refl _ _))
    have hd := cntC_zero m hc0
    have hlm : listed = markAll n m listed0 := by
      apply Array.ext_getElem?
      intro j
      rw [markAll_get m (by rw [inv.size]; omega)]
      by_cases h : n ≤ j ∧ j < n + m
      · rw [if_pos h]
        have h1 := hd (j - n) (by omega)
        rw [show n + (j - n) = j by omega] at h1
        have hlt : j < listed.size := by rw [hsz]; omega
        simpa [hlt] using h1
      · rw [if_neg h]; exact hR j h
    rw [Nat.zero_add, putsC_congr (blk := blk) (done := fun _ => true) m a0 (fun j hj => ⟨hd j hj, rfl⟩)]
    subst hlm
    exact hL listed0 a0 blk w' hE hq hw ⟨fun j hj _ => hB.1 j hj (hd j hj), fun j j' hj hj' _ _ => hB.2 j j' hj hj' (hd j hj) (hd j' hj')⟩
  | succ t ih =>
    intro k listed0 listed a0 blk w' hk inv hsz hR hw hB H
    have hget : ∀ j d, ¬ (n ≤ j ∧ j < n + m) → listed.getD j d = listed0.getD j d := fun j d h => by
      simp only [Array.getD_eq_getD_getElem?]
      rw [hR j h]
    have inv' : InvA md ops n m listed := ⟨hsz, fun j oj hj hoj hl e he hb => by
        rw [hget j false (by omega)] at hl
        have h1 := inv.closed j oj hoj hl e he hb
        by_cases h : n ≤ e.on ∧ e.on < n + m
        · have := (free (e.on - n) (by omega)).1 j hj
          rw [show n + (e.on - n) = e.on by omega] at this
          unfold Region.waitsFor at this
          simp only [hoj] at this
          have h2 : (oj.after.any fun e' => Region.binds md e' && e'.on == e.on) = true := Array.any_eq_true'.2 ⟨e, he, by simp [hb]⟩
          rw [h2] at this
          cases this
        · rw [hget _ _ h]; exact h1, fun t ht ht' => by rw [hget t true (by omega)]; exact inv.tail t (by omega) ht'⟩
    have up : ∀ i, i < n → i ∈ Region.ready md ops listed0 → i ∈ Region.ready md ops listed := by
      intro i hi hr
      obtain ⟨hun, oi, hoi, hall⟩ := mem_ready.1 hr
      refine mem_ready.2 ⟨by rw [hget i true (by omega)]; exact hun, oi, hoi, fun e he hb => ?_⟩
      by_cases h : n ≤ e.on ∧ e.on < n + m
      · have := (free (e.on - n) (by omega)).1 i hi
        rw [show n + (e.on - n) = e.on by omega] at this
        unfold Region.waitsFor at this
        simp only [hoi] at this
        have h2 : (oi.after.any fun e' => Region.binds md e' && e'.on == e.on) = true := Array.any_eq_true'.2 ⟨e, he, by simp [hb]⟩
        rw [h2] at this
        cases this
      · rw [hget _ _ h]; exact hall e he hb
    have down : ∀ i, i < n → i ∈ Region.ready md ops listed → i ∈ Region.ready md ops listed0 := by
      intro i hi hr
      obtain ⟨hun, oi, hoi, hall⟩ := mem_ready.1 hr
      refine mem_ready.2 ⟨by rw [← hget i true (by omega)]; exact hun, oi, hoi, fun e he hb => ?_⟩
      by_cases h : n ≤ e.on ∧ e.on < n + m
      · have := (free (e.on - n) (by omega)).1 i hi
        rw [show n + (e.on - n) = e.on by omega] at this
        unfold Region.waitsFor at this
        simp only [hoi] at this
        have h2 : (oi.after.any fun e' => Region.binds md e' && e'.on == e.on) = true := Array.any_eq_true'.2 ⟨e, he, by simp [hb]⟩
        rw [h2] at this
        cases this
      · rw [← hget _ _ h]; exact hall e he hb
    have undone : k = 0 → ∃ j, j < m ∧ listed.getD (n + j) false = false := fun hk0 => cntC_pos (done := fun j => listed.getD j false) m (by omega)
    have hready : Region.ready md ops listed ≠ [] := by
      cases k with
      | zero =>
        obtain ⟨j, hj, hd⟩ := undone rfl
        obtain ⟨_, _, o, ho, hb, _⟩ := free j hj
        have : n + j ∈ Region.ready md ops listed := mem_ready.2 ⟨getD_in (by rw [hsz]; omega) hd, o, ho, fun e he hb' => by rw [hb e he] at hb'; cases hb'⟩
        intro h; rw [h] at this; cases this
      | succ k =>
        obtain ⟨i, hi, hin⟩ := (H (Up.of (Below.refl _ _))).1
        have := up i hin hi
        intro h; rw [h] at this; cases this
    rw [Nat.add_right_comm]
    refine ⟨fun h => absurd h hready, fun i hi => ?_⟩
    rcases Nat.lt_or_ge i n with hin | hin
    · -- a head operation
      cases k with
      | zero =>
        have h1 := (H (Up.of (Below.refl _ _))).1
        simp only [endB, Bool.and_eq_true] at h1
        have := List.all_eq_true.1 h1.1 i (down i hin hi)
        simp at this
        omega
      | succ k =>
        obtain ⟨_, oi, hoi, _⟩ := mem_ready.1 hi
        have hri := down i hin hi
        have HQ : ∀ u0 : Up w0, ∃ v, YieldsIn P ops (fun w' => ∃ u : Up u0.val, w' = u.val) oi v a0 ∧ anyHeadA P md ops (fun w' => ∃ u : Up u0.val, w' = u.val) n m (fun listed' a' => endB md ops n m g listed' = true ∧ Lq a') k (listed0.setIfInBounds i true) (a0.put oi.dst v) := by
          intro u0
          rcases (H u0).2 i hri with h | h
          · omega
          · exact yieldsIn_of_qOp hoi h.2
        obtain ⟨v, hy, _⟩ := HQ (Up.of (Below.refl _ _))
        have same : ∀ u0 : Up w0, YieldsIn P ops (fun w' => ∃ u : Up u0.val, w' = u.val) oi v a0 ∧ anyHeadA P md ops (fun w' => ∃ u : Up u0.val, w' = u.val) n m (fun listed' a' => endB md ops n m g listed' = true ∧ Lq a') k (listed0.setIfInBounds i true) (a0.put oi.dst v) := by
          intro u0
          obtain ⟨v', hy', h'⟩ := HQ u0
          have : v = v' := yields_same hy hy' ⟨u0.val, ⟨Up.of (w' := u0.val) u0.ok, rfl⟩, ⟨Up.of (w' := u0.val) (Below.refl _ _), rfl⟩⟩
          subst this
          exact ⟨hy', h'⟩
        obtain ⟨u, rfl⟩ := hw
        have hap : ∀ j, j < m → ∀ o, ops[n + j]? = some o → o.apart ops oi = true := fun j hj o ho => by
          obtain ⟨_, _, o', ho', _, _, h3, _⟩ := free j hj
          have : o = o' := Option.some.inj (ho.symm.trans ho')
          subst this
          exact h3 i oi hin hoi
        obtain ⟨hy2, hp⟩ := puts_yields (n := n) (blk := blk) (done := fun j => listed.getD j false) (fun cs b => hsel i oi cs b hoi) m hap (same u).1
        have hq : qOp P ops (fun w' => ∃ u' : Up u.val, w' = u'.val) i (fun a' => a' = putsC ops n blk (fun j => listed.getD j false) m (a0.put oi.dst v)) (putsC ops n blk (fun j => listed.getD j false) m a0) := hy2.qOp hoi hp
        refine wpOp_of_qOp (C := fun w' => ∃ u' : Up u.val, w' = u'.val) ⟨Up.of (w' := u.val) (Below.refl _ _), rfl⟩ (fun a' w'' hw' ha' => ?_) hq
        subst ha'
        obtain ⟨u', rfl⟩ := hw'
        have hset : ∀ j, n ≤ j → (listed.setIfInBounds i true).getD j false = listed.getD j false := fun j hj => getD_set_ne false (by omega)
        have := ih k (listed0.setIfInBounds i true) (listed.setIfInBounds i true) (a0.put oi.dst v) blk u'.val (by
            rw [cntC_congr (done := fun j => listed.getD j false) m (fun j hj => hset (n + j) (by omega))]; omega) (inv.set hri hin) (by simpa using hsz) (fun j hj => by
            by_cases hij : i = j
            · subst hij
              rw [Array.getElem?_setIfInBounds_self_of_lt (by rw [hsz]; omega), Array.getElem?_setIfInBounds_self_of_lt (by rw [inv.size]; omega)]
            · rw [Array.getElem?_setIfInBounds_ne hij, Array.getElem?_setIfInBounds_ne hij]; exact hR j hj)
            ⟨Up.of (w' := u'.val) (btrans u.ok u'.ok), rfl⟩ (by
              have := hB.keep u'.ok
              exact ⟨fun j hj hd => this.1 j hj ((hset (n + j) (by omega)).symm.trans hd), fun j j' hj hj' hd hd' => this.2 j j' hj hj' ((hset (n + j) (by omega)).symm.trans hd) ((hset (n + j') (by omega)).symm.trans hd')⟩) (fun u0 => (same u0).2)
        rwa [putsC_congr (blk := blk) (done := fun j => listed.getD j false) m _ (fun j hj => ⟨hset (n + j) (by omega), rfl⟩)] at this
    · rcases Nat.lt_or_ge i (n + m) with him | him
      · -- an alloc
        obtain ⟨j, rfl⟩ : ∃ j, i = n + j := ⟨i - n, by omega⟩
        have hj : j < m := by omega
        obtain ⟨_, _, o, ho, _, hg, _, _⟩ := free j hj
        have hdf : listed.getD (n + j) false = false := getD_both (mem_ready.1 hi).1
        have hlt : n + j < listed.size := by rw [hsz]; omega
        have hdt : (listed.setIfInBounds (n + j) true).getD (n + j) false = true := by simp [hlt]
        have hset : ∀ i, i ≠ j → (listed.setIfInBounds (n + j) true).getD (n + i) false = listed.getD (n + i) false := fun i hij => getD_set_ne false (by omega)
        unfold wpOp
        simp only [ho]
        rw [if_pos (by unfold Region.wanted; rw [hg])]
        left
        unfold Oper.wp
        rw [hal j hj o ho]
        simp only [Oper.upon]
        obtain ⟨u, rfl⟩ := hw
        have hb1 : Below u.val.heap.size u.val (u.val.alloc (objs j)) := balloc (Below.refl _ _) _
        have hsize : (u.val.alloc (objs j)).heap.size = u.val.heap.size + 1 := by show (u.val.heap.push _).size = _; simp
        have := ih k listed0 (listed.setIfInBounds (n + j) true) a0 (fun i => if i = n + j then u.val.heap.size else blk i) (u.val.alloc (objs j)) (by
            have := cntC_add (n := n) (i := j) (done := fun j => listed.getD j false) (done' := fun i => (listed.setIfInBounds (n + j) true).getD i false) m hdf hdt hset hj
            omega) inv (by simpa using hsz) (fun i' hi' => by
            rw [Array.getElem?_setIfInBounds_ne (by omega)]; exact hR i' hi') ⟨Up.of (w' := u.val.alloc (objs j)) (btrans u.ok hb1), rfl⟩ (by
              have hk := hB.keep hb1
              refine ⟨fun i HX hd => ?_, fun i i' HX HX' hd hd' hne => ?_⟩
              · by_cases hij : i = j
                · subst hij
                  simp only [if_true]
                  refine ⟨u.ok.size, by omega, ?_⟩
                  show (u.val.heap.push _)[u.val.heap.size]? = _
                  simp
                · simp only [show (n + i = n + j) = False by simp [hij], if_false]
                  exact hk.1 i HX ((hset i hij).symm.trans hd)
              · by_cases hij : i = j
                · subst hij
                  have hij' : i' ≠ i := fun h => hne h.symm
                  simp only [if_true, show (n + i' = n + i) = False by simp [hij'], if_false]
                  have := (hB.1 i' HX' ((hset i' hij').symm.trans hd')).2.1
                  omega
                · by_cases hij' : i' = j
                  · subst hij'
                    simp only [if_true, show (n + i = n + i') = False by simp [hij], if_false]
                    have := (hB.1 i HX ((hset i hij).symm.trans hd)).2.1
                    omega
                  · simp only [show (n + i = n + j) = False by simp [hij], show (n + i' = n + j) = False by simp [hij'], if_false]
                    exact hB.2 i i' HX HX' ((hset i hij).symm.trans hd) ((hset i' hij').symm.trans hd') hne) H
        rw [putsC_add (M := m) (i := j) (B := u.val.heap.size) (blk := blk) (done := fun j => listed.getD j false) (fun x x' hx hx' hxx y y' hy hy' => by
            obtain ⟨_, _, z, hz, _, _, _, h4⟩ := free x hx
            have : y = z := Option.some.inj (hy.symm.trans hz)
            subst this
            exact h4 x' y' hx' (Ne.symm hxx) hy') a0 hdf hdt (by simp) (fun i hij => ⟨hset i hij, by simp [hij]⟩) hj (Nat.le_refl _)] at this
        simpa [ho] using this
      · -- none of the last ones is ready
        exfalso
        cases k with
        | succ k =>
          obtain ⟨i0, hi0, hi0n⟩ := (H (Up.of (Below.refl _ _))).1
          exact tail_waitsA hs hc hn inv' _ i0 rfl hi0n (mem_ready.1 (up i0 hi0n hi0)).1 i him hi
        | zero =>
          obtain ⟨j, hj, hd⟩ := undone rfl
          obtain ⟨_, oi, hoi, hall⟩ := mem_ready.1 hi
          have hilt : i < ops.size := (Array.getElem?_eq_some_iff.1 hoi).1
          by_cases hiN : i = n + m
          · subst hiN
            obtain ⟨o', ho', e, he, hb, hon⟩ := Region.waitsFor_spec (free j hj).2.1
            have : o' = oi := Option.some.inj (ho'.symm.trans hoi)
            subst this
            have h2 := hall e he hb
            rw [hon, hd] at h2
            cases h2
          · have h1 := List.all_eq_true.1 hc i (List.mem_range.2 hilt)
            simp only [Bool.or_eq_true, decide_eq_true_eq] at h1
            rcases h1 with h1 | h1
            · omega
            · obtain ⟨o', ho', e, he, hb, hon⟩ := Region.waitsFor_spec h1
              have : o' = oi := Option.some.inj (ho'.symm.trans hoi)
              subst this
              have h2 := hall e he hb
              rw [hon, getD_both (inv'.tail (i - 1) (by omega) (by omega))] at h2
              cases h2
end

theorem quiet_end {P : Program} {ops : Array Oper} {C : World → Prop} {Q Q' : Act → Prop} (hq : ∀ a, Q a → Q' a) (l : List Oper) : ∀ a, wpQuiet P ops C Q l a → wpQuiet P ops C Q' l a := by
  induction l with
  | nil => exact fun a h => hq a h
  | cons o l ih =>
    intro a h
    unfold wpQuiet at h ⊢
    split
    · rename_i hw
      simp only [hw, if_true] at h
      exact Oper.quiet_mono ih h
    · rename_i hw
      simp only [hw] at h
      exact ih _ h

theorem quiet_late {P : Program} {ops : Array Oper} {N : Nat} {late : List Nat} {C : World → Prop} {Q : Act → Prop} (l : List Oper) : ∀ a, wpQuiet P ops C Q l a → wpQuiet P (withLate ops N late) C Q l a := by
  induction l with
  | nil => exact fun a h => h
  | cons o l ih =>
    intro a h
    unfold wpQuiet at h ⊢
    rw [late_yielded]
    split
    · rename_i hw
      simp only [hw, if_true] at h
      exact Oper.quiet_mono ih h
    · rename_i hw
      simp only [hw] at h
      exact ih _ h

theorem any_of_seq_late {P : Program} {ops : Array Oper} {N : Nat} {late : List Nat} {md : Region.Mode} {Q' : Exit → Act → World → Prop} (l : List Oper) : ∀ (k : Nat) (listed : Array Bool) (a : Act) (w : World), (∀ j, l[j]? = ops[k + j]?) →
    Region.seqB md (withLate ops N late) l.length k listed = true → wpList P ops Q' l a w → wpAny P md (withLate ops N late) Q' l.length listed a w := by
  induction l with
  | nil => exact fun k listed a w hl hB h => ⟨by simpa [Region.seqB] using hB, h⟩
  | cons o l ih =>
    intro k listed a w hl hB h
    have h0 : ops[k]? = some o := by simpa using (hl 0).symm
    simp only [List.length_cons, Region.seqB, Bool.and_eq_true, decide_eq_true_eq] at hB
    refine ⟨fun h1 => (by rw [hB.1] at h1; cases h1), fun i hi => ?_⟩
    rw [hB.1] at hi
    have hik : i = k := by simpa using hi
    subst hik
    have hw : wpOp P ops Q' i (wpList P ops Q' l) a w := by unfold wpOp; simp only [h0]; exact h
    rw [late_wpOp]
    exact wpOp_mono (fun a' w' h' => ih (i + 1) _ a' w' (fun j => by have := hl (j + 1); simpa [Nat.add_assoc, Nat.add_comm 1 j] using this) hB.2 h') hw

/-- the Bool over a region: n operations of the head, m allocs, the forced end; 'late': those of the head that may come behind the first of the end -/
def lexAllocB (ops : Array Oper) (n m : Nat) (late : List Nat) : Bool :=
  let ops' := withLate ops (n + m) late
  lateB ops (n + m) late && (Region.noSelect ops' && sinkA .any ops' n m && chainA .any ops' n m && freeA .any ops' n m && lexHeadA .any ops' n m (ops.size - (n + m)) n 0 (Array.replicate ops.size false))

theorem wp_region_alloc {P : Program} {id : Nat} {Q : Exit → Act → World → Prop} {a : Act} {w : World} {l : List Oper} (n m : Nat) (late : List Nat) (objs : Nat → Obj) (hm : P.follows .mixedOrders = true) (hB : lexAllocB l.toArray n m late = true)
    (hQ : ∀ d v c a w, Q (.panic c) (Act.put a d v) w → Q (.panic c) a w) (hal : allocOk P objs l.toArray n m)
    (h : ∀ u0 : Up w, wpQuiet P l.toArray (fun w' => ∃ u : Up u0.val, w' = u.val) (fun a' => ∀ w', (∃ u : Up w, w' = u.val) → ∀ blk, BlkAt w w' n m objs blk (fun _ => true) → wpList P l.toArray Q (l.drop (n + m)) (putsC l.toArray n blk (fun _ => true) m a') w') (l.take n) a) : (Code.region id l.toArray true).wp P Q a w := by
  simp only [lexAllocB, Bool.and_eq_true] at hB
  obtain ⟨hlate, ⟨⟨⟨hsel, hs⟩, hc⟩, hf⟩, hlex⟩ := hB
  have hn : n + m < l.toArray.size := by
    have := hlate
    simp only [lateB, Bool.and_eq_true, decide_eq_true_eq] at this
    exact this.1.2
  have hn' : n + m < l.length := by simpa using hn
  have htl : (l.take n).length = n := by simp; omega
  have hdl : (l.drop (n + m)).length = l.toArray.size - (n + m) := by simp
  have inv0 : HeadInv .any (withLate l.toArray (n + m) late) n (Array.replicate l.toArray.size false) :=
    ⟨by simp [late_size], fun j oj _ hl => (by rw [getD_replicate_false] at hl; cases hl), fun t _ ht => getD_in (by simpa [late_size] using ht) (getD_replicate_false _ _)⟩
  refine wp_region_any hm (any_late hQ hlate _ _ _ _ (by simp) ?_)
  have T := any_of_alloc (P := P) (ops := withLate l.toArray (n + m) late) (md := .any) (n := n) (m := m) (g := l.toArray.size - (n + m)) (w0 := w) (objs := objs) (Q' := Q)
    (Lq := fun a' => ∀ w', (∃ u : Up w, w' = u.val) → ∀ blk, BlkAt w w' n m objs blk (fun _ => true) → wpList P l.toArray Q (l.drop (n + m)) (putsC l.toArray n blk (fun _ => true) m a') w')
    (Region.noSelect_spec hsel) hs hc hf (by rw [late_size]; exact hn) (fun j hj o ho => by
      rw [late_ne (by omega)] at ho
      exact hal j hj o ho)
    (fun listed0 a0 blk w' hE hq hw hb => by
      have h1 := hq w' hw blk hb
      have e : putsC (withLate l.toArray (n + m) late) n blk (fun _ => true) m a0 = putsC l.toArray n blk (fun _ => true) m a0 := by
        have : ∀ k, k ≤ m → putsC (withLate l.toArray (n + m) late) n blk (fun _ => true) k a0 = putsC l.toArray n blk (fun _ => true) k a0 := by
          intro k
          induction k with
          | zero => exact fun _ => rfl
          | succ k ih =>
            intro hk
            simp only [putsC]
            rw [ih (by omega), late_ne (by omega)]
        exact this m (Nat.le_refl _)
      rw [e]
      simp only [endB, Bool.and_eq_true] at hE
      have := any_of_seq_late (P := P) (md := .any) (Q' := Q) (l.drop (n + m)) (n + m) (markAll n m listed0) _ w' (fun j => by simp [List.getElem?_drop]) (by rw [hdl]; exact hE.2) h1
      rwa [hdl] at this)
    (n + m) n _ (Array.replicate l.toArray.size false) a (fun _ => 0) w.drew (by
      rw [cntC_none m (fun j _ => getD_replicate_false _ _)]) inv0 (by simp [late_size]) (fun j _ => rfl) ⟨Up.of (w' := w.drew) (Below.drew (Below.refl _ _)), rfl⟩ ⟨fun j _ hd => absurd ((getD_replicate_false _ _).symm.trans hd) Bool.false_ne_true, fun j _ _ _ hd => absurd ((getD_replicate_false _ _).symm.trans hd) Bool.false_ne_true⟩ (fun u0 => by
        have := head_lexA (P := P) (C := fun w' => ∃ u : Up u0.val, w' = u.val) (g := l.toArray.size - (n + m)) hsel hs hc (by rw [late_size]; exact hn) (l.take n) 0 (Array.replicate l.toArray.size false) a (fun j hj => by
            have hj' : j < n := by rw [htl] at hj; exact hj
            rw [late_ne (by omega)]
            simp [hj']) (by simpa using htl) inv0 (by rw [htl]; exact hlex) (quiet_late _ _ (h u0))
        rwa [htl] at this)
  rw [putsC_none m a (fun j _ => getD_replicate_false _ _), show n + m + (l.toArray.size - (n + m)) = l.toArray.size by omega] at T
  exact T

/-- the head walked in every world's class, no alloc: some of the head may come late -/
theorem wp_region_late {P : Program} {id : Nat} {Q : Exit → Act → World → Prop} {a : Act} {w : World} {l : List Oper} (n : Nat) (late : List Nat) (hm : P.follows .mixedOrders = true) (hB : lexAllocB l.toArray n 0 late = true)
    (hQ : ∀ d v c a w, Q (.panic c) (Act.put a d v) w → Q (.panic c) a w)
    (h : ∀ u0 : Up w, wpQuiet P l.toArray (fun w' => ∃ u : Up u0.val, w' = u.val) (fun a' => ∀ w', (∃ u : Up w, w' = u.val) → wpList P l.toArray Q (l.drop n) a' w') (l.take n) a) : (Code.region id l.toArray true).wp P Q a w :=
  wp_region_alloc n 0 late (fun _ => .cells #[] 0) hm hB hQ (fun j hj => by omega) (fun u0 => quiet_end (fun a' h1 w' hw' blk _ => h1 w' hw') _ _ (h u0))

/-- one alloc behind the head -/
theorem wp_region_alloc1 {P : Program} {id : Nat} {Q : Exit → Act → World → Prop} {a : Act} {w : World} {l : List Oper} (n : Nat) (late : List Nat) (obj : Obj) (o : Oper) (hm : P.follows .mixedOrders = true) (hB : lexAllocB l.toArray n 1 late = true)
    (hQ : ∀ d v c a w, Q (.panic c) (Act.put a d v) w → Q (.panic c) a w) (ho : l.toArray[n]? = some o) (hal : ∀ ρ w, (execOp ρ o).run P w = .ok (.value (.pointer (some ⟨w.heap.size, 0, none⟩))) (w.alloc obj))
    (h : ∀ u0 : Up w, wpQuiet P l.toArray (fun w' => ∃ u : Up u0.val, w' = u.val) (fun a' => ∀ w', (∃ u : Up w, w' = u.val) → ∀ B, w.heap.size ≤ B → B < w'.heap.size → w'.heap[B]? = some obj →
      wpList P l.toArray Q (l.drop (n + 1)) (a'.put o.dst (.pointer (some ⟨B, 0, none⟩))) w') (l.take n) a) : (Code.region id l.toArray true).wp P Q a w :=
  wp_region_alloc n 1 late (fun _ => obj) hm hB hQ (fun j hj o' ho' ρ w => by
      have hj0 : j = 0 := by omega
      subst hj0
      have : o' = o := Option.some.inj (ho'.symm.trans ho)
      subst this
      exact hal ρ w) (fun u0 => quiet_end (fun a' h1 w' hw' blk hb => by
        have h2 := hb.1 0 (by omega) rfl
        have h3 := h1 w' hw' _ h2.1 h2.2.1 h2.2.2
        simpa [putsC, ho] using h3) _ _ (h u0))

/-- two allocs behind the head -/
theorem wp_region_alloc2 {P : Program} {id : Nat} {Q : Exit → Act → World → Prop} {a : Act} {w : World} {l : List Oper} (n : Nat) (late : List Nat) (obj obj' : Obj) (o o' : Oper) (hm : P.follows .mixedOrders = true) (hB : lexAllocB l.toArray n 2 late = true)
    (hQ : ∀ d v c a w, Q (.panic c) (Act.put a d v) w → Q (.panic c) a w) (ho : l.toArray[n]? = some o) (ho' : l.toArray[n + 1]? = some o') (hal : ∀ ρ w, (execOp ρ o).run P w = .ok (.value (.pointer (some ⟨w.heap.size, 0, none⟩))) (w.alloc obj))
    (hal' : ∀ ρ w, (execOp ρ o').run P w = .ok (.value (.pointer (some ⟨w.heap.size, 0, none⟩))) (w.alloc obj'))
    (h : ∀ u0 : Up w, wpQuiet P l.toArray (fun w' => ∃ u : Up u0.val, w' = u.val) (fun a' => ∀ w', (∃ u : Up w, w' = u.val) → ∀ B B', (w.heap.size ≤ B ∧ B < w'.heap.size ∧ w'.heap[B]? = some obj) → (w.heap.size ≤ B' ∧ B' < w'.heap.size ∧ w'.heap[B']? = some obj') → B ≠ B' →
      wpList P l.toArray Q (l.drop (n + 2)) ((a'.put o.dst (.pointer (some ⟨B, 0, none⟩))).put o'.dst (.pointer (some ⟨B', 0, none⟩))) w') (l.take n) a) : (Code.region id l.toArray true).wp P Q a w :=
  wp_region_alloc n 2 late (fun j => if j = 0 then obj else obj') hm hB hQ (fun j hj x hx ρ w => by
      by_cases hj0 : j = 0
      · subst hj0
        have : x = o := Option.some.inj (hx.symm.trans ho)
        subst this
        exact hal ρ w
      · have hj1 : j = 1 := by omega
        subst hj1
        have : x = o' := Option.some.inj (hx.symm.trans ho')
        subst this
        exact hal' ρ w) (fun u0 => quiet_end (fun a' h1 w' hw' blk hb => by
        have h3 := h1 w' hw' _ _ (hb.1 0 (by omega) rfl) (hb.1 1 (by omega) rfl) (hb.2 0 1 (by omega) (by omega) rfl rfl (by omega))
        simpa [putsC, ho, ho'] using h3) _ _ (h u0))

/-- three allocs behind the head -/
theorem wp_region_alloc3 {P : Program} {id : Nat} {Q : Exit → Act → World → Prop} {a : Act} {w : World} {l : List Oper} (n : Nat) (late : List Nat) (obj : Obj) (o o' o'' : Oper) (hm : P.follows .mixedOrders = true) (hB : lexAllocB l.toArray n 3 late = true)
    (hQ : ∀ d v c a w, Q (.panic c) (Act.put a d v) w → Q (.panic c) a w) (ho : l.toArray[n]? = some o) (ho' : l.toArray[n + 1]? = some o') (ho'' : l.toArray[n + 2]? = some o'') (hal : ∀ ρ w, (execOp ρ o).run P w = .ok (.value (.pointer (some ⟨w.heap.size, 0, none⟩))) (w.alloc obj))
    (hal' : ∀ ρ w, (execOp ρ o').run P w = .ok (.value (.pointer (some ⟨w.heap.size, 0, none⟩))) (w.alloc obj)) (hal'' : ∀ ρ w, (execOp ρ o'').run P w = .ok (.value (.pointer (some ⟨w.heap.size, 0, none⟩))) (w.alloc obj))
    (h : ∀ u0 : Up w, wpQuiet P l.toArray (fun w' => ∃ u : Up u0.val, w' = u.val) (fun a' => ∀ w', (∃ u : Up w, w' = u.val) → ∀ B B' B'', (w.heap.size ≤ B ∧ B < w'.heap.size ∧ w'.heap[B]? = some obj) → (w.heap.size ≤ B' ∧ B' < w'.heap.size ∧ w'.heap[B']? = some obj) →
      (w.heap.size ≤ B'' ∧ B'' < w'.heap.size ∧ w'.heap[B'']? = some obj) → B ≠ B' → B ≠ B'' → B' ≠ B'' →
      wpList P l.toArray Q (l.drop (n + 3)) (((a'.put o.dst (.pointer (some ⟨B, 0, none⟩))).put o'.dst (.pointer (some ⟨B', 0, none⟩))).put o''.dst (.pointer (some ⟨B'', 0, none⟩))) w') (l.take n) a) : (Code.region id l.toArray true).wp P Q a w :=
  wp_region_alloc n 3 late (fun j => obj) hm hB hQ (fun j hj x hx ρ w => by
      have : x = o ∨ x = o' ∨ x = o'' := by
        match j, hj, hx with
        | 0, _, hx => exact .inl (Option.some.inj (hx.symm.trans ho))
        | 1, _, hx => exact .inr (.inl (Option.some.inj (hx.symm.trans ho')))
        | 2, _, hx => exact .inr (.inr (Option.some.inj (hx.symm.trans ho'')))
      rcases this with rfl | rfl | rfl
      · exact hal ρ w
      · exact hal' ρ w
      · exact hal'' ρ w) (fun u0 => quiet_end (fun a' h1 w' hw' blk hb => by
        have h3 := h1 w' hw' _ _ _ (hb.1 0 (by omega) rfl) (hb.1 1 (by omega) rfl) (hb.1 2 (by omega) rfl) (hb.2 0 1 (by omega) (by omega) rfl rfl (by omega)) (hb.2 0 2 (by omega) (by omega) rfl rfl (by omega)) (hb.2 1 2 (by omega) (by omega) rfl rfl (by omega))
        simpa [putsC, ho, ho', ho''] using h3) _ _ (h u0))

/-- a stop behind a list of operations: the walk halts at 'K a w' -/
def stopAt (Q : Exit → Act → World → Prop) (K : Act → World → Prop) : Exit → Act → World → Prop
  | .normal, a, w => K a w
  | e, a, w => Q e a w
theorem wpList_stop {P : Program} {ops : Array Oper} {Q : Exit → Act → World → Prop} {l : List Oper} {a : Act} {w : World}
    (h : ∀ K : Act → World → Prop, Hid (∀ a w, Q .normal a w → K a w) → wpList P ops (stopAt Q K) l a w) : wpList P ops Q l a w := by
  have h1 := h (Q .normal) (Lib.hid fun _ _ h => h)
  have e : stopAt Q (Q .normal) = Q := by funext e a w; cases e <;> rfl
  rwa [e] at h1
end Go.Proofs.Ytegpjjkbbdfggaa.bs

/-
  Layer 37: what the laws of pages begin with: an image and a matrix by numbers.
-/
namespace Go.Proofs.Ytegpjjkbbdfggaa.im
set_option linter.unusedVariables false
set_option linter.unusedSimpArgs false
open Go.RowKit bs mt op

theorem alloc_img2 (dst : Option Tmp) (ty : TypeId) (pos : String) (after : Array Edge) (guard : Option (Nat × Bool)) (ρ : Operand → Value) (w : World) :
    (execOp ρ ⟨dst, .alloc 23, ty, pos, after, guard⟩).run Try.prog w = .ok (.value (.pointer (some ⟨w.heap.size, 0, none⟩))) (w.alloc (.cells #[.int .i64 0, .int .i64 0, .int .i64 0, .string ⟨#[]⟩] 23)) := by kernel_rfl
theorem alloc_mat2 (dst : Option Tmp) (ty : TypeId) (pos : String) (after : Array Edge) (guard : Option (Nat × Bool)) (ρ : Operand → Value) (w : World) :
    (execOp ρ ⟨dst, .alloc 25, ty, pos, after, guard⟩).run Try.prog w = .ok (.value (.pointer (some ⟨w.heap.size, 0, none⟩))) (w.alloc (.cells #[.int .i64 0, .int .i64 0, .int .i64 0, .int .i64 0, .int .i64 0, .int .i64 0] 25)) := by kernel_rfl
theorem made_b (A : Option Addr) (n c : Nat) (ns : Nat → Int) (bits : Int) (hn : n ≤ 9223372036854775807) : ∃ (W H B : Int) (s : ByteArray), B = 2 ^ (bits % 4).toNat ∧ mayI W H B s.size = true ∧ W ≤ 9 ∧ H ≤ 9 ∧
    ∀ w, Ints w A n c ns → Calls Try.prog 23 #[.slice A n c, .int .i64 bits] w fun ed w' => ed = .returned (.agg #[.int .i64 W, .int .i64 H, .int .i64 B, .string s]) ∧ Below w.heap.size w w' := by
  have HP := fun W => place_any bits 4 W (by decide) (by decide)
  have he : 0 ≤ bits % 4 ∧ bits % 4 < 4 := by omega
  generalize bits % 4 = e at *
  obtain ⟨B, hB, hBs⟩ : ∃ B : Int, (2 : Int) ^ e.toNat = B ∧ (B = 1 ∨ B = 2 ∨ B = 4 ∨ B = 8) := by
    rcases (show e = 0 ∨ e = 1 ∨ e = 2 ∨ e = 3 by omega) with rfl | rfl | rfl | rfl
    · exact ⟨1, by decide, by decide⟩
    · exact ⟨2, by decide, by decide⟩
    · exact ⟨4, by decide, by decide⟩
    · exact ⟨8, by decide, by decide⟩
  have hb : bitsB B = true := by rcases hBs with rfl | rfl | rfl | rfl <;> rfl
  have size_mk : ∀ L, ((⟨(madeL ns n L).toArray⟩ : ByteArray).size : Int) = (L : Int) := fun L => by
    show (((madeL ns n L).toArray).size : Int) = _
    simp [madeL_len]
  by_cases hn1 : 1 < n
  · have h0 : 0 ≤ ns 0 % 9 ∧ ns 0 % 9 < 9 := by omega
    have h1 : 0 ≤ ns 1 % 9 ∧ ns 1 % 9 < 9 := by omega
    obtain ⟨Wn, hWn⟩ := Int.eq_ofNat_of_zero_le (show 0 ≤ 1 + ns 0 % 9 by omega)
    obtain ⟨Hn, hHn⟩ := Int.eq_ofNat_of_zero_le (show 0 ≤ 1 + ns 1 % 9 by omega)
    have hr := rowI_bd (W := (Wn : Int)) (B := B) ⟨by omega, by omega⟩ (by omega)
    have hr9 : rowI (Wn : Int) B ≤ 9 := by
      have h1 := Int.mul_le_mul_of_nonneg_right (show (Wn : Int) ≤ 9 by omega) (show 0 ≤ B by omega)
      unfold rowI
      omega
    obtain ⟨R, hR⟩ := Int.eq_ofNat_of_zero_le (show 0 ≤ rowI (Wn : Int) B by omega)
    have hR1 : 1 ≤ R ∧ R ≤ 9 := by omega
    have hHR : Hn * R ≤ 81 := Nat.mul_le_mul (show Hn ≤ 9 by omega) hR1.2
    refine ⟨Wn, Hn, B, _, hB.symm, ?_, by omega, by omega, fun w hw => made_some A n c ns bits B e Wn Hn R (Hn * R) w hw hn (by omega) (by omega) he.1 he.2 hB (Lib.hid HP) hn1 hWn hHn (by omega) (by omega) (by omega) (by omega) hR (by push_cast; rfl) hHR⟩
    unfold mayI
    rw [hb, size_mk, show sidesB (Wn : Int) (Hn : Int) = true by unfold sidesB; simp; omega, hR]
    push_cast
    simp
  · refine ⟨1, 1, B, _, hB.symm, ?_, by decide, by decide, fun w hw => made_none A n c ns bits B e w hw hn (by omega) (by omega) he.1 he.2 hB (Lib.hid HP) hn1 (by omega)⟩
    unfold mayI
    rw [hb, size_mk, show rowI 1 B = 1 by unfold rowI; omega]
    rfl

theorem may_size {W H B : Int} {s : ByteArray} (hmay : mayI W H B s.size = true) : (s.size : Int) ≤ 9223372036854775807 := by
  obtain ⟨hB, hW, hH, hsz⟩ := mayI_bd hmay
  have h1 := rowI_bd hW (show 1 ≤ B ∧ B ≤ 8 by omega)
  have h2 := area_bd hH h1.2.2
  omega
theorem turn_b (a0 a1 a2 a3 a4 a5 : Int) : ∃ a b c d e f : Int, mayB a b c d e f = true ∧ ∀ W, Calls Try.prog 24 #[.agg #[.int .i64 a0, .int .i64 a1, .int .i64 a2, .int .i64 a3, .int .i64 a4, .int .i64 a5]] W fun ed w' => ed = .returned (.agg #[.int .i64 a, .int .i64 b, .int .i64 c, .int .i64 d, .int .i64 e, .int .i64 f]) ∧ Below W.heap.size W w' := by
  obtain ⟨i0, i1, i2, i3, i4, i5, q0, q1, q2, q3, q4, q5, hTu⟩ := turn_any a0 a1 a2 a3 a4 a5 default
  refine ⟨_, _, _, _, _, _, ?_, hTu⟩
  unfold mayB
  rw [fixB_true (by omega), fixB_true (by omega), fixB_true (by omega), fixB_true (by omega), fixB_true (by omega), fixB_true (by omega)]
  rfl
theorem new_pg37 (W H N : Nat) (w : World) (hW : 1 ≤ W ∧ W ≤ 64) (hH : 1 ≤ H ∧ H ≤ 64) (hN : N = 3 * (W * H)) :
    Calls Try.prog 35 #[.int .i64 (W : Int), .int .i64 (H : Int)] w fun e w' => ∃ b o c, e = .returned (.tuple #[.agg #[.int .i64 (W : Int), .int .i64 (H : Int), .slice (some ⟨b, o, none⟩) N c], .int .i64 0]) ∧ rg.Pg w' (some ⟨b, o, none⟩) N c (fun _ => 255) ∧ Below w.heap.size w w' := by
  have hs := rg.page_size hW hH
  refine (ik.new_yes W H w hW hH).mono ?_
  rintro e w' ⟨A, n, c, he, ⟨h1, h2, h3⟩, hb⟩
  have hn : n = N := by rw [← h1, hN]; simp
  subst hn
  obtain ⟨b, o, rfl, hlt, hc⟩ := h3 (by omega)
  refine ⟨b, o, c, he, ⟨h2, b, o, rfl, hlt, fun j hj => ⟨?_, show (0 : Int) ≤ 255 by decide, show (255 : Int) ≤ 255 by decide⟩⟩, hb⟩
  rw [hc j (by rw [h1]; exact hj)]
  simp
end Go.Proofs.Ytegpjjkbbdfggaa.im

/-
  A region that draws its order: quiet operations, then calls in a chain whose values hang on the world, allocs that may come at any time, a forced end.
-/
namespace Go.Proofs.Ytegpjjkbbdfggaa.bs
set_option linter.unusedVariables false
set_option linter.unusedSimpArgs false
open Go.RowKit

section
variable {P : Program} {ops : Array Oper} {md : Region.Mode}

def upC (w : World) : World → Prop := fun w' => ∃ u : Up w, w' = u.val
/-- operation i calls; the callee returns; what lay lies -/
def stepV (P : Program) (ops : Array Oper) (i : Nat) (K : Act → World → Prop) (a : Act) (w : World) : Prop :=
  ∃ o, ops[i]? = some o ∧ Region.wanted o (yielded ops a.tmps) = true ∧ ∃ f args, (execOp a.eval o).run P w = .ok (.enter f args) w ∧ Calls P f args w fun e w' => ∃ v, e = .returned v ∧ Below w.heap.size w w' ∧ K (a.put o.dst v) w'
theorem stepV_mono {i : Nat} {K K' : Act → World → Prop} {a : Act} {w : World} (h : stepV P ops i K a w) (hk : ∀ a' w', K a' w' → K' a' w') : stepV P ops i K' a w := by
  obtain ⟨o, h1, h2, f, args, h3, h4⟩ := h
  exact ⟨o, h1, h2, f, args, h3, h4.mono fun e w' ⟨v, e1, e2, e3⟩ => ⟨v, e1, e2, hk _ _ e3⟩⟩
/-- the head in whatever order; ahead of each of its operations the world may have grown -/
def anyHeadW (P : Program) (md : Region.Mode) (ops : Array Oper) (n m : Nat) (L : Array Bool → Act → World → Prop) : Nat → Array Bool → Act → World → Prop
  | 0, listed, a, w => ∀ w', Below w.heap.size w w' → L listed a w'
  | k + 1, listed, a, w => (∃ i ∈ Region.ready md ops listed, i < n) ∧ ∀ w', Below w.heap.size w w' → ∀ i ∈ Region.ready md ops listed, (n ≤ i ∧ i < n + m) ∨ i < n ∧
      ((∃ oi v, ops[i]? = some oi ∧ YieldsIn P ops (upC w') oi v a ∧ anyHeadW P md ops n m L k (listed.setIfInBounds i true) (a.put oi.dst v) w') ∨ stepV P ops i (anyHeadW P md ops n m L k (listed.setIfInBounds i true)) a w')
theorem anyHeadW.up {n m k : Nat} {L : Array Bool → Act → World → Prop} {listed : Array Bool} {a : Act} {w w' : World} (h : anyHeadW P md ops n m L k listed a w) (hb : Below w.heap.size w w') : anyHeadW P md ops n m L k listed a w' := by
  cases k with
  | zero => exact fun w'' h2 => h w'' (btrans hb h2)
  | succ k => exact ⟨h.1, fun w'' h2 => h.2 w'' (btrans hb h2)⟩
theorem puts_all {n : Nat} {blk : Nat → Nat} {done : Nat → Bool} {oi : Oper} (hsi : ∀ cs b, oi.op ≠ .select cs b) (m : Nat) (hap : ∀ j, j < m → ∀ o, ops[n + j]? = some o → o.apart ops oi = true) (a : Act) :
    execOp (putsC ops n blk done m a).eval oi = execOp a.eval oi ∧ Region.wanted oi (yielded ops (putsC ops n blk done m a).tmps) = Region.wanted oi (yielded ops a.tmps) ∧ ∀ v, (putsC ops n blk done m a).put oi.dst v = putsC ops n blk done m (a.put oi.dst v) := by
  induction m with
  | zero => exact ⟨rfl, rfl, fun _ => rfl⟩
  | succ m ih =>
    obtain ⟨h1, h2, h3⟩ := ih (fun j hj => hap j (by omega))
    simp only [putsC]
    split
    · cases ho : ops[n + m]? with
      | none => exact ⟨h1, h2, h3⟩
      | some o =>
        obtain ⟨p1, p2, p3⟩ := Oper.apart_spec (hap m (by omega) o ho)
        refine ⟨(execOp_put oi hsi _ _ _ p1).trans h1, (wanted_put oi _ _ _ p1).trans h2, fun v => ?_⟩
        rw [← h3]
        exact Act.put_comm _ _ _ p2
    · exact ⟨h1, h2, h3⟩

theorem head_firstW {n m i : Nat} {oi : Oper} {v : Value} {L : Array Bool → Act → World → Prop} (hi : ops[i]? = some oi) (hsel : ∀ (j : Nat) (o : Oper) cs b, ops[j]? = some o → o.op ≠ .select cs b)
    (hs : sinkA md ops n m = true) (hc : chainA md ops n m = true) (hn : n + m < ops.size) (hin : i < n) (hdone : ∀ listed a w, L listed a w → ∀ j ∈ Region.ready md ops listed, n ≤ j) (k : Nat) :
    ∀ (listed : Array Bool) (a : Act) (w : World), HeadInv md ops n listed →
      (∀ j oj, ops[j]? = some oj → j ≠ i → listed.getD j true = false → (∀ e ∈ oj.after, Region.binds md e = true → e.on ≠ i) → oi.apart ops oj = true) →
      i ∈ Region.ready md ops listed → (∀ u0 : Up w, YieldsIn P ops (upC u0.val) oi v a) →
      anyHeadW P md ops n m L k (listed.setIfInBounds i true) (a.put oi.dst v) w → anyHeadW P md ops n m L (k + 1) listed a w := by
  have small : ∀ {listed : Array Bool}, HeadInv md ops n listed → i ∈ Region.ready md ops listed → ∀ j ∈ Region.ready md ops listed, (n ≤ j ∧ j < n + m) ∨ j < n := by
    intro listed inv hr j hj
    rcases Nat.lt_or_ge j (n + m) with h | h
    · omega
    · exact absurd hj (tail_waitsA hs hc hn (invA_of inv) _ i rfl hin (mem_ready.1 hr).1 j h)
  induction k with
  | zero =>
    intro listed a w inv _ hr hy H
    refine ⟨⟨i, hr, hin⟩, fun w' hb j hj => ?_⟩
    rcases small inv hr j hj with h | h
    · exact .inl h
    · refine .inr ⟨h, ?_⟩
      by_cases hji : j = i
      · rw [hji]; exact .inl ⟨oi, v, hi, hy (Up.of hb), H.up hb⟩
      · exact absurd h (by have := hdone _ _ _ (H w (Below.refl _ _)) j (ready_mono hj hji); omega)
  | succ k ih =>
    intro listed a w inv hfree hr hy H
    refine ⟨⟨i, hr, hin⟩, fun w' hb j hj => ?_⟩
    rcases small inv hr j hj with h | hjn
    · exact .inl h
    · refine .inr ⟨hjn, ?_⟩
      by_cases hji : j = i
      · rw [hji]; exact .inl ⟨oi, v, hi, hy (Up.of hb), H.up hb⟩
      · obtain ⟨hjun, oj, hoj, hall⟩ := mem_ready.1 hj
        have hnot : ∀ e ∈ oj.after, Region.binds md e = true → e.on ≠ i := fun e he hb heq => by
          have h1 := hall e he hb
          rw [heq, getD_both (mem_ready.1 hr).1] at h1
          cases h1
        obtain ⟨p1, p2, p3⟩ := Oper.apart_spec (hfree j oj hoj hji hjun hnot)
        have hsi := fun cs b => hsel i oi cs b hi
        have hsj := fun cs b => hsel j oj cs b hoj
        have cont : ∀ (x : Value) (w'' : World), Below w'.heap.size w' w'' → anyHeadW P md ops n m L k ((listed.setIfInBounds i true).setIfInBounds j true) ((a.put oi.dst v).put oj.dst x) w'' → anyHeadW P md ops n m L (k + 1) (listed.setIfInBounds j true) (a.put oj.dst x) w'' := by
          intro x w'' hb2 h2
          refine ih (listed.setIfInBounds j true) (a.put oj.dst x) w'' (inv.set hj hjn) ?_ (ready_mono hr (Ne.symm hji)) (fun u0 => (hy (Up.of (w' := u0.val) (btrans (btrans hb hb2) u0.ok))).of_same (execOp_put oi hsi _ _ _ p3) (wanted_put oi _ _ _ p3)) ?_
          · intro o om hm hmi hun hno
            refine hfree o om hm hmi ?_ hno
            by_cases hjm : j = o
            · rw [← hjm]; exact hjun
            · rwa [getD_set_ne true hjm] at hun
          · rw [Array.setIfInBounds_comm _ _ hji, ← Act.put_comm _ _ _ p2]
            exact h2
        rcases H.2 w' hb j (ready_mono hj hji) with h | ⟨_, ⟨oj', x, hoj', hyj, h2⟩ | ⟨oj', hoj', hwt, f, args, hr', hC⟩⟩
        · omega
        · have : oj' = oj := Option.some.inj (hoj'.symm.trans hoj)
          subst this
          exact .inl ⟨oj', x, hoj, hyj.of_same (execOp_put oj' hsj _ _ _ p1).symm (wanted_put oj' _ _ _ p1).symm, cont x w' (Below.refl _ _) h2⟩
        · have : oj' = oj := Option.some.inj (hoj'.symm.trans hoj)
          subst this
          refine .inr ⟨oj', hoj, by rw [← wanted_put oj' a oi.dst v p1]; exact hwt, f, args, by rw [← execOp_put oj' hsj a oi.dst v p1]; exact hr', hC.mono ?_⟩
          rintro e w'' ⟨x, he, hb2, h2⟩
          exact ⟨x, he, hb2, cont x w'' hb2 h2⟩

/-- the chain of calls, each in a world that may have grown -/
def chainW (P : Program) (ops : Array Oper) (Lq : Act → World → Prop) : List Nat → Act → World → Prop
  | [], a, w => ∀ w', Below w.heap.size w w' → Lq a w'
  | i :: cs, a, w => ∀ w', Below w.heap.size w w' → stepV P ops i (chainW P ops Lq cs) a w'
theorem chainW.up {Lq : Act → World → Prop} {cs : List Nat} {a : Act} {w w' : World} (h : chainW P ops Lq cs a w) (hb : Below w.heap.size w w') : chainW P ops Lq cs a w' := by
  cases cs with
  | nil => exact fun w'' h2 => h w'' (btrans hb h2)
  | cons i cs => exact fun w'' h2 => h w'' (btrans hb h2)
def lexC (md : Region.Mode) (ops : Array Oper) (n m g : Nat) : List Nat → Array Bool → Bool
  | [], listed => endB md ops n m g listed
  | i :: cs, listed => (Region.ready md ops listed).contains i && decide (i < n) && (Region.ready md ops listed).all (fun j => j == i || (decide (n ≤ j) && decide (j < n + m))) && lexC md ops n m g cs (listed.setIfInBounds i true)
def lexW (md : Region.Mode) (ops : Array Oper) (n m g : Nat) (cs : List Nat) : List Nat → Array Bool → Bool
  | [], listed => lexC md ops n m g cs listed
  | i :: ps, listed => (Region.ready md ops listed).contains i && decide (i < n) && Region.free md ops listed i && lexW md ops n m g cs ps (listed.setIfInBounds i true)
theorem head_chainW {n m g : Nat} {Lq : Act → World → Prop} (cs : List Nat) : ∀ (listed : Array Bool) (a : Act) (w : World), HeadInv md ops n listed → lexC md ops n m g cs listed = true → chainW P ops Lq cs a w →
    anyHeadW P md ops n m (fun listed' a' w' => endB md ops n m g listed' = true ∧ Lq a' w') cs.length listed a w := by
  induction cs with
  | nil => exact fun listed a w inv hB h w' hb => ⟨hB, h w' hb⟩
  | cons i cs ih =>
    intro listed a w inv hB h
    simp only [lexC, Bool.and_eq_true, decide_eq_true_eq] at hB
    obtain ⟨⟨⟨hr, hin⟩, hall⟩, hB'⟩ := hB
    have hr' : i ∈ Region.ready md ops listed := by simpa using hr
    refine ⟨⟨i, hr', hin⟩, fun w' hb j hj => ?_⟩
    have h1 := List.all_eq_true.1 hall j hj
    simp only [Bool.or_eq_true, Bool.and_eq_true, beq_iff_eq, decide_eq_true_eq] at h1
    rcases h1 with rfl | h1
    · exact .inr ⟨hin, .inr (stepV_mono (h w' hb) fun a' w'' h2 => ih _ a' w'' (inv.set hr' hin) hB' h2)⟩
    · exact .inl h1
theorem head_quietW {n m g : Nat} {Lq : Act → World → Prop} (hsel : Region.noSelect ops = true) (hs : sinkA md ops n m = true) (hc : chainA md ops n m = true) (hn : n + m < ops.size) (cs ps : List Nat) :
    ∀ (listed : Array Bool) (a : Act) (w : World), HeadInv md ops n listed → lexW md ops n m g cs ps listed = true →
    (∀ u0 : Up w, wpQuiet P ops (upC u0.val) (fun a' => chainW P ops Lq cs a' w) (ps.filterMap fun i => ops[i]?) a) →
    anyHeadW P md ops n m (fun listed' a' w' => endB md ops n m g listed' = true ∧ Lq a' w') (cs.length + ps.length) listed a w := by
  induction ps with
  | nil => exact fun listed a w inv hB h => head_chainW cs listed a w inv hB (h (Up.of (Below.refl _ _)))
  | cons i ps ih =>
    intro listed a w inv hB h
    simp only [lexW, Bool.and_eq_true, decide_eq_true_eq] at hB
    obtain ⟨⟨⟨hr, hin⟩, hf⟩, hB'⟩ := hB
    have hr' : i ∈ Region.ready md ops listed := by simpa using hr
    obtain ⟨_, oi, hoi, _⟩ := mem_ready.1 hr'
    have h2 : ∀ u0 : Up w, ∃ v, YieldsIn P ops (upC u0.val) oi v a ∧ wpQuiet P ops (upC u0.val) (fun a' => chainW P ops Lq cs a' w) (ps.filterMap fun i => ops[i]?) (a.put oi.dst v) := fun u0 => by
      have h3 := h u0
      rw [List.filterMap_cons_some hoi] at h3
      exact yieldsIn_of_qOp (i := i) hoi (by unfold qOp; simp only [hoi]; exact h3)
    obtain ⟨v, hy, _⟩ := h2 (Up.of (Below.refl _ _))
    have same : ∀ u0 : Up w, YieldsIn P ops (upC u0.val) oi v a ∧ wpQuiet P ops (upC u0.val) (fun a' => chainW P ops Lq cs a' w) (ps.filterMap fun i => ops[i]?) (a.put oi.dst v) := fun u0 => by
      obtain ⟨v', hy', h'⟩ := h2 u0
      have : v = v' := yields_same hy hy' ⟨u0.val, ⟨Up.of (w' := u0.val) u0.ok, rfl⟩, ⟨Up.of (w' := u0.val) (Below.refl _ _), rfl⟩⟩
      subst this
      exact ⟨hy', h'⟩
    refine head_firstW hoi (Region.noSelect_spec hsel) hs hc hn hin (fun listed' a' w' hL j hj => ?_) (cs.length + ps.length) listed a w inv (Region.free_spec hoi hf) hr' (fun u0 => (same u0).1) (ih _ _ w (inv.set hr' hin) hB' fun u0 => (same u0).2)
    have h1 := hL.1
    simp only [endB, Bool.and_eq_true] at h1
    simpa using List.all_eq_true.1 h1.1 j hj

theorem any_of_allocW {n m g : Nat} {w0 : World} {objs : Nat → Obj} {Lq : Act → World → Prop} {Q' : Exit → Act → World → Prop} (hsel : ∀ (j : Nat) (o : Oper) cs b, ops[j]? = some o → o.op ≠ .select cs b)
    (hs : sinkA md ops n m = true) (hc : chainA md ops n m = true) (hf : freeA md ops n m = true) (hn : n + m < ops.size) (hal : allocOk P objs ops n m)
    (hL : ∀ listed0 a0 blk w', endB md ops n m g listed0 = true → Lq a0 w' → (∃ u : Up w0, w' = u.val) → BlkAt w0 w' n m objs blk (fun _ => true) → wpAny P md ops Q' g (markAll n m listed0) (putsC ops n blk (fun _ => true) m a0) w') (t : Nat) :
    ∀ (k : Nat) (listed0 listed : Array Bool) (a0 : Act) (blk : Nat → Nat) (w' : World), k + cntC n (fun j => listed.getD j false) m = t → HeadInv md ops n listed0 →
      listed.size = ops.size → (∀ j, ¬ (n ≤ j ∧ j < n + m) → listed[j]? = listed0[j]?) → (∃ u : Up w0, w' = u.val) → BlkAt w0 w' n m objs blk (fun j => listed.getD j false) →
      anyHeadW P md ops n m (fun listed' a' w' => endB md ops n m g listed' = true ∧ Lq a' w') k listed0 a0 w' →
      wpAny P md ops Q' (t + g) listed (putsC ops n blk (fun j => listed.getD j false) m a0) w' := by
  have free : ∀ j, j < m → (∀ i, i < n → Region.waitsFor md ops i (n + j) = false) ∧ Region.waitsFor md ops (n + m) (n + j) = true ∧ ∃ o, ops[n + j]? = some o ∧ (∀ e ∈ o.after, Region.binds md e = false) ∧ o.guard = none ∧
      (∀ i oi, i < n → ops[i]? = some oi → o.apart ops oi = true) ∧ ∀ i oi, i < m → i ≠ j → ops[n + i]? = some oi → o.apart ops oi = true := by
    intro j hj
    have h1 := List.all_eq_true.1 hf j (List.mem_range.2 hj)
    simp only [Bool.and_eq_true] at h1
    obtain ⟨⟨h2, h3⟩, h4⟩ := h1
    refine ⟨fun i hi => by simpa using List.all_eq_true.1 h2 i (List.mem_range.2 hi), h3, ?_⟩
    cases ho : ops[n + j]? with
    | none => rw [ho] at h4; cases h4
    | some o =>
      rw [ho] at h4
      simp only [Bool.and_eq_true] at h4
      obtain ⟨⟨⟨h5, h6⟩, h7⟩, h8⟩ := h4
      refine ⟨o, rfl, fun e he => by simpa using Array.all_eq_true_iff_forall_mem.1 h5 e he, by simpa using h6, fun i oi hi hoi => ?_, fun i oi hi hij hoi => ?_⟩
      · have := List.all_eq_true.1 h7 i (List.mem_range.2 hi)
        simpa [hoi] using this
      · have := List.all_eq_true.1 h8 i (List.mem_range.2 hi)
        simpa [hoi, hij] using this
  induction t with
  | zero =>
    intro k listed0 listed a0 blk w' hk inv hsz hR hw hB H
    have hk0 : k = 0 := by omega
    have hc0 : cntC n (fun j => listed.getD j false) m = 0 := by omega
    subst hk0
    obtain ⟨hE, hq⟩ := H w' (Below.refl _ _)
    have hd := cntC_zero m hc0
    have hlm : listed = markAll n m listed0 := by
      apply Array.ext_getElem?
      intro j
      rw [markAll_get m (by rw [inv.size]; omega)]
      by_cases h : n ≤ j ∧ j < n + m
      · rw [if_pos h]
        have h1 := hd (j - n) (by omega)
        rw [show n + (j - n) = j by omega] at h1
        have hlt : j < listed.size := by rw [hsz]; omega
        simpa [hlt] using h1
      · rw [if_neg h]; exact hR j h
    rw [Nat.zero_add, putsC_congr (blk := blk) (done := fun _ => true) m a0 (fun j hj => ⟨hd j hj, rfl⟩)]
    subst hlm
    exact hL listed0 a0 blk w' hE hq hw ⟨fun j hj _ => hB.1 j hj (hd j hj), fun j j' hj hj' _ _ => hB.2 j j' hj hj' (hd j hj) (hd j' hj')⟩
  | succ t ih =>
    intro k listed0 listed a0 blk w' hk inv hsz hR hw hB H
    have hget : ∀ j d, ¬ (n ≤ j ∧ j < n + m) → listed.getD j d = listed0.getD j d := fun j d h => by
      simp only [Array.getD_eq_getD_getElem?]
      rw [hR j h]
    have inv' : InvA md ops n m listed := ⟨hsz, fun j oj hj hoj hl e he hb => by
        rw [hget j false (by omega)] at hl
        have h1 := inv.closed j oj hoj hl e he hb
        by_cases h : n ≤ e.on ∧ e.on < n + m
        · have := (free (e.on - n) (by omega)).1 j hj
          rw [show n + (e.on - n) = e.on by omega] at this
          unfold Region.waitsFor at this
          simp only [hoj] at this
          have h2 : (oj.after.any fun e' => Region.binds md e' && e'.on == e.on) = true := Array.any_eq_true'.2 ⟨e, he, by simp [hb]⟩
          rw [h2] at this
          cases this
        · rw [hget _ _ h]; exact h1, fun t ht ht' => by rw [hget t true (by omega)]; exact inv.tail t (by omega) ht'⟩
    have up : ∀ i, i < n → i ∈ Region.ready md ops listed0 → i ∈ Region.ready md ops listed := by
      intro i hi hr
      obtain ⟨hun, oi, hoi, hall⟩ := mem_ready.1 hr
      refine mem_ready.2 ⟨by rw [hget i true (by omega)]; exact hun, oi, hoi, fun e he hb => ?_⟩
      by_cases h : n ≤ e.on ∧ e.on < n + m
      · have := (free (e.on - n) (by omega)).1 i hi
        rw [show n + (e.on - n) = e.on by omega] at this
        unfold Region.waitsFor at this
        simp only [hoi] at this
        have h2 : (oi.after.any fun e' => Region.binds md e' && e'.on == e.on) = true := Array.any_eq_true'.2 ⟨e, he, by simp [hb]⟩
        rw [h2] at this
        cases this
      · rw [hget _ _ h]; exact hall e he hb
    have down : ∀ i, i < n → i ∈ Region.ready md ops listed → i ∈ Region.ready md ops listed0 := by
      intro i hi hr
      obtain ⟨hun, oi, hoi, hall⟩ := mem_ready.1 hr
      refine mem_ready.2 ⟨by rw [← hget i true (by omega)]; exact hun, oi, hoi, fun e he hb => ?_⟩
      by_cases h : n ≤ e.on ∧ e.on < n + m
      · have := (free (e.on - n) (by omega)).1 i hi
        rw [show n + (e.on - n) = e.on by omega] at this
        unfold Region.waitsFor at this
        simp only [hoi] at this
        have h2 : (oi.after.any fun e' => Region.binds md e' && e'.on == e.on) = true := Array.any_eq_true'.2 ⟨e, he, by simp [hb]⟩
        rw [h2] at this
        cases this
      · rw [← hget _ _ h]; exact hall e he hb
    have undone : k = 0 → ∃ j, j < m ∧ listed.getD (n + j) false = false := fun hk0 => cntC_pos (done := fun j => listed.getD j false) m (by omega)
    have hready : Region.ready md ops listed ≠ [] := by
      cases k with
      | zero =>
        obtain ⟨j, hj, hd⟩ := undone rfl
        obtain ⟨_, _, o, ho, hb, _⟩ := free j hj
        have : n + j ∈ Region.ready md ops listed := mem_ready.2 ⟨getD_in (by rw [hsz]; omega) hd, o, ho, fun e he hb' => by rw [hb e he] at hb'; cases hb'⟩
        intro h; rw [h] at this; cases this
      | succ k =>
        obtain ⟨i, hi, hin⟩ := H.1
        have := up i hin hi
        intro h; rw [h] at this; cases this
    rw [Nat.add_right_comm]
    refine ⟨fun h => absurd h hready, fun i hi => ?_⟩
    rcases Nat.lt_or_ge i n with hin | hin
    · -- a head operation
      cases k with
      | zero =>
        have h1 := (H w' (Below.refl _ _)).1
        simp only [endB, Bool.and_eq_true] at h1
        have := List.all_eq_true.1 h1.1 i (down i hin hi)
        simp at this
        omega
      | succ k =>
        obtain ⟨_, oi, hoi, _⟩ := mem_ready.1 hi
        have hri := down i hin hi
        have hap : ∀ j, j < m → ∀ o, ops[n + j]? = some o → o.apart ops oi = true := fun j hj o ho => by
          obtain ⟨_, _, o', ho', _, _, h3, _⟩ := free j hj
          have : o = o' := Option.some.inj (ho.symm.trans ho')
          subst this
          exact h3 i oi hin hoi
        have hset : ∀ j, n ≤ j → (listed.setIfInBounds i true).getD j false = listed.getD j false := fun j hj => getD_set_ne false (by omega)
        obtain ⟨u, rfl⟩ := hw
        have step : ∀ (v : Value) (w'' : World), Below u.val.heap.size u.val w'' → anyHeadW P md ops n m (fun listed' a' w' => endB md ops n m g listed' = true ∧ Lq a' w') k (listed0.setIfInBounds i true) (a0.put oi.dst v) w'' →
            wpAny P md ops Q' (t + g) (listed.setIfInBounds i true) (putsC ops n blk (fun j => listed.getD j false) m (a0.put oi.dst v)) w'' := by
          intro v w'' hb2 h2
          have := ih k (listed0.setIfInBounds i true) (listed.setIfInBounds i true) (a0.put oi.dst v) blk w'' (by
            rw [cntC_congr (done := fun j => listed.getD j false) m (fun j hj => hset (n + j) (by omega))]; omega) (inv.set hri hin) (by simpa using hsz) (fun j hj => by
            by_cases hij : i = j
            · subst hij
              rw [Array.getElem?_setIfInBounds_self_of_lt (by rw [hsz]; omega), Array.getElem?_setIfInBounds_self_of_lt (by rw [inv.size]; omega)]
            · rw [Array.getElem?_setIfInBounds_ne hij, Array.getElem?_setIfInBounds_ne hij]; exact hR j hj)
            ⟨Up.of (w' := w'') (btrans u.ok hb2), rfl⟩ (by
              have := hB.keep hb2
              exact ⟨fun j hj hd => this.1 j hj ((hset (n + j) (by omega)).symm.trans hd), fun j j' hj hj' hd hd' => this.2 j j' hj hj' ((hset (n + j) (by omega)).symm.trans hd) ((hset (n + j') (by omega)).symm.trans hd')⟩) h2
          rwa [putsC_congr (blk := blk) (done := fun j => listed.getD j false) m _ (fun j hj => ⟨hset (n + j) (by omega), rfl⟩)] at this
        rcases H.2 u.val (Below.refl _ _) i hri with h | ⟨_, ⟨oj, v, hoj, hy, h2⟩ | hst⟩
        · omega
        · have : oj = oi := Option.some.inj (hoj.symm.trans hoi)
          subst this
          obtain ⟨hy2, hp⟩ := puts_yields (n := n) (blk := blk) (done := fun j => listed.getD j false) (fun cs b => hsel i oj cs b hoi) m hap hy
          have hq : qOp P ops (upC u.val) i (fun a' => a' = putsC ops n blk (fun j => listed.getD j false) m (a0.put oj.dst v)) (putsC ops n blk (fun j => listed.getD j false) m a0) := hy2.qOp hoi hp
          refine wpOp_of_qOp (C := upC u.val) ⟨Up.of (w' := u.val) (Below.refl _ _), rfl⟩ (fun a' w'' hw' ha' => ?_) hq
          subst ha'
          obtain ⟨u', rfl⟩ := hw'
          exact step v u'.val u'.ok (h2.up u'.ok)
        · obtain ⟨oj, hoj, hwt, f, args, hr, hC⟩ := hst
          have : oj = oi := Option.some.inj (hoj.symm.trans hoi)
          subst this
          obtain ⟨p1, p2, p3⟩ := puts_all (n := n) (blk := blk) (done := fun j => listed.getD j false) (fun cs b => hsel i oj cs b hoi) m hap a0
          unfold wpOp
          simp only [hoi]
          rw [if_pos (by rw [p2]; exact hwt)]
          left
          unfold Oper.wp
          rw [p1, hr, Oper.upon_enter]
          refine hC.mono ?_
          rintro e w'' ⟨v, rfl, hb2, h2⟩
          show wpAny _ _ _ _ _ _ ((putsC ops n blk (fun j => listed.getD j false) m a0).put oj.dst v) w''
          rw [p3]
          exact step v w'' hb2 h2
    · rcases Nat.lt_or_ge i (n + m) with him | him
      · -- an alloc
        obtain ⟨j, rfl⟩ : ∃ j, i = n + j := ⟨i - n, by omega⟩
        have hj : j < m := by omega
        obtain ⟨_, _, o, ho, _, hg, _, _⟩ := free j hj
        have hdf : listed.getD (n + j) false = false := getD_both (mem_ready.1 hi).1
        have hlt : n + j < listed.size := by rw [hsz]; omega
        have hdt : (listed.setIfInBounds (n + j) true).getD (n + j) false = true := by simp [hlt]
        have hset : ∀ i, i ≠ j → (listed.setIfInBounds (n + j) true).getD (n + i) false = listed.getD (n + i) false := fun i hij => getD_set_ne false (by omega)
        unfold wpOp
        simp only [ho]
        rw [if_pos (by unfold Region.wanted; rw [hg])]
        left
        unfold Oper.wp
        rw [hal j hj o ho]
        simp only [Oper.upon]
        obtain ⟨u, rfl⟩ := hw
        have hb1 : Below u.val.heap.size u.val (u.val.alloc (objs j)) := balloc (Below.refl _ _) _
        have hsize : (u.val.alloc (objs j)).heap.size = u.val.heap.size + 1 := by show (u.val.heap.push _).size = _; simp
        have := ih k listed0 (listed.setIfInBounds (n + j) true) a0 (fun i => if i = n + j then u.val.heap.size else blk i) (u.val.alloc (objs j)) (by
            have := cntC_add (n := n) (i := j) (done := fun j => listed.getD j false) (done' := fun i => (listed.setIfInBounds (n + j) true).getD i false) m hdf hdt hset hj
            omega) inv (by simpa using hsz) (fun i' hi' => by
            rw [Array.getElem?_setIfInBounds_ne (by omega)]; exact hR i' hi') ⟨Up.of (w' := u.val.alloc (objs j)) (btrans u.ok hb1), rfl⟩ (by
              have hk := hB.keep hb1
              refine ⟨fun i HX hd => ?_, fun i i' HX HX' hd hd' hne => ?_⟩
              · by_cases hij : i = j
                · subst hij
                  simp only [if_true]
                  refine ⟨u.ok.size, by omega, ?_⟩
                  show (u.val.heap.push _)[u.val.heap.size]? = _
                  simp
                · simp only [show (n + i = n + j) = False by simp [hij], if_false]
                  exact hk.1 i HX ((hset i hij).symm.trans hd)
              · by_cases hij : i = j
                · subst hij
                  have hij' : i' ≠ i := fun h => hne h.symm
                  simp only [if_true, show (n + i' = n + i) = False by simp [hij'], if_false]
                  have := (hB.1 i' HX' ((hset i' hij').symm.trans hd')).2.1
                  omega
                · by_cases hij' : i' = j
                  · subst hij'
                    simp only [if_true, show (n + i = n + i') = False by simp [hij], if_false]
                    have := (hB.1 i HX ((hset i hij).symm.trans hd)).2.1
                    omega
                  · simp only [show (n + i = n + j) = False by simp [hij], show (n + i' = n + j) = False by simp [hij'], if_false]
                    exact hB.2 i i' HX HX' ((hset i hij).symm.trans hd) ((hset i' hij').symm.trans hd') hne) (H.up hb1)
        rw [putsC_add (M := m) (i := j) (B := u.val.heap.size) (blk := blk) (done := fun j => listed.getD j false) (fun x x' hx hx' hxx y y' hy hy' => by
            obtain ⟨_, _, z, hz, _, _, _, h4⟩ := free x hx
            have : y = z := Option.some.inj (hy.symm.trans hz)
            subst this
            exact h4 x' y' hx' (Ne.symm hxx) hy') a0 hdf hdt (by simp) (fun i hij => ⟨hset i hij, by simp [hij]⟩) hj (Nat.le_refl _)] at this
        simpa [ho] using this
      · -- none of the last ones is ready
        exfalso
        cases k with
        | succ k =>
          obtain ⟨i0, hi0, hi0n⟩ := H.1
          exact tail_waitsA hs hc hn inv' _ i0 rfl hi0n (mem_ready.1 (up i0 hi0n hi0)).1 i him hi
        | zero =>
          obtain ⟨j, hj, hd⟩ := undone rfl
          obtain ⟨_, oi, hoi, hall⟩ := mem_ready.1 hi
          have hilt : i < ops.size := (Array.getElem?_eq_some_iff.1 hoi).1
          by_cases hiN : i = n + m
          · subst hiN
            obtain ⟨o', ho', e, he, hb, hon⟩ := Region.waitsFor_spec (free j hj).2.1
            have : o' = oi := Option.some.inj (ho'.symm.trans hoi)
            subst this
            have h2 := hall e he hb
            rw [hon, hd] at h2
            cases h2
          · have h1 := List.all_eq_true.1 hc i (List.mem_range.2 hilt)
            simp only [Bool.or_eq_true, decide_eq_true_eq] at h1
            rcases h1 with h1 | h1
            · omega
            · obtain ⟨o', ho', e, he, hb, hon⟩ := Region.waitsFor_spec h1
              have : o' = oi := Option.some.inj (ho'.symm.trans hoi)
              subst this
              have h2 := hall e he hb
              rw [hon, getD_both (inv'.tail (i - 1) (by omega) (by omega))] at h2
              cases h2
end

theorem any_of_seq_chain {P : Program} {ops : Array Oper} {md : Region.Mode} {Q' : Exit → Act → World → Prop} (l : List Oper) : ∀ (k : Nat) (listed : Array Bool) (a : Act) (w : World), (∀ j, l[j]? = ops[k + j]?) →
    Region.seqB md ops l.length k listed = true → wpList P ops Q' l a w → wpAny P md ops Q' l.length listed a w := by
  induction l with
  | nil => exact fun k listed a w hl hB h => ⟨by simpa [Region.seqB] using hB, h⟩
  | cons o l ih =>
    intro k listed a w hl hB h
    have h0 : ops[k]? = some o := by simpa using (hl 0).symm
    simp only [List.length_cons, Region.seqB, Bool.and_eq_true, decide_eq_true_eq] at hB
    refine ⟨fun h1 => (by rw [hB.1] at h1; cases h1), fun i hi => ?_⟩
    rw [hB.1] at hi
    have hik : i = k := by simpa using hi
    subst hik
    have hw : wpOp P ops Q' i (wpList P ops Q' l) a w := by unfold wpOp; simp only [h0]; exact h
    exact wpOp_mono (fun a' w' h' => ih (i + 1) _ a' w' (fun j => by have := hl (j + 1); simpa [Nat.add_assoc, Nat.add_comm 1 j] using this) hB.2 h') hw

/-- the Bool over a region: n operations of the head (ps: quiet, in an order in which they may be taken first; cs: the chain), m allocs, the forced end -/
def chainB (ops : Array Oper) (n m : Nat) (ps cs : List Nat) : Bool :=
  decide (n + m < ops.size) && decide (cs.length + ps.length = n) && Region.noSelect ops && sinkA .any ops n m && chainA .any ops n m && freeA .any ops n m && lexW .any ops n m (ops.size - (n + m)) cs ps (Array.replicate ops.size false)

theorem wp_region_chain {P : Program} {id : Nat} {Q : Exit → Act → World → Prop} {a : Act} {w : World} {l : List Oper} (n m : Nat) (ps cs : List Nat) (objs : Nat → Obj) (hm : P.follows .mixedOrders = true) (hB : chainB l.toArray n m ps cs = true)
    (hal : allocOk P objs l.toArray n m)
    (h : ∀ u0 : Up w, wpQuiet P l.toArray (upC u0.val) (fun a' => chainW P l.toArray (fun a'' w' => ∀ blk, BlkAt w w' n m objs blk (fun _ => true) → wpList P l.toArray Q (l.drop (n + m)) (putsC l.toArray n blk (fun _ => true) m a'') w') cs a' w) (ps.filterMap fun i => l.toArray[i]?) a) : (Code.region id l.toArray true).wp P Q a w := by
  simp only [chainB, Bool.and_eq_true, decide_eq_true_eq] at hB
  obtain ⟨⟨⟨⟨⟨⟨hn, hlen⟩, hsel⟩, hs⟩, hc⟩, hf⟩, hlex⟩ := hB
  have hdl : (l.drop (n + m)).length = l.toArray.size - (n + m) := by simp
  have inv0 : HeadInv .any l.toArray n (Array.replicate l.toArray.size false) :=
    ⟨by simp, fun j oj _ hl => (by rw [getD_replicate_false] at hl; cases hl), fun t _ ht => getD_in (by simpa using ht) (getD_replicate_false _ _)⟩
  refine wp_region_any hm ?_
  have H := head_quietW (P := P) (Lq := fun a'' w' => ∀ blk, BlkAt w w' n m objs blk (fun _ => true) → wpList P l.toArray Q (l.drop (n + m)) (putsC l.toArray n blk (fun _ => true) m a'') w') hsel hs hc hn cs ps _ a w inv0 hlex h
  have T := any_of_allocW (P := P) (ops := l.toArray) (md := .any) (n := n) (m := m) (g := l.toArray.size - (n + m)) (w0 := w) (objs := objs) (Q' := Q)
    (Lq := fun a'' w' => ∀ blk, BlkAt w w' n m objs blk (fun _ => true) → wpList P l.toArray Q (l.drop (n + m)) (putsC l.toArray n blk (fun _ => true) m a'') w')
    (Region.noSelect_spec hsel) hs hc hf hn hal
    (fun listed0 a0 blk w' hE hq hw hb => by
      have h1 := hq blk hb
      simp only [endB, Bool.and_eq_true] at hE
      have := any_of_seq_chain (P := P) (md := .any) (Q' := Q) (l.drop (n + m)) (n + m) (markAll n m listed0) _ w' (fun j => by simp [List.getElem?_drop]) (by rw [hdl]; exact hE.2) h1
      rwa [hdl] at this)
    (cs.length + ps.length + m) (cs.length + ps.length) _ (Array.replicate l.toArray.size false) a (fun _ => 0) w.drew (by
      rw [cntC_none m (fun j _ => getD_replicate_false _ _)]) inv0 (by simp) (fun j _ => rfl) ⟨Up.of (w' := w.drew) (Below.drew (Below.refl _ _)), rfl⟩ ⟨fun j _ hd => absurd ((getD_replicate_false _ _).symm.trans hd) Bool.false_ne_true, fun j _ _ _ hd => absurd ((getD_replicate_false _ _).symm.trans hd) Bool.false_ne_true⟩
    (H.up (Below.drew (Below.refl _ _)))
  rw [putsC_none m a (fun j _ => getD_replicate_false _ _), hlen, show n + m + (l.toArray.size - (n + m)) = l.toArray.size by omega] at T
  exact T

theorem chainW_mono {P : Program} {ops : Array Oper} {Lq Lq' : Act → World → Prop} (hq : ∀ a w, Lq a w → Lq' a w) (cs : List Nat) : ∀ (a : Act) (w : World), chainW P ops Lq cs a w → chainW P ops Lq' cs a w := by
  induction cs with
  | nil => exact fun a w h w' hb => hq _ _ (h w' hb)
  | cons i cs ih => exact fun a w h w' hb => stepV_mono (h w' hb) ih
/-- four allocs -/
theorem wp_region_chain4 {P : Program} {id : Nat} {Q : Exit → Act → World → Prop} {a : Act} {w : World} {l : List Oper} (n : Nat) (ps cs : List Nat) (b0 b1 b2 b3 : Obj) (o0 o1 o2 o3 : Oper) (hm : P.follows .mixedOrders = true) (hB : chainB l.toArray n 4 ps cs = true)
    (h0 : l.toArray[n]? = some o0) (h1 : l.toArray[n + 1]? = some o1) (h2 : l.toArray[n + 2]? = some o2) (h3 : l.toArray[n + 3]? = some o3)
    (a0 : ∀ ρ w, (execOp ρ o0).run P w = .ok (.value (.pointer (some ⟨w.heap.size, 0, none⟩))) (w.alloc b0)) (a1 : ∀ ρ w, (execOp ρ o1).run P w = .ok (.value (.pointer (some ⟨w.heap.size, 0, none⟩))) (w.alloc b1))
    (a2 : ∀ ρ w, (execOp ρ o2).run P w = .ok (.value (.pointer (some ⟨w.heap.size, 0, none⟩))) (w.alloc b2)) (a3 : ∀ ρ w, (execOp ρ o3).run P w = .ok (.value (.pointer (some ⟨w.heap.size, 0, none⟩))) (w.alloc b3))
    (h : ∀ u0 : Up w, wpQuiet P l.toArray (upC u0.val) (fun a' => chainW P l.toArray (fun a'' w' => ∀ p0 p1 p2 p3, (w.heap.size ≤ p0 ∧ p0 < w'.heap.size ∧ w'.heap[p0]? = some b0) → (w.heap.size ≤ p1 ∧ p1 < w'.heap.size ∧ w'.heap[p1]? = some b1) →
      (w.heap.size ≤ p2 ∧ p2 < w'.heap.size ∧ w'.heap[p2]? = some b2) → (w.heap.size ≤ p3 ∧ p3 < w'.heap.size ∧ w'.heap[p3]? = some b3) → (p0 ≠ p1 ∧ p0 ≠ p2 ∧ p0 ≠ p3) ∧ (p1 ≠ p2 ∧ p1 ≠ p3) ∧ p2 ≠ p3 →
      wpList P l.toArray Q (l.drop (n + 4)) ((((a''.put o0.dst (.pointer (some ⟨p0, 0, none⟩))).put o1.dst (.pointer (some ⟨p1, 0, none⟩))).put o2.dst (.pointer (some ⟨p2, 0, none⟩))).put o3.dst (.pointer (some ⟨p3, 0, none⟩))) w') cs a' w) (ps.filterMap fun i => l.toArray[i]?) a) : (Code.region id l.toArray true).wp P Q a w := by
  refine wp_region_chain n 4 ps cs (fun j => if j = 0 then b0 else if j = 1 then b1 else if j = 2 then b2 else b3) hm hB (fun j hj x hx ρ w => ?_) (fun u0 => quiet_end (fun a' hq => chainW_mono (fun a'' w' hL blk hb => ?_) cs a' w hq) _ _ (h u0))
  · rcases (show j = 0 ∨ j = 1 ∨ j = 2 ∨ j = 3 by omega) with rfl | rfl | rfl | rfl
    · obtain rfl := Option.some.inj (hx.symm.trans h0); exact a0 ρ w
    · obtain rfl := Option.some.inj (hx.symm.trans h1); exact a1 ρ w
    · obtain rfl := Option.some.inj (hx.symm.trans h2); exact a2 ρ w
    · obtain rfl := Option.some.inj (hx.symm.trans h3); exact a3 ρ w
  · have k0 := hb.1 0 (by omega) rfl
    have k1 := hb.1 1 (by omega) rfl
    have k2 := hb.1 2 (by omega) rfl
    have k3 := hb.1 3 (by omega) rfl
    have ne := fun (i j : Nat) (hi : i < 4) (hj : j < 4) (hij : i ≠ j) => hb.2 i j hi hj rfl rfl hij
    have := hL _ _ _ _ k0 k1 k2 k3 ⟨⟨ne 0 1 (by omega) (by omega) (by omega), ne 0 2 (by omega) (by omega) (by omega), ne 0 3 (by omega) (by omega) (by omega)⟩, ⟨ne 1 2 (by omega) (by omega) (by omega), ne 1 3 (by omega) (by omega) (by omega)⟩, ne 2 3 (by omega) (by omega) (by omega)⟩
    simpa [putsC, h0, h1, h2, h3] using this
theorem stepV_of {P : Program} {ops : Array Oper} {i : Nat} {K : Act → World → Prop} {a : Act} {w : World} (o : Oper) (f : FuncId) (args : Array Value) (ho : ops[i]? = some o) (hw : Region.wanted o (yielded ops a.tmps) = true) (hr : (execOp a.eval o).run P w = .ok (.enter f args) w)
    (h : Calls P f args w fun e w' => ∃ v, e = .returned v ∧ Below w.heap.size w w' ∧ K (a.put o.dst v) w') : stepV P ops i K a w := ⟨o, ho, hw, f, args, hr, h⟩
end Go.Proofs.Ytegpjjkbbdfggaa.bs

/-
  Pages and regions beside blocks that hold zero values: what is stored there later does not touch them. (PRUNE)
-/
namespace Go.Proofs.Ytegpjjkbbdfggaa.rg
set_option linter.unusedVariables false
set_option linter.unusedSimpArgs false
open Go.RowKit bs sp ik

/-- a block of a variable not yet set: its int cells are 0, it has no byte, its slice (if any) is the third cell -/
def Zero (w : World) (q : Nat) : Prop := ∀ o, (∀ x : Int, w.cell? ⟨q, o, none⟩ = some (.int .i64 x) → x = 0) ∧ (∀ x, w.cell? ⟨q, o, none⟩ ≠ some (.int .u8 x)) ∧ (∀ A n c, w.cell? ⟨q, o, none⟩ = some (.slice A n c) → o = 2)
theorem Zero.blk {w : World} {q : Nat} {t : TypeId} {cs : Array Value} (h : Blk w q t cs) (hc : ∀ o, (∀ x : Int, cs[o]? = some (.int .i64 x) → x = 0) ∧ (∀ x, cs[o]? ≠ some (.int .u8 x)) ∧ (∀ A n c, cs[o]? = some (.slice A n c) → o = 2)) : Zero w q := by
  intro o
  rw [h.cell]
  exact hc o
theorem Pg.agree {w w' : World} {A : Option Addr} {n c : Nat} {B : Nat → Int} (h : Pg w A n c B) (hn : 0 < n) (q : Nat → Prop) (hz : ∀ b, q b → Zero w b) (hs : w'.heap.size = w.heap.size)
    (ha : ∀ b, ¬ q b → ∀ o, w'.cell? ⟨b, o, none⟩ = w.cell? ⟨b, o, none⟩) : Pg w' A n c B := by
  obtain ⟨h1, b, o, e, hlt, hc⟩ := h
  have hb : ¬ q b := fun hq => ((hz b hq) (o + 0)).2.1 _ (hc 0 hn).1
  exact ⟨h1, b, o, e, by rw [hs]; exact hlt, fun j hj => ⟨(ha b hb _).trans (hc j hj).1, (hc j hj).2⟩⟩
theorem Rows.agree {w w' : World} {A : Option Addr} {H c W : Nat} {R : Nat → Nat → Bool} (h : Rows w A H c (rowsOf W R)) (hH : 2 ≤ H) (q : Nat → Prop) (hz : ∀ b, q b → Zero w b) (hs : w'.heap.size = w.heap.size)
    (ha : ∀ b, ¬ q b → ∀ o, w'.cell? ⟨b, o, none⟩ = w.cell? ⟨b, o, none⟩) : Rows w' A H c (rowsOf W R) := by
  obtain ⟨h1, h2⟩ := h
  refine ⟨h1, fun hn => ?_⟩
  obtain ⟨b, o, e, hlt, hc⟩ := h2 hn
  have hb : ¬ q b := fun hq => by
    obtain ⟨_, A0, c0, e0, _⟩ := hc 0 (by omega)
    obtain ⟨_, A1, c1, e1, _⟩ := hc 1 (by omega)
    have g0 := ((hz b hq) (o + 0)).2.2 _ _ _ e0
    have g1 := ((hz b hq) (o + 1)).2.2 _ _ _ e1
    omega
  refine ⟨b, o, e, by rw [hs]; exact hlt, fun j hj => ?_⟩
  obtain ⟨hl, Aj, cj, h3, h4, h5, h6⟩ := hc j hj
  refine ⟨hl, Aj, cj, (ha b hb _).trans h3, h4, h5, fun hp => ?_⟩
  obtain ⟨y, oy, ey, hy, hyc⟩ := h6 hp
  have hyq : ¬ q y := fun hq => by
    obtain ⟨e0, e1⟩ := hyc 0 (by omega)
    have g1 := ((hz y hq) _).1 _ e1
    have := may_each (rowsOf_may W R j) 0 (by omega)
    omega
  exact ⟨y, oy, ey, by rw [hs]; exact hy, fun t ht => ⟨(ha y hyq _).trans (hyc t ht).1, (ha y hyq _).trans (hyc t ht).2⟩⟩
end Go.Proofs.Ytegpjjkbbdfggaa.rg

/-
  region.Not. (PRUNE)
-/
namespace Go.Proofs.Ytegpjjkbbdfggaa.rg
set_option linter.unusedVariables false
set_option linter.unusedSimpArgs false
open Go.RowKit bs sp ik

theorem norm_not (W : Nat) (R : Nat → Nat → Bool) (j : Nat) (hW : W ≤ 64) : norm (notL (rowsOf W R j) (W : Int)) W = rowsOf W (fun j i => !R j i) j := by
  unfold norm notL rowsOf
  rw [show (max 0 (min (W : Int) 64)).toNat = W by omega]
  refine rl_ext W fun i hi => ?_
  rw [inRuns_rl]
  have := rowsOf_in W R j i
  unfold rowsOf at this
  rw [this]
  simp [hi]
set_option maxRecDepth 100000 in
set_option maxHeartbeats 1600000 in
theorem not1_any (W H rB c j : Nat) (A : Option Addr) (R : Nat → Nat → Bool) (w : World) (hj : j < H) (hW : W ≤ 64) (hH : H ≤ 64)
    (Kr : Blk w rB 51 #[.int .i64 (W : Int), .int .i64 (H : Int), .slice A H c]) (hr : Rows w A H c (rowsOf W R)) :
    Calls Try.prog 95 #[.int .i64 (j : Int), .pointer (some ⟨rB, 0, none⟩)] w fun e w' => ∃ A n c, e = .returned (.slice A n c) ∧ n ≤ 9223372036854775807 ∧ Runs w' A n c (notL (rowsOf W R j) (W : Int)) ∧ Below w.heap.size w w' := by
  have e0 := Kr.cell 0
  have e2 := Kr.cell 2
  simp only [List.getElem?_toArray, List.getElem?_cons_succ, List.getElem?_cons_zero] at e0 e2
  clear Kr
  obtain ⟨a1, ha⟩ := hr
  obtain ⟨x, o, rfl, hx, ha⟩ := ha (by omega)
  obtain ⟨l1, A1, c1, q1, r1⟩ := ha j hj
  have d3 : (0 : Int) ≤ (j : Int) := by omega
  have d4 : (j : Int) < (H : Int) := by omega
  have HN := Lib.hid (fun W' (hW' : Below w.heap.size w W') => not_any A1 _ c1 (rowsOf W R j) (W : Int) W' (r1.below hW') l1)
  have hlen : (notL (rowsOf W R j) (W : Int)).length ≤ 9223372036854775807 := by
    have := (rl_len (fun i => !inRuns (rowsOf W R j) i) (max 0 (min (W : Int) 64)).toNat).1
    unfold notL
    omega
  generalize notL (rowsOf W R j) (W : Int) = L at *
  generalize (rowsOf W R j).length = nj at *
  have HL := Lib.hid hlen
  clear ha a1 r1 hlen
  go_enter Try.func95, Try.ntmps95
  go_wp2_with fail
  go_still_tail 7, (by kernel_rfl)
  change wpList _ _ _ _ _ w.drew
  go_wp2_with fail
  refine (HN.out _ (by (repeat' (first | exact Below.refl _ _ | exact Below.refl _ _ | refine balloc ?_ _ | refine Below.drew ?_ | refine below_drewN ?_ _ | refine bset ?_ (by first | omega | (simp <;> omega)) _)))).mono ?_
  rintro e_ w1 ⟨A2, c2, rfl, hr2, hb⟩
  have hbw : Below w.heap.size w w1 := btrans (by (repeat' (first | exact Below.refl _ _ | exact Below.refl _ _ | refine balloc ?_ _ | refine Below.drew ?_ | refine below_drewN ?_ _ | refine bset ?_ (by first | omega | (simp <;> omega)) _))) hb
  have HR2 := Lib.hid hr2
  have HB := Lib.hid hbw
  clear hr2 hb hbw HN
  go_wp2_with fail
  go_ret
  exact ⟨_, _, _, rfl, HL.out, HR2.out, HB.out⟩
set_option maxRecDepth 100000 in
set_option maxHeartbeats 3200000 in
theorem rnot_any (W H c : Nat) (A : Option Addr) (R : Nat → Nat → Bool) (w : World) (hW : 1 ≤ W ∧ W ≤ 64) (hH : 1 ≤ H ∧ H ≤ 64) (hr : Rows w A H c (rowsOf W R)) :
    Calls Try.prog 49 #[.agg #[.int .i64 (W : Int), .int .i64 (H : Int), .slice A H c]] w fun e w' =>
      ∃ g, w.heap.size ≤ g ∧ e = .returned (.tuple #[.agg #[.int .i64 (W : Int), .int .i64 (H : Int), .slice (some ⟨g, 0, none⟩) H H], .int .i64 0]) ∧ Rows w' (some ⟨g, 0, none⟩) H H (rowsOf W (fun j i => !R j i)) ∧ Below w.heap.size w w' := by
  have hmf := mkfunc
  have s1 : ∀ (u : World) (o : Obj), (u.alloc o).heap.size = u.heap.size + 1 := fun u o => by simp
  have KA := (Blk.new w 51 #[.int .i64 (W : Int), .int .i64 (H : Int), .slice A H c]).alloc (.cells #[.int .i64 0, .int .i64 0, .slice none 0 0] 51)
  have Kr := zreg (w.alloc (.cells #[.int .i64 (W : Int), .int .i64 (H : Int), .slice A H c] 51))
  simp only [s1] at Kr
  have HW := Lib.hid hW
  have HH := Lib.hid hH
  have HR := Lib.hid hr
  have lA := KA.lt
  have b0 := KA.cell 0
  have b1 := KA.cell 1
  have b2 := KA.cell 2
  have HA := Lib.hid KA
  clear s1 hW hH KA hr b0 b1 b2
  have HMD := Lib.hid (fun W' hr hrow hL => rone_any 95 #[.pointer (some ⟨w.heap.size, 0, none⟩)] W H c A R (fun j => notL (rowsOf W R j) (W : Int)) (fun j i => !R j i) W' HW.out HH.out hr (fun args W => by kernel_rfl) hrow hL)
  go_enter Try.func49, Try.ntmps49
  go_wp2_with fail
  refine (HMD.out _ (HR.out.below (by (repeat' (first | exact Below.refl _ _ | exact Below.refl _ _ | refine balloc ?_ _ | refine Below.drew ?_ | refine below_drewN ?_ _ | refine bset ?_ (by first | omega | (simp <;> omega)) _)))) (fun j W' hj hW' => not1_any W H (w.heap.size) c j A R W' hj HW.out.2 HH.out.2 (HA.out.below hW' lA) (HR.out.below (btrans (by (repeat' (first | exact Below.refl _ _ | exact Below.refl _ _ | refine balloc ?_ _ | refine Below.drew ?_ | refine below_drewN ?_ _ | refine bset ?_ (by first | omega | (simp <;> omega)) _))) hW'))) (fun j => norm_not W R j HW.out.2)).mono ?_
  rintro e_ w3 ⟨g, hg, rfl, hr4, hb1⟩
  have hgne : g ≠ w.heap.size + 1 := by simp at hg; omega
  have hg2 : w.heap.size ≤ g := by simp at hg; omega
  have hbw : Below w.heap.size w w3 := btrans (by (repeat' (first | exact Below.refl _ _ | exact Below.refl _ _ | refine balloc ?_ _ | refine Below.drew ?_ | refine below_drewN ?_ _ | refine bset ?_ (by first | omega | (simp <;> omega)) _))) hb1
  replace Kr := Kr.below hb1 (by first | (simp; done) | (simp; omega))
  clear hg hb1 HMD HA lA
  have g0 := Kr.cell 0
  have g1 := Kr.cell 1
  have g2 := Kr.cell 2
  have f0 := Kr.frozen 0
  have f1 := Kr.frozen 1
  have f2 := Kr.frozen 2
  simp only [List.getElem?_toArray, List.getElem?_cons_succ, List.getElem?_cons_zero] at g0 g1 g2
  have HKr := Lib.hid Kr
  have HBW := Lib.hid hbw
  have HR4 := Lib.hid hr4
  clear Kr hbw hr4
  go_wp2_with fail
  have K := ((HKr.out.set_ 0 (.int .i64 (W : Int))).set_ 1 (.int .i64 (H : Int))).set_ 2 (.slice (some ⟨g, 0, none⟩) H H)
  refine ret_struct2 (g := w.heap.size + 1) (t := 51) (cs := #[.int .i64 (W : Int), .int .i64 (H : Int), .slice (some ⟨g, 0, none⟩) H H]) rfl rfl ?_ Try.underlying51 rfl rfl rfl ?_
  · exact K
  · exact ⟨g, by omega, rfl, Rows.setBox HR4.out hgne HKr.out _ _ _, by (repeat' (first | refine bset ?_ (by first | omega | (simp <;> omega)) _ | refine balloc ?_ _ | refine Below.drew ?_ | refine below_drewN ?_ _ | exact HBW.out | exact Below.refl _ _))⟩
end Go.Proofs.Ytegpjjkbbdfggaa.rg
