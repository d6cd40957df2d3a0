/-
  Layer 37: image.Region and image.Paint by a matrix whose determinant is 0.
-/
import Derived.Test.YtegpjjkbbdfggaaBd
import Derived.Test.YtegpjjkbbdfggaaUnlike
namespace Go.Proofs.Ytegpjjkbbdfggaa.im
set_option linter.unusedVariables false
set_option linter.unusedSimpArgs false
open Go.RowKit bs rg

set_option maxRecDepth 100000 in
set_option maxHeartbeats 3200000 in
theorem over_det0 (W H B a b c d e f : Int) (s : ByteArray) (w h : Nat) (V : World) (hw : 1 ≤ w ∧ w ≤ 64) (hh : 1 ≤ h ∧ h ≤ 64) (hs : (s.size : Int) ≤ 9223372036854775807) (hi : mayI W H B s.size = true) (hm : mt.mayB a b c d e f = true) (ht : a * d - b * c = 0) :
    Calls Try.prog 38 #[.agg #[.int .i64 W, .int .i64 H, .int .i64 B, .string s], .agg #[.int .i64 a, .int .i64 b, .int .i64 c, .int .i64 d, .int .i64 e, .int .i64 f], .int .i64 (w : Int), .int .i64 (h : Int)] V fun ed w' => ed = .returned (.tuple #[.agg #[.int .i64 0, .int .i64 0, .slice none 0 0], .int .i64 14]) ∧ Below V.heap.size V w' := by
  have hd := det_bd hm
  have HL := Lib.hid (fun W' => look_yes W H B a b c d e f s (a * d) (b * c) 0 W' hs hi hm rfl rfl ht hd.1.1 hd.1.2 hd.2.1 hd.2.2)
  have g1 : decide ((w : Int) < 1) = false := by simp; omega
  have g2 : decide ((w : Int) > 64) = false := by simp; omega
  have g3 : decide ((h : Int) < 1) = false := by simp; omega
  have g4 : decide ((h : Int) > 64) = false := by simp; omega
  have g5 : ¬ (w : Int) < 1 := by omega
  have g6 : ¬ (64 : Int) < (w : Int) := by omega
  have g7 : ¬ (h : Int) < 1 := by omega
  have g8 : ¬ (64 : Int) < (h : Int) := by omega
  clear hs hi hm ht hd hw hh

  go_enter Try.func38, Try.ntmps38
  go_wp2_with fail
  refine (HL.out _).mono ?_
  rintro e_ V1 ⟨rfl, hb1⟩
  have Ki := (((Blk.new V 23 #[.int .i64 W, .int .i64 H, .int .i64 B, .string s]).alloc (.cells #[.int .i64 a, .int .i64 b, .int .i64 c, .int .i64 d, .int .i64 e, .int .i64 f] 25)).alloc (.cells #[.int .i64 0, .int .i64 0, .slice none 0 0] 51))
  have Km := ((Blk.new (V.alloc (.cells #[.int .i64 W, .int .i64 H, .int .i64 B, .string s] 23)) 25 #[.int .i64 a, .int .i64 b, .int .i64 c, .int .i64 d, .int .i64 e, .int .i64 f]).alloc (.cells #[.int .i64 0, .int .i64 0, .slice none 0 0] 51))
  have hz_Km : (V.alloc (.cells #[.int .i64 W, .int .i64 H, .int .i64 B, .string s] 23)).heap.size = V.heap.size + 1 := by simp
  rw [hz_Km] at Km
  clear hz_Km
  have KR := (Blk.new ((V.alloc (.cells #[.int .i64 W, .int .i64 H, .int .i64 B, .string s] 23)).alloc (.cells #[.int .i64 a, .int .i64 b, .int .i64 c, .int .i64 d, .int .i64 e, .int .i64 f] 25)) 51 #[.int .i64 0, .int .i64 0, .slice none 0 0])
  have hz_KR : ((V.alloc (.cells #[.int .i64 W, .int .i64 H, .int .i64 B, .string s] 23)).alloc (.cells #[.int .i64 a, .int .i64 b, .int .i64 c, .int .i64 d, .int .i64 e, .int .i64 f] 25)).heap.size = V.heap.size + 1 + 1 := by simp
  rw [hz_KR] at KR
  clear hz_KR
  replace Ki := Ki.below hb1 Ki.lt
  replace Km := Km.below hb1 Km.lt
  replace KR := KR.below hb1 KR.lt
  have hbw : Below V.heap.size V V1 := btrans (by (repeat' (first | exact Below.refl _ _ | exact Below.refl _ _ | refine balloc ?_ _ | refine Below.drew ?_ | refine below_drewN ?_ _ | refine bset ?_ (by first | omega | (simp <;> omega)) _))) hb1
  clear hb1 
  have lKi := Ki.lt
  have cKi0 := Ki.cell 0
  have cKi1 := Ki.cell 1
  have cKi2 := Ki.cell 2
  have cKi3 := Ki.cell 3
  have lKm := Km.lt
  have cKm0 := Km.cell 0
  have cKm1 := Km.cell 1
  have cKm2 := Km.cell 2
  have cKm3 := Km.cell 3
  have cKm4 := Km.cell 4
  have cKm5 := Km.cell 5
  have lKR := KR.lt
  have cKR0 := KR.cell 0
  have cKR1 := KR.cell 1
  have cKR2 := KR.cell 2
  have fKR0 := KR.frozen 0
  have fKR1 := KR.frozen 1
  have fKR2 := KR.frozen 2
  simp only [List.getElem?_toArray, List.getElem?_cons_succ, List.getElem?_cons_zero] at cKi0 cKi1 cKi2 cKi3 cKm0 cKm1 cKm2 cKm3 cKm4 cKm5 cKR0 cKR1 cKR2
  have lKR2 := lKR
  have HKr := Lib.hid KR
  have HBW := Lib.hid hbw
  clear KR hbw
  go_wp2_with fail
  have K := ((HKr.out.set_ 0 (.int .i64 0)).set_ 1 (.int .i64 0)).set_ 2 (.slice none 0 0)
  refine ret_struct2 (g := (V.heap.size + 1 + 1)) (t := 51) (cs := #[.int .i64 0, .int .i64 0, .slice none 0 0]) rfl rfl ?_ Try.underlying51 rfl rfl rfl ?_
  · first | exact K | exact K.alloc _
  · exact ⟨rfl, by (repeat' (first | refine bset ?_ (by first | omega | (simp <;> omega)) _ | refine balloc ?_ _ | refine Below.drew ?_ | refine below_drewN ?_ _ | exact HBW.out | exact Below.refl _ _))⟩

set_option maxRecDepth 100000 in
set_option maxHeartbeats 3200000 in
theorem paint_det0 (W H B a b c d e f : Int) (s : ByteArray) (w h n cp dr : Nat) (A D : Option Addr) (R : Nat → Nat → Bool) (V : World) (hw : 1 ≤ w ∧ w ≤ 64) (hh : 1 ≤ h ∧ h ≤ 64) (hn : n = 3 * (w * h)) (hs : (s.size : Int) ≤ 9223372036854775807) (hi : mayI W H B s.size = true) (hm : mt.mayB a b c d e f = true) (ht : a * d - b * c = 0)
    (hr : rg.Rows V D h dr (rowsOf w R)) :
    Calls Try.prog 31 #[.agg #[.int .i64 (w : Int), .int .i64 (h : Int), .slice A n cp], .agg #[.int .i64 W, .int .i64 H, .int .i64 B, .string s], .agg #[.int .i64 a, .int .i64 b, .int .i64 c, .int .i64 d, .int .i64 e, .int .i64 f], .agg #[.int .i64 (w : Int), .int .i64 (h : Int), .slice D h dr]] V fun ed w' => ed = .returned (.tuple #[.agg #[.int .i64 0, .int .i64 0, .slice none 0 0], .int .i64 14]) ∧ Below V.heap.size V w' := by
  have hd := det_bd hm
  have HL := Lib.hid (fun W' => look_yes W H B a b c d e f s (a * d) (b * c) 0 W' hs hi hm rfl rfl ht hd.1.1 hd.1.2 hd.2.1 hd.2.2)
  have HM1 := Lib.hid (fun W' => inkmay_yes w h n cp A W' hw hh hn)
  have HM2 := Lib.hid (fun W' (hW' : Below V.heap.size V W') => rmay_yes w h dr D _ W' hw hh (fun j _ => rowsOf_mayB w R j hw.2) (hr.below hW'))
  clear hs hi hm ht hd hw hh hn hr

  go_enter Try.func31, Try.ntmps31
  go_wp2_with fail
  refine (HL.out _).mono ?_
  rintro e_ V1 ⟨rfl, hb1⟩
  have Kp := (((((Blk.new V 46 #[.int .i64 (w : Int), .int .i64 (h : Int), .slice A n cp]).alloc (.cells #[.int .i64 W, .int .i64 H, .int .i64 B, .string s] 23)).alloc (.cells #[.int .i64 a, .int .i64 b, .int .i64 c, .int .i64 d, .int .i64 e, .int .i64 f] 25)).alloc (.cells #[.int .i64 (w : Int), .int .i64 (h : Int), .slice D h dr] 51)).alloc (.cells #[.int .i64 0, .int .i64 0, .slice none 0 0] 46))
  have Ki := ((((Blk.new (V.alloc (.cells #[.int .i64 (w : Int), .int .i64 (h : Int), .slice A n cp] 46)) 23 #[.int .i64 W, .int .i64 H, .int .i64 B, .string s]).alloc (.cells #[.int .i64 a, .int .i64 b, .int .i64 c, .int .i64 d, .int .i64 e, .int .i64 f] 25)).alloc (.cells #[.int .i64 (w : Int), .int .i64 (h : Int), .slice D h dr] 51)).alloc (.cells #[.int .i64 0, .int .i64 0, .slice none 0 0] 46))
  have hz_Ki : (V.alloc (.cells #[.int .i64 (w : Int), .int .i64 (h : Int), .slice A n cp] 46)).heap.size = V.heap.size + 1 := by simp
  rw [hz_Ki] at Ki
  clear hz_Ki
  have Km := (((Blk.new ((V.alloc (.cells #[.int .i64 (w : Int), .int .i64 (h : Int), .slice A n cp] 46)).alloc (.cells #[.int .i64 W, .int .i64 H, .int .i64 B, .string s] 23)) 25 #[.int .i64 a, .int .i64 b, .int .i64 c, .int .i64 d, .int .i64 e, .int .i64 f]).alloc (.cells #[.int .i64 (w : Int), .int .i64 (h : Int), .slice D h dr] 51)).alloc (.cells #[.int .i64 0, .int .i64 0, .slice none 0 0] 46))
  have hz_Km : ((V.alloc (.cells #[.int .i64 (w : Int), .int .i64 (h : Int), .slice A n cp] 46)).alloc (.cells #[.int .i64 W, .int .i64 H, .int .i64 B, .string s] 23)).heap.size = V.heap.size + 1 + 1 := by simp
  rw [hz_Km] at Km
  clear hz_Km
  have Kg := ((Blk.new (((V.alloc (.cells #[.int .i64 (w : Int), .int .i64 (h : Int), .slice A n cp] 46)).alloc (.cells #[.int .i64 W, .int .i64 H, .int .i64 B, .string s] 23)).alloc (.cells #[.int .i64 a, .int .i64 b, .int .i64 c, .int .i64 d, .int .i64 e, .int .i64 f] 25)) 51 #[.int .i64 (w : Int), .int .i64 (h : Int), .slice D h dr]).alloc (.cells #[.int .i64 0, .int .i64 0, .slice none 0 0] 46))
  have hz_Kg : (((V.alloc (.cells #[.int .i64 (w : Int), .int .i64 (h : Int), .slice A n cp] 46)).alloc (.cells #[.int .i64 W, .int .i64 H, .int .i64 B, .string s] 23)).alloc (.cells #[.int .i64 a, .int .i64 b, .int .i64 c, .int .i64 d, .int .i64 e, .int .i64 f] 25)).heap.size = V.heap.size + 1 + 1 + 1 := by simp
  rw [hz_Kg] at Kg
  clear hz_Kg
  have KR := (Blk.new ((((V.alloc (.cells #[.int .i64 (w : Int), .int .i64 (h : Int), .slice A n cp] 46)).alloc (.cells #[.int .i64 W, .int .i64 H, .int .i64 B, .string s] 23)).alloc (.cells #[.int .i64 a, .int .i64 b, .int .i64 c, .int .i64 d, .int .i64 e, .int .i64 f] 25)).alloc (.cells #[.int .i64 (w : Int), .int .i64 (h : Int), .slice D h dr] 51)) 46 #[.int .i64 0, .int .i64 0, .slice none 0 0])
  have hz_KR : ((((V.alloc (.cells #[.int .i64 (w : Int), .int .i64 (h : Int), .slice A n cp] 46)).alloc (.cells #[.int .i64 W, .int .i64 H, .int .i64 B, .string s] 23)).alloc (.cells #[.int .i64 a, .int .i64 b, .int .i64 c, .int .i64 d, .int .i64 e, .int .i64 f] 25)).alloc (.cells #[.int .i64 (w : Int), .int .i64 (h : Int), .slice D h dr] 51)).heap.size = V.heap.size + 1 + 1 + 1 + 1 := by simp
  rw [hz_KR] at KR
  clear hz_KR
  replace Kp := Kp.below hb1 Kp.lt
  replace Ki := Ki.below hb1 Ki.lt
  replace Km := Km.below hb1 Km.lt
  replace Kg := Kg.below hb1 Kg.lt
  replace KR := KR.below hb1 KR.lt
  have hbw : Below V.heap.size V V1 := btrans (by (repeat' (first | exact Below.refl _ _ | exact Below.refl _ _ | refine balloc ?_ _ | refine Below.drew ?_ | refine below_drewN ?_ _ | refine bset ?_ (by first | omega | (simp <;> omega)) _))) hb1
  clear hb1 
  have lKp := Kp.lt
  have cKp0 := Kp.cell 0
  have cKp1 := Kp.cell 1
  have cKp2 := Kp.cell 2
  have lKi := Ki.lt
  have cKi0 := Ki.cell 0
  have cKi1 := Ki.cell 1
  have cKi2 := Ki.cell 2
  have cKi3 := Ki.cell 3
  have lKm := Km.lt
  have cKm0 := Km.cell 0
  have cKm1 := Km.cell 1
  have cKm2 := Km.cell 2
  have cKm3 := Km.cell 3
  have cKm4 := Km.cell 4
  have cKm5 := Km.cell 5
  have lKg := Kg.lt
  have cKg0 := Kg.cell 0
  have cKg1 := Kg.cell 1
  have cKg2 := Kg.cell 2
  have lKR := KR.lt
  have cKR0 := KR.cell 0
  have cKR1 := KR.cell 1
  have cKR2 := KR.cell 2
  simp only [List.getElem?_toArray, List.getElem?_cons_succ, List.getElem?_cons_zero] at cKp0 cKp1 cKp2 cKi0 cKi1 cKi2 cKi3 cKm0 cKm1 cKm2 cKm3 cKm4 cKm5 cKg0 cKg1 cKg2 cKR0 cKR1 cKR2
  go_wp2_with fail
  refine (HM1.out _).mono ?_
  rintro e_ V2 ⟨rfl, hb2⟩
  replace Kp := (Kp.alloc (.cells #[.int .i64 W, .int .i64 H, .int .i64 B, .string s, .int .i64 a, .int .i64 b, .int .i64 c, .int .i64 d, .int .i64 e, .int .i64 f, .int .i64 0] 92))
  replace Ki := (Ki.alloc (.cells #[.int .i64 W, .int .i64 H, .int .i64 B, .string s, .int .i64 a, .int .i64 b, .int .i64 c, .int .i64 d, .int .i64 e, .int .i64 f, .int .i64 0] 92))
  replace Km := (Km.alloc (.cells #[.int .i64 W, .int .i64 H, .int .i64 B, .string s, .int .i64 a, .int .i64 b, .int .i64 c, .int .i64 d, .int .i64 e, .int .i64 f, .int .i64 0] 92))
  replace Kg := (Kg.alloc (.cells #[.int .i64 W, .int .i64 H, .int .i64 B, .string s, .int .i64 a, .int .i64 b, .int .i64 c, .int .i64 d, .int .i64 e, .int .i64 f, .int .i64 0] 92))
  replace KR := (KR.alloc (.cells #[.int .i64 W, .int .i64 H, .int .i64 B, .string s, .int .i64 a, .int .i64 b, .int .i64 c, .int .i64 d, .int .i64 e, .int .i64 f, .int .i64 0] 92))
  have Kv := (Blk.new V1 92 #[.int .i64 W, .int .i64 H, .int .i64 B, .string s, .int .i64 a, .int .i64 b, .int .i64 c, .int .i64 d, .int .i64 e, .int .i64 f, .int .i64 0])
  replace Kp := Kp.below hb2 Kp.lt
  replace Ki := Ki.below hb2 Ki.lt
  replace Km := Km.below hb2 Km.lt
  replace Kg := Kg.below hb2 Kg.lt
  replace KR := KR.below hb2 KR.lt
  replace Kv := Kv.below hb2 Kv.lt
  replace hbw : Below V.heap.size V V2 := btrans (by (repeat' (first | refine bset ?_ (by first | omega | (simp <;> omega)) _ | refine balloc ?_ _ | refine Below.drew ?_ | refine below_drewN ?_ _ | exact hbw | exact Below.refl _ _))) hb2
  clear hb2 lKp cKp0 cKp1 cKp2 lKi cKi0 cKi1 cKi2 cKi3 lKm cKm0 cKm1 cKm2 cKm3 cKm4 cKm5 lKg cKg0 cKg1 cKg2 lKR cKR0 cKR1 cKR2 Ki Km
  have lKp := Kp.lt
  have cKp0 := Kp.cell 0
  have cKp1 := Kp.cell 1
  have cKp2 := Kp.cell 2
  have lKg := Kg.lt
  have cKg0 := Kg.cell 0
  have cKg1 := Kg.cell 1
  have cKg2 := Kg.cell 2
  have lKR := KR.lt
  have cKR0 := KR.cell 0
  have cKR1 := KR.cell 1
  have cKR2 := KR.cell 2
  have lKv := Kv.lt
  have cKv0 := Kv.cell 0
  have cKv1 := Kv.cell 1
  have cKv2 := Kv.cell 2
  have cKv3 := Kv.cell 3
  have cKv4 := Kv.cell 4
  have cKv5 := Kv.cell 5
  have cKv6 := Kv.cell 6
  have cKv7 := Kv.cell 7
  have cKv8 := Kv.cell 8
  have cKv9 := Kv.cell 9
  have cKv10 := Kv.cell 10
  simp only [List.getElem?_toArray, List.getElem?_cons_succ, List.getElem?_cons_zero] at cKp0 cKp1 cKp2 cKg0 cKg1 cKg2 cKR0 cKR1 cKR2 cKv0 cKv1 cKv2 cKv3 cKv4 cKv5 cKv6 cKv7 cKv8 cKv9 cKv10
  go_wp2_with fail
  refine ((HM2.out _ hbw)).mono ?_
  rintro e_ V3 ⟨rfl, hb3⟩
  replace Kp := Kp.below hb3 Kp.lt
  replace Kg := Kg.below hb3 Kg.lt
  replace KR := KR.below hb3 KR.lt
  replace Kv := Kv.below hb3 Kv.lt
  replace hbw : Below V.heap.size V V3 := btrans (by (repeat' (first | refine bset ?_ (by first | omega | (simp <;> omega)) _ | refine balloc ?_ _ | refine Below.drew ?_ | refine below_drewN ?_ _ | exact hbw | exact Below.refl _ _))) hb3
  clear hb3 lKp cKp0 cKp1 cKp2 lKg cKg0 cKg1 cKg2 lKR cKR0 cKR1 cKR2 lKv cKv0 cKv1 cKv2 cKv3 cKv4 cKv5 cKv6 cKv7 cKv8 cKv9 cKv10
  have lKp := Kp.lt
  have cKp0 := Kp.cell 0
  have cKp1 := Kp.cell 1
  have cKp2 := Kp.cell 2
  have lKg := Kg.lt
  have cKg0 := Kg.cell 0
  have cKg1 := Kg.cell 1
  have cKg2 := Kg.cell 2
  have lKR := KR.lt
  have cKR0 := KR.cell 0
  have cKR1 := KR.cell 1
  have cKR2 := KR.cell 2
  have fKR0 := KR.frozen 0
  have fKR1 := KR.frozen 1
  have fKR2 := KR.frozen 2
  have lKv := Kv.lt
  have cKv0 := Kv.cell 0
  have cKv1 := Kv.cell 1
  have cKv2 := Kv.cell 2
  have cKv3 := Kv.cell 3
  have cKv4 := Kv.cell 4
  have cKv5 := Kv.cell 5
  have cKv6 := Kv.cell 6
  have cKv7 := Kv.cell 7
  have cKv8 := Kv.cell 8
  have cKv9 := Kv.cell 9
  have cKv10 := Kv.cell 10
  simp only [List.getElem?_toArray, List.getElem?_cons_succ, List.getElem?_cons_zero] at cKp0 cKp1 cKp2 cKg0 cKg1 cKg2 cKR0 cKR1 cKR2 cKv0 cKv1 cKv2 cKv3 cKv4 cKv5 cKv6 cKv7 cKv8 cKv9 cKv10
  have HKr := Lib.hid KR
  have HBW := Lib.hid hbw
  clear KR hbw
  go_wp2_with fail
  have K := ((HKr.out.set_ 0 (.int .i64 0)).set_ 1 (.int .i64 0)).set_ 2 (.slice none 0 0)
  refine ret_struct2 (g := (V.heap.size + 1 + 1 + 1 + 1)) (t := 46) (cs := #[.int .i64 0, .int .i64 0, .slice none 0 0]) rfl rfl ?_ Try.underlying46 rfl rfl rfl ?_
  · first | exact K | exact K.alloc _
  · exact ⟨rfl, by (repeat' (first | refine bset ?_ (by first | omega | (simp <;> omega)) _ | refine balloc ?_ _ | refine Below.drew ?_ | refine below_drewN ?_ _ | exact HBW.out | exact Below.refl _ _))⟩

end Go.Proofs.Ytegpjjkbbdfggaa.im
