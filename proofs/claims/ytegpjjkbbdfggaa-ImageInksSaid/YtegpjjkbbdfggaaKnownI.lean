/-
  Layer 37: the document's example.
-/
import Derived.Test.YtegpjjkbbdfggaaLine2
namespace Go.Proofs.Ytegpjjkbbdfggaa.im
set_option linter.unusedVariables false
set_option linter.unusedSimpArgs false
open Go.RowKit bs mt

set_option maxRecDepth 100000 in
set_option maxHeartbeats 1600000 in
theorem Whole_any (a b c d e f : Int) (w : World) (ha : -1000000 ≤ a ∧ a ≤ 1000000) (hb : -1000000 ≤ b ∧ b ≤ 1000000) (hc : -1000000 ≤ c ∧ c ≤ 1000000) (hd : -1000000 ≤ d ∧ d ≤ 1000000) (he : -1000000 ≤ e ∧ e ≤ 1000000) (hf : -1000000 ≤ f ∧ f ≤ 1000000) :
    Calls Try.prog 34 #[.int .i64 a, .int .i64 b, .int .i64 c, .int .i64 d, .int .i64 e, .int .i64 f] w fun ed w' => ed = .returned (.agg #[.int .i64 (a * 65536), .int .i64 (b * 65536), .int .i64 (c * 65536), .int .i64 (d * 65536), .int .i64 (e * 65536), .int .i64 (f * 65536)]) ∧ Below w.heap.size w w' := by
  obtain ⟨a0, a1⟩ := ha
  obtain ⟨b0, b1⟩ := hb
  obtain ⟨c0, c1⟩ := hc
  obtain ⟨d0, d1⟩ := hd
  obtain ⟨e0, e1⟩ := he
  obtain ⟨f0, f1⟩ := hf
  have K2 := Blk.new w 25 #[.int .i64 0, .int .i64 0, .int .i64 0, .int .i64 0, .int .i64 0, .int .i64 0]
  have q0 := K2.cell 0
  have f0 := K2.frozen 0
  have q1 := K2.cell 1
  have f1 := K2.frozen 1
  have q2 := K2.cell 2
  have f2 := K2.frozen 2
  have q3 := K2.cell 3
  have f3 := K2.frozen 3
  have q4 := K2.cell 4
  have f4 := K2.frozen 4
  have q5 := K2.cell 5
  have f5 := K2.frozen 5
  simp only [List.getElem?_toArray, List.getElem?_cons_succ, List.getElem?_cons_zero] at q0 q1 q2 q3 q4 q5
  clear K2
  go_enter Try.func34, Try.ntmps34
  go_wp2_with fail
  refine ret_struct1 (g := w.heap.size) (t := 25) (cs := #[.int .i64 (a * 65536), .int .i64 (b * 65536), .int .i64 (c * 65536), .int .i64 (d * 65536), .int .i64 (e * 65536), .int .i64 (f * 65536)]) rfl rfl ?_ Try.underlying25 rfl rfl rfl ?_
  · exact Blk.new _ _ _
  · exact ⟨rfl, by (repeat' (first | refine bset ?_ (by first | omega | (simp <;> omega)) _ | refine balloc ?_ _ | refine Below.drew ?_ | refine below_drewN ?_ _ | exact Below.refl _ _ | exact Below.refl _ _))⟩


set_option maxRecDepth 100000 in
set_option maxHeartbeats 1600000 in
theorem known_any (w : World) : Calls Try.prog 13 #[] w fun ed w' => ed = .returned (.bool true) ∧ Below w.heap.size w w' := by
  have hs : ((⟨#[64]⟩ : ByteArray).size : Int) ≤ 9223372036854775807 := by decide
  have HW := Lib.hid (fun W' => show Calls Try.prog 34 #[.int .i64 16, .int .i64 0, .int .i64 0, .int .i64 16, .int .i64 0, .int .i64 0] W' fun ed w' => ed = .returned (.agg #[.int .i64 1048576, .int .i64 0, .int .i64 0, .int .i64 1048576, .int .i64 0, .int .i64 0]) ∧ Below W'.heap.size W' w' from Whole_any 16 0 0 16 0 0 W' (by decide) (by decide) (by decide) (by decide) (by decide) (by decide))
  have HM := Lib.hid (fun W' => show Calls Try.prog 14 #[.agg #[.int .i64 2, .int .i64 1, .int .i64 1, .string ⟨#[64]⟩]] W' fun ed w' => ed = .returned (.bool true) ∧ Below W'.heap.size W' w' by have := may37_any 2 1 1 (⟨#[64]⟩ : ByteArray) W' hs; rw [show mayI 2 1 1 (⟨#[64]⟩ : ByteArray).size = true by kernel_rfl] at this; exact this)
  have HA8 := Lib.hid (fun W' => show Calls Try.prog 18 #[.agg #[.int .i64 2, .int .i64 1, .int .i64 1, .string ⟨#[64]⟩], .agg #[.int .i64 1048576, .int .i64 0, .int .i64 0, .int .i64 1048576, .int .i64 0, .int .i64 0], .int .i64 8, .int .i64 8] W' fun ed w' => ed = .returned (.int .i64 0) ∧ Below W'.heap.size W' w' by have := At_any 2 1 1 1048576 0 0 1048576 0 0 8 8 (⟨#[64]⟩ : ByteArray) W' hs; rw [show AtV 2 1 1 (⟨#[64]⟩ : ByteArray) 1048576 0 0 1048576 0 0 8 8 = 0 by kernel_rfl] at this; exact this)
  have HA24 := Lib.hid (fun W' => show Calls Try.prog 18 #[.agg #[.int .i64 2, .int .i64 1, .int .i64 1, .string ⟨#[64]⟩], .agg #[.int .i64 1048576, .int .i64 0, .int .i64 0, .int .i64 1048576, .int .i64 0, .int .i64 0], .int .i64 24, .int .i64 8] W' fun ed w' => ed = .returned (.int .i64 1) ∧ Below W'.heap.size W' w' by have := At_any 2 1 1 1048576 0 0 1048576 0 0 24 8 (⟨#[64]⟩ : ByteArray) W' hs; rw [show AtV 2 1 1 (⟨#[64]⟩ : ByteArray) 1048576 0 0 1048576 0 0 24 8 = 1 by kernel_rfl] at this; exact this)
  have HA40 := Lib.hid (fun W' => show Calls Try.prog 18 #[.agg #[.int .i64 2, .int .i64 1, .int .i64 1, .string ⟨#[64]⟩], .agg #[.int .i64 1048576, .int .i64 0, .int .i64 0, .int .i64 1048576, .int .i64 0, .int .i64 0], .int .i64 40, .int .i64 8] W' fun ed w' => ed = .returned (.int .i64 (-1)) ∧ Below W'.heap.size W' w' by have := At_any 2 1 1 1048576 0 0 1048576 0 0 40 8 (⟨#[64]⟩ : ByteArray) W' hs; rw [show AtV 2 1 1 (⟨#[64]⟩ : ByteArray) 1048576 0 0 1048576 0 0 40 8 = (-1) by kernel_rfl] at this; exact this)
  have HS := Lib.hid (fun W' => show Calls Try.prog 16 #[.agg #[.int .i64 2, .int .i64 1, .int .i64 1, .string ⟨#[64]⟩], .int .i64 1, .int .i64 0] W' fun ed w' => ed = .returned (.int .i64 1) ∧ Below W'.heap.size W' w' by have := Sample_any 2 1 1 1 0 (⟨#[64]⟩ : ByteArray) W' hs; rw [show (if mayI 2 1 1 (⟨#[64]⟩ : ByteArray).size = true then sampV 2 1 1 (⟨#[64]⟩ : ByteArray) 1 0 else -1) = 1 by kernel_rfl] at this; exact this)
  clear hs
  go_enter Try.func13, Try.ntmps13
  go_wp2_with fail
  refine (HW.out _).mono ?_
  rintro e_ w1 ⟨rfl, hb1⟩
  have hbw : Below w.heap.size w w1 := btrans (by (repeat' (first | exact Below.refl _ _ | exact Below.refl _ _ | refine balloc ?_ _ | refine Below.drew ?_ | refine below_drewN ?_ _ | refine bset ?_ (by first | omega | (simp <;> omega)) _))) hb1
  clear hb1 
  go_wp2_with fail
  refine (HM.out _).mono ?_
  rintro e_ w2 ⟨rfl, hb2⟩
  have Ki := ((Blk.new w1 23 #[.int .i64 2, .int .i64 1, .int .i64 1, .string ⟨#[64]⟩]).alloc (.cells #[.int .i64 1048576, .int .i64 0, .int .i64 0, .int .i64 1048576, .int .i64 0, .int .i64 0] 25))
  have Km := (Blk.new (w1.alloc (.cells #[.int .i64 2, .int .i64 1, .int .i64 1, .string ⟨#[64]⟩] 23)) 25 #[.int .i64 1048576, .int .i64 0, .int .i64 0, .int .i64 1048576, .int .i64 0, .int .i64 0])
  have hz_Km : (w1.alloc (.cells #[.int .i64 2, .int .i64 1, .int .i64 1, .string ⟨#[64]⟩] 23)).heap.size = w1.heap.size + 1 := by simp
  rw [hz_Km] at Km
  clear hz_Km
  replace Ki := Ki.below hb2 Ki.lt
  replace Km := Km.below hb2 Km.lt
  replace hbw : Below w.heap.size w w2 := btrans (by (repeat' (first | refine bset ?_ (by first | omega | (simp <;> omega)) _ | refine balloc ?_ _ | refine Below.drew ?_ | refine below_drewN ?_ _ | exact hbw | exact Below.refl _ _))) hb2
  clear hb2 
  have lKi := Ki.lt
  have cKi0 := Ki.cell 0
  have cKi1 := Ki.cell 1
  have cKi2 := Ki.cell 2
  have cKi3 := Ki.cell 3
  have lKm := Km.lt
  have cKm0 := Km.cell 0
  have cKm1 := Km.cell 1
  have cKm2 := Km.cell 2
  have cKm3 := Km.cell 3
  have cKm4 := Km.cell 4
  have cKm5 := Km.cell 5
  simp only [List.getElem?_toArray, List.getElem?_cons_succ, List.getElem?_cons_zero] at cKi0 cKi1 cKi2 cKi3 cKm0 cKm1 cKm2 cKm3 cKm4 cKm5
  go_wp2_with fail
  refine (HA8.out _).mono ?_
  rintro e_ w3 ⟨rfl, hb3⟩
  replace Ki := Ki.below hb3 Ki.lt
  replace Km := Km.below hb3 Km.lt
  replace hbw : Below w.heap.size w w3 := btrans (by (repeat' (first | refine bset ?_ (by first | omega | (simp <;> omega)) _ | refine balloc ?_ _ | refine Below.drew ?_ | refine below_drewN ?_ _ | exact hbw | exact Below.refl _ _))) hb3
  clear hb3 lKi cKi0 cKi1 cKi2 cKi3 lKm cKm0 cKm1 cKm2 cKm3 cKm4 cKm5
  have lKi := Ki.lt
  have cKi0 := Ki.cell 0
  have cKi1 := Ki.cell 1
  have cKi2 := Ki.cell 2
  have cKi3 := Ki.cell 3
  have lKm := Km.lt
  have cKm0 := Km.cell 0
  have cKm1 := Km.cell 1
  have cKm2 := Km.cell 2
  have cKm3 := Km.cell 3
  have cKm4 := Km.cell 4
  have cKm5 := Km.cell 5
  simp only [List.getElem?_toArray, List.getElem?_cons_succ, List.getElem?_cons_zero] at cKi0 cKi1 cKi2 cKi3 cKm0 cKm1 cKm2 cKm3 cKm4 cKm5
  go_wp2_with fail
  refine (HA24.out _).mono ?_
  rintro e_ w4 ⟨rfl, hb4⟩
  replace Ki := Ki.below hb4 Ki.lt
  replace Km := Km.below hb4 Km.lt
  replace hbw : Below w.heap.size w w4 := btrans (by (repeat' (first | refine bset ?_ (by first | omega | (simp <;> omega)) _ | refine balloc ?_ _ | refine Below.drew ?_ | refine below_drewN ?_ _ | exact hbw | exact Below.refl _ _))) hb4
  clear hb4 lKi cKi0 cKi1 cKi2 cKi3 lKm cKm0 cKm1 cKm2 cKm3 cKm4 cKm5
  have lKi := Ki.lt
  have cKi0 := Ki.cell 0
  have cKi1 := Ki.cell 1
  have cKi2 := Ki.cell 2
  have cKi3 := Ki.cell 3
  have lKm := Km.lt
  have cKm0 := Km.cell 0
  have cKm1 := Km.cell 1
  have cKm2 := Km.cell 2
  have cKm3 := Km.cell 3
  have cKm4 := Km.cell 4
  have cKm5 := Km.cell 5
  simp only [List.getElem?_toArray, List.getElem?_cons_succ, List.getElem?_cons_zero] at cKi0 cKi1 cKi2 cKi3 cKm0 cKm1 cKm2 cKm3 cKm4 cKm5
  go_wp2_with fail
  refine (HA40.out _).mono ?_
  rintro e_ w5 ⟨rfl, hb5⟩
  replace Ki := Ki.below hb5 Ki.lt
  replace Km := Km.below hb5 Km.lt
  replace hbw : Below w.heap.size w w5 := btrans (by (repeat' (first | refine bset ?_ (by first | omega | (simp <;> omega)) _ | refine balloc ?_ _ | refine Below.drew ?_ | refine below_drewN ?_ _ | exact hbw | exact Below.refl _ _))) hb5
  clear hb5 lKi cKi0 cKi1 cKi2 cKi3 lKm cKm0 cKm1 cKm2 cKm3 cKm4 cKm5
  have lKi := Ki.lt
  have cKi0 := Ki.cell 0
  have cKi1 := Ki.cell 1
  have cKi2 := Ki.cell 2
  have cKi3 := Ki.cell 3
  have lKm := Km.lt
  have cKm0 := Km.cell 0
  have cKm1 := Km.cell 1
  have cKm2 := Km.cell 2
  have cKm3 := Km.cell 3
  have cKm4 := Km.cell 4
  have cKm5 := Km.cell 5
  simp only [List.getElem?_toArray, List.getElem?_cons_succ, List.getElem?_cons_zero] at cKi0 cKi1 cKi2 cKi3 cKm0 cKm1 cKm2 cKm3 cKm4 cKm5
  go_wp2_with fail
  refine (HS.out _).mono ?_
  rintro e_ w6 ⟨rfl, hb6⟩
  replace Ki := Ki.below hb6 Ki.lt
  replace Km := Km.below hb6 Km.lt
  replace hbw : Below w.heap.size w w6 := btrans (by (repeat' (first | refine bset ?_ (by first | omega | (simp <;> omega)) _ | refine balloc ?_ _ | refine Below.drew ?_ | refine below_drewN ?_ _ | exact hbw | exact Below.refl _ _))) hb6
  clear hb6 lKi cKi0 cKi1 cKi2 cKi3 lKm cKm0 cKm1 cKm2 cKm3 cKm4 cKm5
  have lKi := Ki.lt
  have cKi0 := Ki.cell 0
  have cKi1 := Ki.cell 1
  have cKi2 := Ki.cell 2
  have cKi3 := Ki.cell 3
  have lKm := Km.lt
  have cKm0 := Km.cell 0
  have cKm1 := Km.cell 1
  have cKm2 := Km.cell 2
  have cKm3 := Km.cell 3
  have cKm4 := Km.cell 4
  have cKm5 := Km.cell 5
  simp only [List.getElem?_toArray, List.getElem?_cons_succ, List.getElem?_cons_zero] at cKi0 cKi1 cKi2 cKi3 cKm0 cKm1 cKm2 cKm3 cKm4 cKm5
  go_wp2_with fail
  go_ret
  exact ⟨rfl, hbw⟩

end Go.Proofs.Ytegpjjkbbdfggaa.im
