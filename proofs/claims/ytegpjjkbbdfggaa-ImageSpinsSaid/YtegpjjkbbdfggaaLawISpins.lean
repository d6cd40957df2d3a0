/-
  ImageSpins: an image under a matrix of whole numbers and the one that undoes it.
-/
import Derived.Test.YtegpjjkbbdfggaaLawIBack
import Derived.Test.YtegpjjkbbdfggaaWholes
import Derived.Test.YtegpjjkbbdfggaaUnit
import Derived.Test.YtegpjjkbbdfggaaEq
namespace Go.Proofs.Ytegpjjkbbdfggaa.im
set_option linter.unusedVariables false
set_option linter.unusedSimpArgs false
open Go.RowKit bs mt op

set_option maxRecDepth 100000 in
set_option maxHeartbeats 6400000 in
theorem ispins_err (A : Option Addr) (n c : Nat) (ns : Nat → Int) (A2 : Option Addr) (n2 c2 : Nat) (ks : Nat → Int) (bits x0 y0 px py W H B t0 t1 t2 t3 v0 v1 v2 v3 s0 s1 s2 s3 fx fy qx qy av bv : Int) (s : ByteArray) (w : World) (hr : Ints w A n c ns) (hr2 : Ints w A2 n2 c2 ks)
    (HMd : Hid (∀ W', Ints W' A n c ns → Calls Try.prog 23 #[.slice A n c, .int .i64 bits] W' fun ed w' => ed = .returned (.agg #[.int .i64 W, .int .i64 H, .int .i64 B, .string s]) ∧ Below W'.heap.size W' w'))
    (HUn : Hid (∀ W', Ints W' A2 n2 c2 ks → Calls Try.prog 29 #[.slice A2 n2 c2] W' fun ed w' => ed = .returned (.agg #[.int .i64 t0, .int .i64 t1, .int .i64 t2, .int .i64 t3, .int .i64 0, .int .i64 0]) ∧ Below W'.heap.size W' w'))
    (HWh : Hid (∀ W', Calls Try.prog 34 #[.int .i64 16, .int .i64 0, .int .i64 0, .int .i64 16, .int .i64 0, .int .i64 0] W' fun ed w' => ed = .returned (.agg #[.int .i64 1048576, .int .i64 0, .int .i64 0, .int .i64 1048576, .int .i64 0, .int .i64 0]) ∧ Below W'.heap.size W' w'))
    (HIn : Hid (∀ W', Calls Try.prog 43 #[.agg #[.int .i64 t0, .int .i64 t1, .int .i64 t2, .int .i64 t3, .int .i64 0, .int .i64 0]] W' fun ed w' => ed = .returned (.tuple #[.agg #[.int .i64 v0, .int .i64 v1, .int .i64 v2, .int .i64 v3, .int .i64 0, .int .i64 0], .int .i64 0]) ∧ Below W'.heap.size W' w'))
    (HM1 : Hid (∀ W', Calls Try.prog 44 #[.agg #[.int .i64 t0, .int .i64 t1, .int .i64 t2, .int .i64 t3, .int .i64 0, .int .i64 0], .agg #[.int .i64 1048576, .int .i64 0, .int .i64 0, .int .i64 1048576, .int .i64 0, .int .i64 0]] W' fun ed w' => ed = .returned (.tuple #[.agg #[.int .i64 s0, .int .i64 s1, .int .i64 s2, .int .i64 s3, .int .i64 0, .int .i64 0], .int .i64 0]) ∧ Below W'.heap.size W' w'))
    (HM2 : Hid (∀ W', Calls Try.prog 44 #[.agg #[.int .i64 v0, .int .i64 v1, .int .i64 v2, .int .i64 v3, .int .i64 0, .int .i64 0], .agg #[.int .i64 s0, .int .i64 s1, .int .i64 s2, .int .i64 s3, .int .i64 0, .int .i64 0]] W' fun ed w' => ed = .returned (.tuple #[.agg #[.int .i64 1048576, .int .i64 0, .int .i64 0, .int .i64 1048576, .int .i64 0, .int .i64 0], .int .i64 0]) ∧ Below W'.heap.size W' w'))
    (HPx : Hid (∀ W', Calls Try.prog 25 #[.int .i64 x0, .int .i64 200] W' fun ed w' => ed = .returned (.int .i64 px) ∧ W' = w'))
    (HPy : Hid (∀ W', Calls Try.prog 25 #[.int .i64 y0, .int .i64 200] W' fun ed w' => ed = .returned (.int .i64 py) ∧ W' = w'))
    (px0 : 0 ≤ px) (px1 : px < 200) (py0 : 0 ≤ py) (py1 : py < 200)
    (HBk : Hid (∀ W', Calls Try.prog 26 #[.agg #[.int .i64 s0, .int .i64 s1, .int .i64 s2, .int .i64 s3, .int .i64 0, .int .i64 0], .int .i64 (px - 30), .int .i64 (py - 30)] W' fun ed w' => ed = .returned (.tuple #[.int .i64 fx, .int .i64 fy, .int .i64 0]) ∧ Below W'.heap.size W' w'))
    (HPt : Hid (∀ W', Calls Try.prog 45 #[.agg #[.int .i64 1048576, .int .i64 0, .int .i64 0, .int .i64 1048576, .int .i64 0, .int .i64 0], .int .i64 fx, .int .i64 fy] W' fun ed w' => ed = .returned (.tuple #[.int .i64 qx, .int .i64 qy, .int .i64 2]) ∧ Below W'.heap.size W' w'))
    (HA1 : Hid (∀ W', Calls Try.prog 18 #[.agg #[.int .i64 W, .int .i64 H, .int .i64 B, .string s], .agg #[.int .i64 1048576, .int .i64 0, .int .i64 0, .int .i64 1048576, .int .i64 0, .int .i64 0], .int .i64 (px - 30), .int .i64 (py - 30)] W' fun ed w' => ed = .returned (.int .i64 av) ∧ Below W'.heap.size W' w'))
    (HA2 : Hid (∀ W', Calls Try.prog 18 #[.agg #[.int .i64 W, .int .i64 H, .int .i64 B, .string s], .agg #[.int .i64 s0, .int .i64 s1, .int .i64 s2, .int .i64 s3, .int .i64 0, .int .i64 0], .int .i64 (px - 30), .int .i64 (py - 30)] W' fun ed w' => ed = .returned (.int .i64 (-1)) ∧ Below W'.heap.size W' w'))
    : Calls Try.prog 8 #[.slice A n c, .int .i64 bits, .slice A2 n2 c2, .int .i64 x0, .int .i64 y0] w fun ed w' => ed = .returned (.bool true) ∧ Below w.heap.size w w' := by
  have JG := guard_mat_ne
  have JE : ∀ w, (binOp .neq 25 (.agg #[.int .i64 1048576, .int .i64 0, .int .i64 0, .int .i64 1048576, .int .i64 0, .int .i64 0]) (.agg #[.int .i64 1048576, .int .i64 0, .int .i64 0, .int .i64 1048576, .int .i64 0, .int .i64 0])).run Try.prog w = .ok (.bool false) w := fun w => by
    have := ne_mat 1048576 0 0 1048576 0 0 1048576 0 0 1048576 0 0 w
    exact this
  go_enter Try.func8, Try.ntmps8
  go_wp2_with fail
  refine (known_any _).mono ?_
  rintro e_ w1 ⟨rfl, hb1⟩
  have hbw : Below w.heap.size w w1 := btrans (by (repeat' (first | exact Below.refl _ _ | exact Below.refl _ _ | refine balloc ?_ _ | refine Below.drew ?_ | refine below_drewN ?_ _ | refine bset ?_ (by first | omega | (simp <;> omega)) _))) hb1
  clear hb1 
  go_wp2_with fail
  refine (HMd.out w1 (hr.below hbw)).mono ?_
  rintro e_ w2 ⟨rfl, hb2⟩
  replace hbw : Below w.heap.size w w2 := btrans (by (repeat' (first | refine bset ?_ (by first | omega | (simp <;> omega)) _ | refine balloc ?_ _ | refine Below.drew ?_ | refine below_drewN ?_ _ | exact hbw | exact Below.refl _ _))) hb2
  clear hb2 
  go_wp2_with fail
  refine (HUn.out w2 (hr2.below hbw)).mono ?_
  rintro e_ w3 ⟨rfl, hb3⟩
  replace hbw : Below w.heap.size w w3 := btrans (by (repeat' (first | refine bset ?_ (by first | omega | (simp <;> omega)) _ | refine balloc ?_ _ | refine Below.drew ?_ | refine below_drewN ?_ _ | exact hbw | exact Below.refl _ _))) hb3
  clear hb3 
  go_wp2_with fail
  refine (HWh.out _).mono ?_
  rintro e_ w4 ⟨rfl, hb4⟩
  have Ki := ((Blk.new w3 23 #[.int .i64 W, .int .i64 H, .int .i64 B, .string s]).alloc (.cells #[.int .i64 t0, .int .i64 t1, .int .i64 t2, .int .i64 t3, .int .i64 0, .int .i64 0] 25))
  have Km := (Blk.new (w3.alloc (.cells #[.int .i64 W, .int .i64 H, .int .i64 B, .string s] 23)) 25 #[.int .i64 t0, .int .i64 t1, .int .i64 t2, .int .i64 t3, .int .i64 0, .int .i64 0])
  have hz_Km : (w3.alloc (.cells #[.int .i64 W, .int .i64 H, .int .i64 B, .string s] 23)).heap.size = w3.heap.size + 1 := by simp
  rw [hz_Km] at Km
  clear hz_Km
  replace Ki := Ki.below hb4 Ki.lt
  replace Km := Km.below hb4 Km.lt
  replace hbw : Below w.heap.size w w4 := btrans (by (repeat' (first | refine bset ?_ (by first | omega | (simp <;> omega)) _ | refine balloc ?_ _ | refine Below.drew ?_ | refine below_drewN ?_ _ | exact hbw | exact Below.refl _ _))) hb4
  clear hb4 
  have lKi := Ki.lt
  have cKi0 := Ki.cell 0
  have cKi1 := Ki.cell 1
  have cKi2 := Ki.cell 2
  have cKi3 := Ki.cell 3
  have lKm := Km.lt
  have cKm0 := Km.cell 0
  have cKm1 := Km.cell 1
  have cKm2 := Km.cell 2
  have cKm3 := Km.cell 3
  have cKm4 := Km.cell 4
  have cKm5 := Km.cell 5
  simp only [List.getElem?_toArray, List.getElem?_cons_succ, List.getElem?_cons_zero] at cKi0 cKi1 cKi2 cKi3 cKm0 cKm1 cKm2 cKm3 cKm4 cKm5
  go_wp2_with fail
  refine (HIn.out _).mono ?_
  rintro e_ w5 ⟨rfl, hb5⟩
  replace Ki := (Ki.alloc (.cells #[.int .i64 1048576, .int .i64 0, .int .i64 0, .int .i64 1048576, .int .i64 0, .int .i64 0] 25))
  replace Km := (Km.alloc (.cells #[.int .i64 1048576, .int .i64 0, .int .i64 0, .int .i64 1048576, .int .i64 0, .int .i64 0] 25))
  have Kd := (Blk.new w4 25 #[.int .i64 1048576, .int .i64 0, .int .i64 0, .int .i64 1048576, .int .i64 0, .int .i64 0])
  replace Ki := Ki.below hb5 Ki.lt
  replace Km := Km.below hb5 Km.lt
  replace Kd := Kd.below hb5 Kd.lt
  replace hbw : Below w.heap.size w w5 := btrans (by (repeat' (first | refine bset ?_ (by first | omega | (simp <;> omega)) _ | refine balloc ?_ _ | refine Below.drew ?_ | refine below_drewN ?_ _ | exact hbw | exact Below.refl _ _))) hb5
  clear hb5 lKi cKi0 cKi1 cKi2 cKi3 lKm cKm0 cKm1 cKm2 cKm3 cKm4 cKm5
  have lKi := Ki.lt
  have cKi0 := Ki.cell 0
  have cKi1 := Ki.cell 1
  have cKi2 := Ki.cell 2
  have cKi3 := Ki.cell 3
  have lKm := Km.lt
  have cKm0 := Km.cell 0
  have cKm1 := Km.cell 1
  have cKm2 := Km.cell 2
  have cKm3 := Km.cell 3
  have cKm4 := Km.cell 4
  have cKm5 := Km.cell 5
  have lKd := Kd.lt
  have cKd0 := Kd.cell 0
  have cKd1 := Kd.cell 1
  have cKd2 := Kd.cell 2
  have cKd3 := Kd.cell 3
  have cKd4 := Kd.cell 4
  have cKd5 := Kd.cell 5
  simp only [List.getElem?_toArray, List.getElem?_cons_succ, List.getElem?_cons_zero] at cKi0 cKi1 cKi2 cKi3 cKm0 cKm1 cKm2 cKm3 cKm4 cKm5 cKd0 cKd1 cKd2 cKd3 cKd4 cKd5
  go_wp2_with fail
  refine (HM1.out _).mono ?_
  rintro e_ w6 ⟨rfl, hb6⟩
  replace Ki := (Ki.alloc (.cells #[.int .i64 v0, .int .i64 v1, .int .i64 v2, .int .i64 v3, .int .i64 0, .int .i64 0] 25))
  replace Km := (Km.alloc (.cells #[.int .i64 v0, .int .i64 v1, .int .i64 v2, .int .i64 v3, .int .i64 0, .int .i64 0] 25))
  replace Kd := (Kd.alloc (.cells #[.int .i64 v0, .int .i64 v1, .int .i64 v2, .int .i64 v3, .int .i64 0, .int .i64 0] 25))
  have Kv := (Blk.new w5 25 #[.int .i64 v0, .int .i64 v1, .int .i64 v2, .int .i64 v3, .int .i64 0, .int .i64 0])
  replace Ki := Ki.below hb6 Ki.lt
  replace Km := Km.below hb6 Km.lt
  replace Kd := Kd.below hb6 Kd.lt
  replace Kv := Kv.below hb6 Kv.lt
  replace hbw : Below w.heap.size w w6 := btrans (by (repeat' (first | refine bset ?_ (by first | omega | (simp <;> omega)) _ | refine balloc ?_ _ | refine Below.drew ?_ | refine below_drewN ?_ _ | exact hbw | exact Below.refl _ _))) hb6
  clear hb6 lKi cKi0 cKi1 cKi2 cKi3 lKm cKm0 cKm1 cKm2 cKm3 cKm4 cKm5 lKd cKd0 cKd1 cKd2 cKd3 cKd4 cKd5 Km
  have lKi := Ki.lt
  have cKi0 := Ki.cell 0
  have cKi1 := Ki.cell 1
  have cKi2 := Ki.cell 2
  have cKi3 := Ki.cell 3
  have lKd := Kd.lt
  have cKd0 := Kd.cell 0
  have cKd1 := Kd.cell 1
  have cKd2 := Kd.cell 2
  have cKd3 := Kd.cell 3
  have cKd4 := Kd.cell 4
  have cKd5 := Kd.cell 5
  have lKv := Kv.lt
  have cKv0 := Kv.cell 0
  have cKv1 := Kv.cell 1
  have cKv2 := Kv.cell 2
  have cKv3 := Kv.cell 3
  have cKv4 := Kv.cell 4
  have cKv5 := Kv.cell 5
  simp only [List.getElem?_toArray, List.getElem?_cons_succ, List.getElem?_cons_zero] at cKi0 cKi1 cKi2 cKi3 cKd0 cKd1 cKd2 cKd3 cKd4 cKd5 cKv0 cKv1 cKv2 cKv3 cKv4 cKv5
  go_wp2_with fail
  refine (HM2.out _).mono ?_
  rintro e_ w7 ⟨rfl, hb7⟩
  replace Ki := (Ki.alloc (.cells #[.int .i64 s0, .int .i64 s1, .int .i64 s2, .int .i64 s3, .int .i64 0, .int .i64 0] 25))
  replace Kd := (Kd.alloc (.cells #[.int .i64 s0, .int .i64 s1, .int .i64 s2, .int .i64 s3, .int .i64 0, .int .i64 0] 25))
  replace Kv := (Kv.alloc (.cells #[.int .i64 s0, .int .i64 s1, .int .i64 s2, .int .i64 s3, .int .i64 0, .int .i64 0] 25))
  have Ks := (Blk.new w6 25 #[.int .i64 s0, .int .i64 s1, .int .i64 s2, .int .i64 s3, .int .i64 0, .int .i64 0])
  replace Ki := Ki.below hb7 Ki.lt
  replace Kd := Kd.below hb7 Kd.lt
  replace Kv := Kv.below hb7 Kv.lt
  replace Ks := Ks.below hb7 Ks.lt
  replace hbw : Below w.heap.size w w7 := btrans (by (repeat' (first | refine bset ?_ (by first | omega | (simp <;> omega)) _ | refine balloc ?_ _ | refine Below.drew ?_ | refine below_drewN ?_ _ | exact hbw | exact Below.refl _ _))) hb7
  clear hb7 lKi cKi0 cKi1 cKi2 cKi3 lKd cKd0 cKd1 cKd2 cKd3 cKd4 cKd5 lKv cKv0 cKv1 cKv2 cKv3 cKv4 cKv5 Kv
  have lKi := Ki.lt
  have cKi0 := Ki.cell 0
  have cKi1 := Ki.cell 1
  have cKi2 := Ki.cell 2
  have cKi3 := Ki.cell 3
  have lKd := Kd.lt
  have cKd0 := Kd.cell 0
  have cKd1 := Kd.cell 1
  have cKd2 := Kd.cell 2
  have cKd3 := Kd.cell 3
  have cKd4 := Kd.cell 4
  have cKd5 := Kd.cell 5
  have lKs := Ks.lt
  have cKs0 := Ks.cell 0
  have cKs1 := Ks.cell 1
  have cKs2 := Ks.cell 2
  have cKs3 := Ks.cell 3
  have cKs4 := Ks.cell 4
  have cKs5 := Ks.cell 5
  simp only [List.getElem?_toArray, List.getElem?_cons_succ, List.getElem?_cons_zero] at cKi0 cKi1 cKi2 cKi3 cKd0 cKd1 cKd2 cKd3 cKd4 cKd5 cKs0 cKs1 cKs2 cKs3 cKs4 cKs5
  go_wp2_with fail
  refine (HPx.out _).mono ?_
  rintro e_ w8 ⟨rfl, hsame8⟩
  have hb8 : Below (w7.alloc (.cells #[.int .i64 1048576, .int .i64 0, .int .i64 0, .int .i64 1048576, .int .i64 0, .int .i64 0] 25)).heap.size (w7.alloc (.cells #[.int .i64 1048576, .int .i64 0, .int .i64 0, .int .i64 1048576, .int .i64 0, .int .i64 0] 25)) w8 := by rw [hsame8]; exact Below.refl _ _
  clear hsame8
  replace Ki := (Ki.alloc (.cells #[.int .i64 1048576, .int .i64 0, .int .i64 0, .int .i64 1048576, .int .i64 0, .int .i64 0] 25))
  replace Kd := (Kd.alloc (.cells #[.int .i64 1048576, .int .i64 0, .int .i64 0, .int .i64 1048576, .int .i64 0, .int .i64 0] 25))
  replace Ks := (Ks.alloc (.cells #[.int .i64 1048576, .int .i64 0, .int .i64 0, .int .i64 1048576, .int .i64 0, .int .i64 0] 25))
  have Kb := (Blk.new w7 25 #[.int .i64 1048576, .int .i64 0, .int .i64 0, .int .i64 1048576, .int .i64 0, .int .i64 0])
  replace Ki := Ki.below hb8 Ki.lt
  replace Kd := Kd.below hb8 Kd.lt
  replace Ks := Ks.below hb8 Ks.lt
  replace Kb := Kb.below hb8 Kb.lt
  replace hbw : Below w.heap.size w w8 := btrans (by (repeat' (first | refine bset ?_ (by first | omega | (simp <;> omega)) _ | refine balloc ?_ _ | refine Below.drew ?_ | refine below_drewN ?_ _ | exact hbw | exact Below.refl _ _))) hb8
  clear hb8 lKi cKi0 cKi1 cKi2 cKi3 lKd cKd0 cKd1 cKd2 cKd3 cKd4 cKd5 lKs cKs0 cKs1 cKs2 cKs3 cKs4 cKs5
  have lKi := Ki.lt
  have cKi0 := Ki.cell 0
  have cKi1 := Ki.cell 1
  have cKi2 := Ki.cell 2
  have cKi3 := Ki.cell 3
  have lKd := Kd.lt
  have cKd0 := Kd.cell 0
  have cKd1 := Kd.cell 1
  have cKd2 := Kd.cell 2
  have cKd3 := Kd.cell 3
  have cKd4 := Kd.cell 4
  have cKd5 := Kd.cell 5
  have lKs := Ks.lt
  have cKs0 := Ks.cell 0
  have cKs1 := Ks.cell 1
  have cKs2 := Ks.cell 2
  have cKs3 := Ks.cell 3
  have cKs4 := Ks.cell 4
  have cKs5 := Ks.cell 5
  have lKb := Kb.lt
  have cKb0 := Kb.cell 0
  have cKb1 := Kb.cell 1
  have cKb2 := Kb.cell 2
  have cKb3 := Kb.cell 3
  have cKb4 := Kb.cell 4
  have cKb5 := Kb.cell 5
  simp only [List.getElem?_toArray, List.getElem?_cons_succ, List.getElem?_cons_zero] at cKi0 cKi1 cKi2 cKi3 cKd0 cKd1 cKd2 cKd3 cKd4 cKd5 cKs0 cKs1 cKs2 cKs3 cKs4 cKs5 cKb0 cKb1 cKb2 cKb3 cKb4 cKb5
  go_wp2_with fail
  refine (HPy.out _).mono ?_
  rintro e_ w_ ⟨rfl, rfl⟩
  go_wp2_with fail
  refine (HBk.out _).mono ?_
  rintro e_ w9 ⟨rfl, hb9⟩
  replace Ki := Ki.below hb9 Ki.lt
  replace Kd := Kd.below hb9 Kd.lt
  replace Ks := Ks.below hb9 Ks.lt
  replace Kb := Kb.below hb9 Kb.lt
  replace hbw : Below w.heap.size w w9 := btrans (by (repeat' (first | refine bset ?_ (by first | omega | (simp <;> omega)) _ | refine balloc ?_ _ | refine Below.drew ?_ | refine below_drewN ?_ _ | exact hbw | exact Below.refl _ _))) hb9
  clear hb9 lKi cKi0 cKi1 cKi2 cKi3 lKd cKd0 cKd1 cKd2 cKd3 cKd4 cKd5 lKs cKs0 cKs1 cKs2 cKs3 cKs4 cKs5 lKb cKb0 cKb1 cKb2 cKb3 cKb4 cKb5
  have lKi := Ki.lt
  have cKi0 := Ki.cell 0
  have cKi1 := Ki.cell 1
  have cKi2 := Ki.cell 2
  have cKi3 := Ki.cell 3
  have lKd := Kd.lt
  have cKd0 := Kd.cell 0
  have cKd1 := Kd.cell 1
  have cKd2 := Kd.cell 2
  have cKd3 := Kd.cell 3
  have cKd4 := Kd.cell 4
  have cKd5 := Kd.cell 5
  have lKs := Ks.lt
  have cKs0 := Ks.cell 0
  have cKs1 := Ks.cell 1
  have cKs2 := Ks.cell 2
  have cKs3 := Ks.cell 3
  have cKs4 := Ks.cell 4
  have cKs5 := Ks.cell 5
  have lKb := Kb.lt
  have cKb0 := Kb.cell 0
  have cKb1 := Kb.cell 1
  have cKb2 := Kb.cell 2
  have cKb3 := Kb.cell 3
  have cKb4 := Kb.cell 4
  have cKb5 := Kb.cell 5
  simp only [List.getElem?_toArray, List.getElem?_cons_succ, List.getElem?_cons_zero] at cKi0 cKi1 cKi2 cKi3 cKd0 cKd1 cKd2 cKd3 cKd4 cKd5 cKs0 cKs1 cKs2 cKs3 cKs4 cKs5 cKb0 cKb1 cKb2 cKb3 cKb4 cKb5
  go_wp2_with fail
  refine (HWh.out _).mono ?_
  rintro e_ w10 ⟨rfl, hb10⟩
  replace Ki := Ki.below hb10 Ki.lt
  replace Kd := Kd.below hb10 Kd.lt
  replace Ks := Ks.below hb10 Ks.lt
  replace Kb := Kb.below hb10 Kb.lt
  replace hbw : Below w.heap.size w w10 := btrans (by (repeat' (first | refine bset ?_ (by first | omega | (simp <;> omega)) _ | refine balloc ?_ _ | refine Below.drew ?_ | refine below_drewN ?_ _ | exact hbw | exact Below.refl _ _))) hb10
  clear hb10 lKi cKi0 cKi1 cKi2 cKi3 lKd cKd0 cKd1 cKd2 cKd3 cKd4 cKd5 lKs cKs0 cKs1 cKs2 cKs3 cKs4 cKs5 lKb cKb0 cKb1 cKb2 cKb3 cKb4 cKb5
  have lKi := Ki.lt
  have cKi0 := Ki.cell 0
  have cKi1 := Ki.cell 1
  have cKi2 := Ki.cell 2
  have cKi3 := Ki.cell 3
  have lKd := Kd.lt
  have cKd0 := Kd.cell 0
  have cKd1 := Kd.cell 1
  have cKd2 := Kd.cell 2
  have cKd3 := Kd.cell 3
  have cKd4 := Kd.cell 4
  have cKd5 := Kd.cell 5
  have lKs := Ks.lt
  have cKs0 := Ks.cell 0
  have cKs1 := Ks.cell 1
  have cKs2 := Ks.cell 2
  have cKs3 := Ks.cell 3
  have cKs4 := Ks.cell 4
  have cKs5 := Ks.cell 5
  have lKb := Kb.lt
  have cKb0 := Kb.cell 0
  have cKb1 := Kb.cell 1
  have cKb2 := Kb.cell 2
  have cKb3 := Kb.cell 3
  have cKb4 := Kb.cell 4
  have cKb5 := Kb.cell 5
  simp only [List.getElem?_toArray, List.getElem?_cons_succ, List.getElem?_cons_zero] at cKi0 cKi1 cKi2 cKi3 cKd0 cKd1 cKd2 cKd3 cKd4 cKd5 cKs0 cKs1 cKs2 cKs3 cKs4 cKs5 cKb0 cKb1 cKb2 cKb3 cKb4 cKb5
  go_wp2_with fail
  refine (HPt.out _).mono ?_
  rintro e_ w11 ⟨rfl, hb11⟩
  replace Ki := Ki.below hb11 Ki.lt
  replace Kd := Kd.below hb11 Kd.lt
  replace Ks := Ks.below hb11 Ks.lt
  replace Kb := Kb.below hb11 Kb.lt
  replace hbw : Below w.heap.size w w11 := btrans (by (repeat' (first | refine bset ?_ (by first | omega | (simp <;> omega)) _ | refine balloc ?_ _ | refine Below.drew ?_ | refine below_drewN ?_ _ | exact hbw | exact Below.refl _ _))) hb11
  clear hb11 lKi cKi0 cKi1 cKi2 cKi3 lKd cKd0 cKd1 cKd2 cKd3 cKd4 cKd5 lKs cKs0 cKs1 cKs2 cKs3 cKs4 cKs5 lKb cKb0 cKb1 cKb2 cKb3 cKb4 cKb5
  have lKi := Ki.lt
  have cKi0 := Ki.cell 0
  have cKi1 := Ki.cell 1
  have cKi2 := Ki.cell 2
  have cKi3 := Ki.cell 3
  have lKd := Kd.lt
  have cKd0 := Kd.cell 0
  have cKd1 := Kd.cell 1
  have cKd2 := Kd.cell 2
  have cKd3 := Kd.cell 3
  have cKd4 := Kd.cell 4
  have cKd5 := Kd.cell 5
  have lKs := Ks.lt
  have cKs0 := Ks.cell 0
  have cKs1 := Ks.cell 1
  have cKs2 := Ks.cell 2
  have cKs3 := Ks.cell 3
  have cKs4 := Ks.cell 4
  have cKs5 := Ks.cell 5
  have lKb := Kb.lt
  have cKb0 := Kb.cell 0
  have cKb1 := Kb.cell 1
  have cKb2 := Kb.cell 2
  have cKb3 := Kb.cell 3
  have cKb4 := Kb.cell 4
  have cKb5 := Kb.cell 5
  simp only [List.getElem?_toArray, List.getElem?_cons_succ, List.getElem?_cons_zero] at cKi0 cKi1 cKi2 cKi3 cKd0 cKd1 cKd2 cKd3 cKd4 cKd5 cKs0 cKs1 cKs2 cKs3 cKs4 cKs5 cKb0 cKb1 cKb2 cKb3 cKb4 cKb5
  go_wp2_with fail
  have uKi0 : ∀ u : Up w11, u.val.cell? ⟨w3.heap.size, 0, none⟩ = some (.int .i64 W) := fun u => (u.cell lKi).trans cKi0
  have uKi1 : ∀ u : Up w11, u.val.cell? ⟨w3.heap.size, 1, none⟩ = some (.int .i64 H) := fun u => (u.cell lKi).trans cKi1
  have uKi2 : ∀ u : Up w11, u.val.cell? ⟨w3.heap.size, 2, none⟩ = some (.int .i64 B) := fun u => (u.cell lKi).trans cKi2
  have uKi3 : ∀ u : Up w11, u.val.cell? ⟨w3.heap.size, 3, none⟩ = some (.string s) := fun u => (u.cell lKi).trans cKi3
  have uKd0 : ∀ u : Up w11, u.val.cell? ⟨w4.heap.size, 0, none⟩ = some (.int .i64 1048576) := fun u => (u.cell lKd).trans cKd0
  have uKd1 : ∀ u : Up w11, u.val.cell? ⟨w4.heap.size, 1, none⟩ = some (.int .i64 0) := fun u => (u.cell lKd).trans cKd1
  have uKd2 : ∀ u : Up w11, u.val.cell? ⟨w4.heap.size, 2, none⟩ = some (.int .i64 0) := fun u => (u.cell lKd).trans cKd2
  have uKd3 : ∀ u : Up w11, u.val.cell? ⟨w4.heap.size, 3, none⟩ = some (.int .i64 1048576) := fun u => (u.cell lKd).trans cKd3
  have uKd4 : ∀ u : Up w11, u.val.cell? ⟨w4.heap.size, 4, none⟩ = some (.int .i64 0) := fun u => (u.cell lKd).trans cKd4
  have uKd5 : ∀ u : Up w11, u.val.cell? ⟨w4.heap.size, 5, none⟩ = some (.int .i64 0) := fun u => (u.cell lKd).trans cKd5
  have uKb0 : ∀ u : Up w11, u.val.cell? ⟨w7.heap.size, 0, none⟩ = some (.int .i64 1048576) := fun u => (u.cell lKb).trans cKb0
  have uKb1 : ∀ u : Up w11, u.val.cell? ⟨w7.heap.size, 1, none⟩ = some (.int .i64 0) := fun u => (u.cell lKb).trans cKb1
  have uKb2 : ∀ u : Up w11, u.val.cell? ⟨w7.heap.size, 2, none⟩ = some (.int .i64 0) := fun u => (u.cell lKb).trans cKb2
  have uKb3 : ∀ u : Up w11, u.val.cell? ⟨w7.heap.size, 3, none⟩ = some (.int .i64 1048576) := fun u => (u.cell lKb).trans cKb3
  have uKb4 : ∀ u : Up w11, u.val.cell? ⟨w7.heap.size, 4, none⟩ = some (.int .i64 0) := fun u => (u.cell lKb).trans cKb4
  have uKb5 : ∀ u : Up w11, u.val.cell? ⟨w7.heap.size, 5, none⟩ = some (.int .i64 0) := fun u => (u.cell lKb).trans cKb5
  have HU1 := Lib.hid (fun u : Up w11 => up_of (u := u) (HA1.out u.val))
  refine wp_region_up (by kernel_rfl) (by kernel_rfl) ?_
  repeat (go_big_quiet_step (fail))
  go_big_quiet_step (exact HU1.out _)
  repeat (go_big_quiet_step (fail))
  go_big_quiet_step (exact HU1.out _)
  repeat (go_big_quiet_step (fail))
  refine wpQuiet_nil ?_
  rintro _ ⟨uq, rfl⟩
  replace Ki := Ki.below uq.ok lKi
  replace Kd := Kd.below uq.ok lKd
  replace Ks := Ks.below uq.ok lKs
  replace hbw := btrans hbw uq.ok
  generalize hwx : uq.val = w12 at *
  clear hwx uq Kb lKi cKi0 cKi1 cKi2 cKi3 lKd cKd0 cKd1 cKd2 cKd3 cKd4 cKd5 lKs cKs0 cKs1 cKs2 cKs3 cKs4 cKs5 lKb cKb0 cKb1 cKb2 cKb3 cKb4 cKb5 uKi0 uKi1 uKi2 uKi3 uKd0 uKd1 uKd2 uKd3 uKd4 uKd5 uKb0 uKb1 uKb2 uKb3 uKb4 uKb5 HU1
  have lKi := Ki.lt
  have cKi0 := Ki.cell 0
  have cKi1 := Ki.cell 1
  have cKi2 := Ki.cell 2
  have cKi3 := Ki.cell 3
  have lKd := Kd.lt
  have cKd0 := Kd.cell 0
  have cKd1 := Kd.cell 1
  have cKd2 := Kd.cell 2
  have cKd3 := Kd.cell 3
  have cKd4 := Kd.cell 4
  have cKd5 := Kd.cell 5
  have lKs := Ks.lt
  have cKs0 := Ks.cell 0
  have cKs1 := Ks.cell 1
  have cKs2 := Ks.cell 2
  have cKs3 := Ks.cell 3
  have cKs4 := Ks.cell 4
  have cKs5 := Ks.cell 5
  simp only [List.getElem?_toArray, List.getElem?_cons_succ, List.getElem?_cons_zero] at cKi0 cKi1 cKi2 cKi3 cKd0 cKd1 cKd2 cKd3 cKd4 cKd5 cKs0 cKs1 cKs2 cKs3 cKs4 cKs5
  go_wp2_with fail
  refine (HA2.out _).mono ?_
  rintro e_ w13 ⟨rfl, hb13⟩
  replace Ki := Ki.below hb13 Ki.lt
  replace Kd := Kd.below hb13 Kd.lt
  replace Ks := Ks.below hb13 Ks.lt
  replace hbw : Below w.heap.size w w13 := btrans (by (repeat' (first | refine bset ?_ (by first | omega | (simp <;> omega)) _ | refine balloc ?_ _ | refine Below.drew ?_ | refine below_drewN ?_ _ | exact hbw | exact Below.refl _ _))) hb13
  clear hb13 lKi cKi0 cKi1 cKi2 cKi3 lKd cKd0 cKd1 cKd2 cKd3 cKd4 cKd5 lKs cKs0 cKs1 cKs2 cKs3 cKs4 cKs5
  have lKi := Ki.lt
  have cKi0 := Ki.cell 0
  have cKi1 := Ki.cell 1
  have cKi2 := Ki.cell 2
  have cKi3 := Ki.cell 3
  have lKd := Kd.lt
  have cKd0 := Kd.cell 0
  have cKd1 := Kd.cell 1
  have cKd2 := Kd.cell 2
  have cKd3 := Kd.cell 3
  have cKd4 := Kd.cell 4
  have cKd5 := Kd.cell 5
  have lKs := Ks.lt
  have cKs0 := Ks.cell 0
  have cKs1 := Ks.cell 1
  have cKs2 := Ks.cell 2
  have cKs3 := Ks.cell 3
  have cKs4 := Ks.cell 4
  have cKs5 := Ks.cell 5
  simp only [List.getElem?_toArray, List.getElem?_cons_succ, List.getElem?_cons_zero] at cKi0 cKi1 cKi2 cKi3 cKd0 cKd1 cKd2 cKd3 cKd4 cKd5 cKs0 cKs1 cKs2 cKs3 cKs4 cKs5
  go_wp2_with fail
  go_ret
  exact ⟨rfl, hbw⟩

set_option maxRecDepth 100000 in
set_option maxHeartbeats 6400000 in
theorem ispins_ok (A : Option Addr) (n c : Nat) (ns : Nat → Int) (A2 : Option Addr) (n2 c2 : Nat) (ks : Nat → Int) (bits x0 y0 px py W H B t0 t1 t2 t3 v0 v1 v2 v3 s0 s1 s2 s3 fx fy qx qy av bv : Int) (s : ByteArray) (w : World) (hr : Ints w A n c ns) (hr2 : Ints w A2 n2 c2 ks)
    (HMd : Hid (∀ W', Ints W' A n c ns → Calls Try.prog 23 #[.slice A n c, .int .i64 bits] W' fun ed w' => ed = .returned (.agg #[.int .i64 W, .int .i64 H, .int .i64 B, .string s]) ∧ Below W'.heap.size W' w'))
    (HUn : Hid (∀ W', Ints W' A2 n2 c2 ks → Calls Try.prog 29 #[.slice A2 n2 c2] W' fun ed w' => ed = .returned (.agg #[.int .i64 t0, .int .i64 t1, .int .i64 t2, .int .i64 t3, .int .i64 0, .int .i64 0]) ∧ Below W'.heap.size W' w'))
    (HWh : Hid (∀ W', Calls Try.prog 34 #[.int .i64 16, .int .i64 0, .int .i64 0, .int .i64 16, .int .i64 0, .int .i64 0] W' fun ed w' => ed = .returned (.agg #[.int .i64 1048576, .int .i64 0, .int .i64 0, .int .i64 1048576, .int .i64 0, .int .i64 0]) ∧ Below W'.heap.size W' w'))
    (HIn : Hid (∀ W', Calls Try.prog 43 #[.agg #[.int .i64 t0, .int .i64 t1, .int .i64 t2, .int .i64 t3, .int .i64 0, .int .i64 0]] W' fun ed w' => ed = .returned (.tuple #[.agg #[.int .i64 v0, .int .i64 v1, .int .i64 v2, .int .i64 v3, .int .i64 0, .int .i64 0], .int .i64 0]) ∧ Below W'.heap.size W' w'))
    (HM1 : Hid (∀ W', Calls Try.prog 44 #[.agg #[.int .i64 t0, .int .i64 t1, .int .i64 t2, .int .i64 t3, .int .i64 0, .int .i64 0], .agg #[.int .i64 1048576, .int .i64 0, .int .i64 0, .int .i64 1048576, .int .i64 0, .int .i64 0]] W' fun ed w' => ed = .returned (.tuple #[.agg #[.int .i64 s0, .int .i64 s1, .int .i64 s2, .int .i64 s3, .int .i64 0, .int .i64 0], .int .i64 0]) ∧ Below W'.heap.size W' w'))
    (HM2 : Hid (∀ W', Calls Try.prog 44 #[.agg #[.int .i64 v0, .int .i64 v1, .int .i64 v2, .int .i64 v3, .int .i64 0, .int .i64 0], .agg #[.int .i64 s0, .int .i64 s1, .int .i64 s2, .int .i64 s3, .int .i64 0, .int .i64 0]] W' fun ed w' => ed = .returned (.tuple #[.agg #[.int .i64 1048576, .int .i64 0, .int .i64 0, .int .i64 1048576, .int .i64 0, .int .i64 0], .int .i64 0]) ∧ Below W'.heap.size W' w'))
    (HPx : Hid (∀ W', Calls Try.prog 25 #[.int .i64 x0, .int .i64 200] W' fun ed w' => ed = .returned (.int .i64 px) ∧ W' = w'))
    (HPy : Hid (∀ W', Calls Try.prog 25 #[.int .i64 y0, .int .i64 200] W' fun ed w' => ed = .returned (.int .i64 py) ∧ W' = w'))
    (px0 : 0 ≤ px) (px1 : px < 200) (py0 : 0 ≤ py) (py1 : py < 200)
    (HBk : Hid (∀ W', Calls Try.prog 26 #[.agg #[.int .i64 s0, .int .i64 s1, .int .i64 s2, .int .i64 s3, .int .i64 0, .int .i64 0], .int .i64 (px - 30), .int .i64 (py - 30)] W' fun ed w' => ed = .returned (.tuple #[.int .i64 fx, .int .i64 fy, .int .i64 0]) ∧ Below W'.heap.size W' w'))
    (HPt : Hid (∀ W', Calls Try.prog 45 #[.agg #[.int .i64 1048576, .int .i64 0, .int .i64 0, .int .i64 1048576, .int .i64 0, .int .i64 0], .int .i64 fx, .int .i64 fy] W' fun ed w' => ed = .returned (.tuple #[.int .i64 qx, .int .i64 qy, .int .i64 0]) ∧ Below W'.heap.size W' w'))
    (HA1 : Hid (∀ W', Calls Try.prog 18 #[.agg #[.int .i64 W, .int .i64 H, .int .i64 B, .string s], .agg #[.int .i64 1048576, .int .i64 0, .int .i64 0, .int .i64 1048576, .int .i64 0, .int .i64 0], .int .i64 (px - 30), .int .i64 (py - 30)] W' fun ed w' => ed = .returned (.int .i64 av) ∧ Below W'.heap.size W' w'))
    (HA2 : Hid (∀ W', Calls Try.prog 18 #[.agg #[.int .i64 W, .int .i64 H, .int .i64 B, .string s], .agg #[.int .i64 s0, .int .i64 s1, .int .i64 s2, .int .i64 s3, .int .i64 0, .int .i64 0], .int .i64 (px - 30), .int .i64 (py - 30)] W' fun ed w' => ed = .returned (.int .i64 bv) ∧ Below W'.heap.size W' w'))
    (HA3 : Hid (∀ W', Calls Try.prog 18 #[.agg #[.int .i64 W, .int .i64 H, .int .i64 B, .string s], .agg #[.int .i64 1048576, .int .i64 0, .int .i64 0, .int .i64 1048576, .int .i64 0, .int .i64 0], .int .i64 qx, .int .i64 qy] W' fun ed w' => ed = .returned (.int .i64 bv) ∧ Below W'.heap.size W' w'))
    : Calls Try.prog 8 #[.slice A n c, .int .i64 bits, .slice A2 n2 c2, .int .i64 x0, .int .i64 y0] w fun ed w' => ed = .returned (.bool true) ∧ Below w.heap.size w w' := by
  have JG := guard_mat_ne
  have JE : ∀ w, (binOp .neq 25 (.agg #[.int .i64 1048576, .int .i64 0, .int .i64 0, .int .i64 1048576, .int .i64 0, .int .i64 0]) (.agg #[.int .i64 1048576, .int .i64 0, .int .i64 0, .int .i64 1048576, .int .i64 0, .int .i64 0])).run Try.prog w = .ok (.bool false) w := fun w => by
    have := ne_mat 1048576 0 0 1048576 0 0 1048576 0 0 1048576 0 0 w
    exact this
  go_enter Try.func8, Try.ntmps8
  go_wp2_with fail
  refine (known_any _).mono ?_
  rintro e_ w1 ⟨rfl, hb1⟩
  have hbw : Below w.heap.size w w1 := btrans (by (repeat' (first | exact Below.refl _ _ | exact Below.refl _ _ | refine balloc ?_ _ | refine Below.drew ?_ | refine below_drewN ?_ _ | refine bset ?_ (by first | omega | (simp <;> omega)) _))) hb1
  clear hb1 
  go_wp2_with fail
  refine (HMd.out w1 (hr.below hbw)).mono ?_
  rintro e_ w2 ⟨rfl, hb2⟩
  replace hbw : Below w.heap.size w w2 := btrans (by (repeat' (first | refine bset ?_ (by first | omega | (simp <;> omega)) _ | refine balloc ?_ _ | refine Below.drew ?_ | refine below_drewN ?_ _ | exact hbw | exact Below.refl _ _))) hb2
  clear hb2 
  go_wp2_with fail
  refine (HUn.out w2 (hr2.below hbw)).mono ?_
  rintro e_ w3 ⟨rfl, hb3⟩
  replace hbw : Below w.heap.size w w3 := btrans (by (repeat' (first | refine bset ?_ (by first | omega | (simp <;> omega)) _ | refine balloc ?_ _ | refine Below.drew ?_ | refine below_drewN ?_ _ | exact hbw | exact Below.refl _ _))) hb3
  clear hb3 
  go_wp2_with fail
  refine (HWh.out _).mono ?_
  rintro e_ w4 ⟨rfl, hb4⟩
  have Ki := ((Blk.new w3 23 #[.int .i64 W, .int .i64 H, .int .i64 B, .string s]).alloc (.cells #[.int .i64 t0, .int .i64 t1, .int .i64 t2, .int .i64 t3, .int .i64 0, .int .i64 0] 25))
  have Km := (Blk.new (w3.alloc (.cells #[.int .i64 W, .int .i64 H, .int .i64 B, .string s] 23)) 25 #[.int .i64 t0, .int .i64 t1, .int .i64 t2, .int .i64 t3, .int .i64 0, .int .i64 0])
  have hz_Km : (w3.alloc (.cells #[.int .i64 W, .int .i64 H, .int .i64 B, .string s] 23)).heap.size = w3.heap.size + 1 := by simp
  rw [hz_Km] at Km
  clear hz_Km
  replace Ki := Ki.below hb4 Ki.lt
  replace Km := Km.below hb4 Km.lt
  replace hbw : Below w.heap.size w w4 := btrans (by (repeat' (first | refine bset ?_ (by first | omega | (simp <;> omega)) _ | refine balloc ?_ _ | refine Below.drew ?_ | refine below_drewN ?_ _ | exact hbw | exact Below.refl _ _))) hb4
  clear hb4 
  have lKi := Ki.lt
  have cKi0 := Ki.cell 0
  have cKi1 := Ki.cell 1
  have cKi2 := Ki.cell 2
  have cKi3 := Ki.cell 3
  have lKm := Km.lt
  have cKm0 := Km.cell 0
  have cKm1 := Km.cell 1
  have cKm2 := Km.cell 2
  have cKm3 := Km.cell 3
  have cKm4 := Km.cell 4
  have cKm5 := Km.cell 5
  simp only [List.getElem?_toArray, List.getElem?_cons_succ, List.getElem?_cons_zero] at cKi0 cKi1 cKi2 cKi3 cKm0 cKm1 cKm2 cKm3 cKm4 cKm5
  go_wp2_with fail
  refine (HIn.out _).mono ?_
  rintro e_ w5 ⟨rfl, hb5⟩
  replace Ki := (Ki.alloc (.cells #[.int .i64 1048576, .int .i64 0, .int .i64 0, .int .i64 1048576, .int .i64 0, .int .i64 0] 25))
  replace Km := (Km.alloc (.cells #[.int .i64 1048576, .int .i64 0, .int .i64 0, .int .i64 1048576, .int .i64 0, .int .i64 0] 25))
  have Kd := (Blk.new w4 25 #[.int .i64 1048576, .int .i64 0, .int .i64 0, .int .i64 1048576, .int .i64 0, .int .i64 0])
  replace Ki := Ki.below hb5 Ki.lt
  replace Km := Km.below hb5 Km.lt
  replace Kd := Kd.below hb5 Kd.lt
  replace hbw : Below w.heap.size w w5 := btrans (by (repeat' (first | refine bset ?_ (by first | omega | (simp <;> omega)) _ | refine balloc ?_ _ | refine Below.drew ?_ | refine below_drewN ?_ _ | exact hbw | exact Below.refl _ _))) hb5
  clear hb5 lKi cKi0 cKi1 cKi2 cKi3 lKm cKm0 cKm1 cKm2 cKm3 cKm4 cKm5
  have lKi := Ki.lt
  have cKi0 := Ki.cell 0
  have cKi1 := Ki.cell 1
  have cKi2 := Ki.cell 2
  have cKi3 := Ki.cell 3
  have lKm := Km.lt
  have cKm0 := Km.cell 0
  have cKm1 := Km.cell 1
  have cKm2 := Km.cell 2
  have cKm3 := Km.cell 3
  have cKm4 := Km.cell 4
  have cKm5 := Km.cell 5
  have lKd := Kd.lt
  have cKd0 := Kd.cell 0
  have cKd1 := Kd.cell 1
  have cKd2 := Kd.cell 2
  have cKd3 := Kd.cell 3
  have cKd4 := Kd.cell 4
  have cKd5 := Kd.cell 5
  simp only [List.getElem?_toArray, List.getElem?_cons_succ, List.getElem?_cons_zero] at cKi0 cKi1 cKi2 cKi3 cKm0 cKm1 cKm2 cKm3 cKm4 cKm5 cKd0 cKd1 cKd2 cKd3 cKd4 cKd5
  go_wp2_with fail
  refine (HM1.out _).mono ?_
  rintro e_ w6 ⟨rfl, hb6⟩
  replace Ki := (Ki.alloc (.cells #[.int .i64 v0, .int .i64 v1, .int .i64 v2, .int .i64 v3, .int .i64 0, .int .i64 0] 25))
  replace Km := (Km.alloc (.cells #[.int .i64 v0, .int .i64 v1, .int .i64 v2, .int .i64 v3, .int .i64 0, .int .i64 0] 25))
  replace Kd := (Kd.alloc (.cells #[.int .i64 v0, .int .i64 v1, .int .i64 v2, .int .i64 v3, .int .i64 0, .int .i64 0] 25))
  have Kv := (Blk.new w5 25 #[.int .i64 v0, .int .i64 v1, .int .i64 v2, .int .i64 v3, .int .i64 0, .int .i64 0])
  replace Ki := Ki.below hb6 Ki.lt
  replace Km := Km.below hb6 Km.lt
  replace Kd := Kd.below hb6 Kd.lt
  replace Kv := Kv.below hb6 Kv.lt
  replace hbw : Below w.heap.size w w6 := btrans (by (repeat' (first | refine bset ?_ (by first | omega | (simp <;> omega)) _ | refine balloc ?_ _ | refine Below.drew ?_ | refine below_drewN ?_ _ | exact hbw | exact Below.refl _ _))) hb6
  clear hb6 lKi cKi0 cKi1 cKi2 cKi3 lKm cKm0 cKm1 cKm2 cKm3 cKm4 cKm5 lKd cKd0 cKd1 cKd2 cKd3 cKd4 cKd5 Km
  have lKi := Ki.lt
  have cKi0 := Ki.cell 0
  have cKi1 := Ki.cell 1
  have cKi2 := Ki.cell 2
  have cKi3 := Ki.cell 3
  have lKd := Kd.lt
  have cKd0 := Kd.cell 0
  have cKd1 := Kd.cell 1
  have cKd2 := Kd.cell 2
  have cKd3 := Kd.cell 3
  have cKd4 := Kd.cell 4
  have cKd5 := Kd.cell 5
  have lKv := Kv.lt
  have cKv0 := Kv.cell 0
  have cKv1 := Kv.cell 1
  have cKv2 := Kv.cell 2
  have cKv3 := Kv.cell 3
  have cKv4 := Kv.cell 4
  have cKv5 := Kv.cell 5
  simp only [List.getElem?_toArray, List.getElem?_cons_succ, List.getElem?_cons_zero] at cKi0 cKi1 cKi2 cKi3 cKd0 cKd1 cKd2 cKd3 cKd4 cKd5 cKv0 cKv1 cKv2 cKv3 cKv4 cKv5
  go_wp2_with fail
  refine (HM2.out _).mono ?_
  rintro e_ w7 ⟨rfl, hb7⟩
  replace Ki := (Ki.alloc (.cells #[.int .i64 s0, .int .i64 s1, .int .i64 s2, .int .i64 s3, .int .i64 0, .int .i64 0] 25))
  replace Kd := (Kd.alloc (.cells #[.int .i64 s0, .int .i64 s1, .int .i64 s2, .int .i64 s3, .int .i64 0, .int .i64 0] 25))
  replace Kv := (Kv.alloc (.cells #[.int .i64 s0, .int .i64 s1, .int .i64 s2, .int .i64 s3, .int .i64 0, .int .i64 0] 25))
  have Ks := (Blk.new w6 25 #[.int .i64 s0, .int .i64 s1, .int .i64 s2, .int .i64 s3, .int .i64 0, .int .i64 0])
  replace Ki := Ki.below hb7 Ki.lt
  replace Kd := Kd.below hb7 Kd.lt
  replace Kv := Kv.below hb7 Kv.lt
  replace Ks := Ks.below hb7 Ks.lt
  replace hbw : Below w.heap.size w w7 := btrans (by (repeat' (first | refine bset ?_ (by first | omega | (simp <;> omega)) _ | refine balloc ?_ _ | refine Below.drew ?_ | refine below_drewN ?_ _ | exact hbw | exact Below.refl _ _))) hb7
  clear hb7 lKi cKi0 cKi1 cKi2 cKi3 lKd cKd0 cKd1 cKd2 cKd3 cKd4 cKd5 lKv cKv0 cKv1 cKv2 cKv3 cKv4 cKv5 Kv
  have lKi := Ki.lt
  have cKi0 := Ki.cell 0
  have cKi1 := Ki.cell 1
  have cKi2 := Ki.cell 2
  have cKi3 := Ki.cell 3
  have lKd := Kd.lt
  have cKd0 := Kd.cell 0
  have cKd1 := Kd.cell 1
  have cKd2 := Kd.cell 2
  have cKd3 := Kd.cell 3
  have cKd4 := Kd.cell 4
  have cKd5 := Kd.cell 5
  have lKs := Ks.lt
  have cKs0 := Ks.cell 0
  have cKs1 := Ks.cell 1
  have cKs2 := Ks.cell 2
  have cKs3 := Ks.cell 3
  have cKs4 := Ks.cell 4
  have cKs5 := Ks.cell 5
  simp only [List.getElem?_toArray, List.getElem?_cons_succ, List.getElem?_cons_zero] at cKi0 cKi1 cKi2 cKi3 cKd0 cKd1 cKd2 cKd3 cKd4 cKd5 cKs0 cKs1 cKs2 cKs3 cKs4 cKs5
  go_wp2_with fail
  refine (HPx.out _).mono ?_
  rintro e_ w8 ⟨rfl, hsame8⟩
  have hb8 : Below (w7.alloc (.cells #[.int .i64 1048576, .int .i64 0, .int .i64 0, .int .i64 1048576, .int .i64 0, .int .i64 0] 25)).heap.size (w7.alloc (.cells #[.int .i64 1048576, .int .i64 0, .int .i64 0, .int .i64 1048576, .int .i64 0, .int .i64 0] 25)) w8 := by rw [hsame8]; exact Below.refl _ _
  clear hsame8
  replace Ki := (Ki.alloc (.cells #[.int .i64 1048576, .int .i64 0, .int .i64 0, .int .i64 1048576, .int .i64 0, .int .i64 0] 25))
  replace Kd := (Kd.alloc (.cells #[.int .i64 1048576, .int .i64 0, .int .i64 0, .int .i64 1048576, .int .i64 0, .int .i64 0] 25))
  replace Ks := (Ks.alloc (.cells #[.int .i64 1048576, .int .i64 0, .int .i64 0, .int .i64 1048576, .int .i64 0, .int .i64 0] 25))
  have Kb := (Blk.new w7 25 #[.int .i64 1048576, .int .i64 0, .int .i64 0, .int .i64 1048576, .int .i64 0, .int .i64 0])
  replace Ki := Ki.below hb8 Ki.lt
  replace Kd := Kd.below hb8 Kd.lt
  replace Ks := Ks.below hb8 Ks.lt
  replace Kb := Kb.below hb8 Kb.lt
  replace hbw : Below w.heap.size w w8 := btrans (by (repeat' (first | refine bset ?_ (by first | omega | (simp <;> omega)) _ | refine balloc ?_ _ | refine Below.drew ?_ | refine below_drewN ?_ _ | exact hbw | exact Below.refl _ _))) hb8
  clear hb8 lKi cKi0 cKi1 cKi2 cKi3 lKd cKd0 cKd1 cKd2 cKd3 cKd4 cKd5 lKs cKs0 cKs1 cKs2 cKs3 cKs4 cKs5
  have lKi := Ki.lt
  have cKi0 := Ki.cell 0
  have cKi1 := Ki.cell 1
  have cKi2 := Ki.cell 2
  have cKi3 := Ki.cell 3
  have lKd := Kd.lt
  have cKd0 := Kd.cell 0
  have cKd1 := Kd.cell 1
  have cKd2 := Kd.cell 2
  have cKd3 := Kd.cell 3
  have cKd4 := Kd.cell 4
  have cKd5 := Kd.cell 5
  have lKs := Ks.lt
  have cKs0 := Ks.cell 0
  have cKs1 := Ks.cell 1
  have cKs2 := Ks.cell 2
  have cKs3 := Ks.cell 3
  have cKs4 := Ks.cell 4
  have cKs5 := Ks.cell 5
  have lKb := Kb.lt
  have cKb0 := Kb.cell 0
  have cKb1 := Kb.cell 1
  have cKb2 := Kb.cell 2
  have cKb3 := Kb.cell 3
  have cKb4 := Kb.cell 4
  have cKb5 := Kb.cell 5
  simp only [List.getElem?_toArray, List.getElem?_cons_succ, List.getElem?_cons_zero] at cKi0 cKi1 cKi2 cKi3 cKd0 cKd1 cKd2 cKd3 cKd4 cKd5 cKs0 cKs1 cKs2 cKs3 cKs4 cKs5 cKb0 cKb1 cKb2 cKb3 cKb4 cKb5
  go_wp2_with fail
  refine (HPy.out _).mono ?_
  rintro e_ w_ ⟨rfl, rfl⟩
  go_wp2_with fail
  refine (HBk.out _).mono ?_
  rintro e_ w9 ⟨rfl, hb9⟩
  replace Ki := Ki.below hb9 Ki.lt
  replace Kd := Kd.below hb9 Kd.lt
  replace Ks := Ks.below hb9 Ks.lt
  replace Kb := Kb.below hb9 Kb.lt
  replace hbw : Below w.heap.size w w9 := btrans (by (repeat' (first | refine bset ?_ (by first | omega | (simp <;> omega)) _ | refine balloc ?_ _ | refine Below.drew ?_ | refine below_drewN ?_ _ | exact hbw | exact Below.refl _ _))) hb9
  clear hb9 lKi cKi0 cKi1 cKi2 cKi3 lKd cKd0 cKd1 cKd2 cKd3 cKd4 cKd5 lKs cKs0 cKs1 cKs2 cKs3 cKs4 cKs5 lKb cKb0 cKb1 cKb2 cKb3 cKb4 cKb5
  have lKi := Ki.lt
  have cKi0 := Ki.cell 0
  have cKi1 := Ki.cell 1
  have cKi2 := Ki.cell 2
  have cKi3 := Ki.cell 3
  have lKd := Kd.lt
  have cKd0 := Kd.cell 0
  have cKd1 := Kd.cell 1
  have cKd2 := Kd.cell 2
  have cKd3 := Kd.cell 3
  have cKd4 := Kd.cell 4
  have cKd5 := Kd.cell 5
  have lKs := Ks.lt
  have cKs0 := Ks.cell 0
  have cKs1 := Ks.cell 1
  have cKs2 := Ks.cell 2
  have cKs3 := Ks.cell 3
  have cKs4 := Ks.cell 4
  have cKs5 := Ks.cell 5
  have lKb := Kb.lt
  have cKb0 := Kb.cell 0
  have cKb1 := Kb.cell 1
  have cKb2 := Kb.cell 2
  have cKb3 := Kb.cell 3
  have cKb4 := Kb.cell 4
  have cKb5 := Kb.cell 5
  simp only [List.getElem?_toArray, List.getElem?_cons_succ, List.getElem?_cons_zero] at cKi0 cKi1 cKi2 cKi3 cKd0 cKd1 cKd2 cKd3 cKd4 cKd5 cKs0 cKs1 cKs2 cKs3 cKs4 cKs5 cKb0 cKb1 cKb2 cKb3 cKb4 cKb5
  go_wp2_with fail
  refine (HWh.out _).mono ?_
  rintro e_ w10 ⟨rfl, hb10⟩
  replace Ki := Ki.below hb10 Ki.lt
  replace Kd := Kd.below hb10 Kd.lt
  replace Ks := Ks.below hb10 Ks.lt
  replace Kb := Kb.below hb10 Kb.lt
  replace hbw : Below w.heap.size w w10 := btrans (by (repeat' (first | refine bset ?_ (by first | omega | (simp <;> omega)) _ | refine balloc ?_ _ | refine Below.drew ?_ | refine below_drewN ?_ _ | exact hbw | exact Below.refl _ _))) hb10
  clear hb10 lKi cKi0 cKi1 cKi2 cKi3 lKd cKd0 cKd1 cKd2 cKd3 cKd4 cKd5 lKs cKs0 cKs1 cKs2 cKs3 cKs4 cKs5 lKb cKb0 cKb1 cKb2 cKb3 cKb4 cKb5
  have lKi := Ki.lt
  have cKi0 := Ki.cell 0
  have cKi1 := Ki.cell 1
  have cKi2 := Ki.cell 2
  have cKi3 := Ki.cell 3
  have lKd := Kd.lt
  have cKd0 := Kd.cell 0
  have cKd1 := Kd.cell 1
  have cKd2 := Kd.cell 2
  have cKd3 := Kd.cell 3
  have cKd4 := Kd.cell 4
  have cKd5 := Kd.cell 5
  have lKs := Ks.lt
  have cKs0 := Ks.cell 0
  have cKs1 := Ks.cell 1
  have cKs2 := Ks.cell 2
  have cKs3 := Ks.cell 3
  have cKs4 := Ks.cell 4
  have cKs5 := Ks.cell 5
  have lKb := Kb.lt
  have cKb0 := Kb.cell 0
  have cKb1 := Kb.cell 1
  have cKb2 := Kb.cell 2
  have cKb3 := Kb.cell 3
  have cKb4 := Kb.cell 4
  have cKb5 := Kb.cell 5
  simp only [List.getElem?_toArray, List.getElem?_cons_succ, List.getElem?_cons_zero] at cKi0 cKi1 cKi2 cKi3 cKd0 cKd1 cKd2 cKd3 cKd4 cKd5 cKs0 cKs1 cKs2 cKs3 cKs4 cKs5 cKb0 cKb1 cKb2 cKb3 cKb4 cKb5
  go_wp2_with fail
  refine (HPt.out _).mono ?_
  rintro e_ w11 ⟨rfl, hb11⟩
  replace Ki := Ki.below hb11 Ki.lt
  replace Kd := Kd.below hb11 Kd.lt
  replace Ks := Ks.below hb11 Ks.lt
  replace Kb := Kb.below hb11 Kb.lt
  replace hbw : Below w.heap.size w w11 := btrans (by (repeat' (first | refine bset ?_ (by first | omega | (simp <;> omega)) _ | refine balloc ?_ _ | refine Below.drew ?_ | refine below_drewN ?_ _ | exact hbw | exact Below.refl _ _))) hb11
  clear hb11 lKi cKi0 cKi1 cKi2 cKi3 lKd cKd0 cKd1 cKd2 cKd3 cKd4 cKd5 lKs cKs0 cKs1 cKs2 cKs3 cKs4 cKs5 lKb cKb0 cKb1 cKb2 cKb3 cKb4 cKb5
  have lKi := Ki.lt
  have cKi0 := Ki.cell 0
  have cKi1 := Ki.cell 1
  have cKi2 := Ki.cell 2
  have cKi3 := Ki.cell 3
  have lKd := Kd.lt
  have cKd0 := Kd.cell 0
  have cKd1 := Kd.cell 1
  have cKd2 := Kd.cell 2
  have cKd3 := Kd.cell 3
  have cKd4 := Kd.cell 4
  have cKd5 := Kd.cell 5
  have lKs := Ks.lt
  have cKs0 := Ks.cell 0
  have cKs1 := Ks.cell 1
  have cKs2 := Ks.cell 2
  have cKs3 := Ks.cell 3
  have cKs4 := Ks.cell 4
  have cKs5 := Ks.cell 5
  have lKb := Kb.lt
  have cKb0 := Kb.cell 0
  have cKb1 := Kb.cell 1
  have cKb2 := Kb.cell 2
  have cKb3 := Kb.cell 3
  have cKb4 := Kb.cell 4
  have cKb5 := Kb.cell 5
  simp only [List.getElem?_toArray, List.getElem?_cons_succ, List.getElem?_cons_zero] at cKi0 cKi1 cKi2 cKi3 cKd0 cKd1 cKd2 cKd3 cKd4 cKd5 cKs0 cKs1 cKs2 cKs3 cKs4 cKs5 cKb0 cKb1 cKb2 cKb3 cKb4 cKb5
  go_wp2_with fail
  have uKi0 : ∀ u : Up w11, u.val.cell? ⟨w3.heap.size, 0, none⟩ = some (.int .i64 W) := fun u => (u.cell lKi).trans cKi0
  have uKi1 : ∀ u : Up w11, u.val.cell? ⟨w3.heap.size, 1, none⟩ = some (.int .i64 H) := fun u => (u.cell lKi).trans cKi1
  have uKi2 : ∀ u : Up w11, u.val.cell? ⟨w3.heap.size, 2, none⟩ = some (.int .i64 B) := fun u => (u.cell lKi).trans cKi2
  have uKi3 : ∀ u : Up w11, u.val.cell? ⟨w3.heap.size, 3, none⟩ = some (.string s) := fun u => (u.cell lKi).trans cKi3
  have uKd0 : ∀ u : Up w11, u.val.cell? ⟨w4.heap.size, 0, none⟩ = some (.int .i64 1048576) := fun u => (u.cell lKd).trans cKd0
  have uKd1 : ∀ u : Up w11, u.val.cell? ⟨w4.heap.size, 1, none⟩ = some (.int .i64 0) := fun u => (u.cell lKd).trans cKd1
  have uKd2 : ∀ u : Up w11, u.val.cell? ⟨w4.heap.size, 2, none⟩ = some (.int .i64 0) := fun u => (u.cell lKd).trans cKd2
  have uKd3 : ∀ u : Up w11, u.val.cell? ⟨w4.heap.size, 3, none⟩ = some (.int .i64 1048576) := fun u => (u.cell lKd).trans cKd3
  have uKd4 : ∀ u : Up w11, u.val.cell? ⟨w4.heap.size, 4, none⟩ = some (.int .i64 0) := fun u => (u.cell lKd).trans cKd4
  have uKd5 : ∀ u : Up w11, u.val.cell? ⟨w4.heap.size, 5, none⟩ = some (.int .i64 0) := fun u => (u.cell lKd).trans cKd5
  have uKb0 : ∀ u : Up w11, u.val.cell? ⟨w7.heap.size, 0, none⟩ = some (.int .i64 1048576) := fun u => (u.cell lKb).trans cKb0
  have uKb1 : ∀ u : Up w11, u.val.cell? ⟨w7.heap.size, 1, none⟩ = some (.int .i64 0) := fun u => (u.cell lKb).trans cKb1
  have uKb2 : ∀ u : Up w11, u.val.cell? ⟨w7.heap.size, 2, none⟩ = some (.int .i64 0) := fun u => (u.cell lKb).trans cKb2
  have uKb3 : ∀ u : Up w11, u.val.cell? ⟨w7.heap.size, 3, none⟩ = some (.int .i64 1048576) := fun u => (u.cell lKb).trans cKb3
  have uKb4 : ∀ u : Up w11, u.val.cell? ⟨w7.heap.size, 4, none⟩ = some (.int .i64 0) := fun u => (u.cell lKb).trans cKb4
  have uKb5 : ∀ u : Up w11, u.val.cell? ⟨w7.heap.size, 5, none⟩ = some (.int .i64 0) := fun u => (u.cell lKb).trans cKb5
  have HU1 := Lib.hid (fun u : Up w11 => up_of (u := u) (HA1.out u.val))
  refine wp_region_up (by kernel_rfl) (by kernel_rfl) ?_
  repeat (go_big_quiet_step (fail))
  go_big_quiet_step (exact HU1.out _)
  repeat (go_big_quiet_step (fail))
  go_big_quiet_step (exact HU1.out _)
  repeat (go_big_quiet_step (fail))
  refine wpQuiet_nil ?_
  rintro _ ⟨uq, rfl⟩
  replace Ki := Ki.below uq.ok lKi
  replace Kd := Kd.below uq.ok lKd
  replace Ks := Ks.below uq.ok lKs
  replace hbw := btrans hbw uq.ok
  generalize hwx : uq.val = w12 at *
  clear hwx uq Kb lKi cKi0 cKi1 cKi2 cKi3 lKd cKd0 cKd1 cKd2 cKd3 cKd4 cKd5 lKs cKs0 cKs1 cKs2 cKs3 cKs4 cKs5 lKb cKb0 cKb1 cKb2 cKb3 cKb4 cKb5 uKi0 uKi1 uKi2 uKi3 uKd0 uKd1 uKd2 uKd3 uKd4 uKd5 uKb0 uKb1 uKb2 uKb3 uKb4 uKb5 HU1
  have lKi := Ki.lt
  have cKi0 := Ki.cell 0
  have cKi1 := Ki.cell 1
  have cKi2 := Ki.cell 2
  have cKi3 := Ki.cell 3
  have lKd := Kd.lt
  have cKd0 := Kd.cell 0
  have cKd1 := Kd.cell 1
  have cKd2 := Kd.cell 2
  have cKd3 := Kd.cell 3
  have cKd4 := Kd.cell 4
  have cKd5 := Kd.cell 5
  have lKs := Ks.lt
  have cKs0 := Ks.cell 0
  have cKs1 := Ks.cell 1
  have cKs2 := Ks.cell 2
  have cKs3 := Ks.cell 3
  have cKs4 := Ks.cell 4
  have cKs5 := Ks.cell 5
  simp only [List.getElem?_toArray, List.getElem?_cons_succ, List.getElem?_cons_zero] at cKi0 cKi1 cKi2 cKi3 cKd0 cKd1 cKd2 cKd3 cKd4 cKd5 cKs0 cKs1 cKs2 cKs3 cKs4 cKs5
  go_wp2_with fail
  have uKi0 : ∀ u : Up w12, u.val.cell? ⟨w3.heap.size, 0, none⟩ = some (.int .i64 W) := fun u => (u.cell lKi).trans cKi0
  have uKi1 : ∀ u : Up w12, u.val.cell? ⟨w3.heap.size, 1, none⟩ = some (.int .i64 H) := fun u => (u.cell lKi).trans cKi1
  have uKi2 : ∀ u : Up w12, u.val.cell? ⟨w3.heap.size, 2, none⟩ = some (.int .i64 B) := fun u => (u.cell lKi).trans cKi2
  have uKi3 : ∀ u : Up w12, u.val.cell? ⟨w3.heap.size, 3, none⟩ = some (.string s) := fun u => (u.cell lKi).trans cKi3
  have uKd0 : ∀ u : Up w12, u.val.cell? ⟨w4.heap.size, 0, none⟩ = some (.int .i64 1048576) := fun u => (u.cell lKd).trans cKd0
  have uKd1 : ∀ u : Up w12, u.val.cell? ⟨w4.heap.size, 1, none⟩ = some (.int .i64 0) := fun u => (u.cell lKd).trans cKd1
  have uKd2 : ∀ u : Up w12, u.val.cell? ⟨w4.heap.size, 2, none⟩ = some (.int .i64 0) := fun u => (u.cell lKd).trans cKd2
  have uKd3 : ∀ u : Up w12, u.val.cell? ⟨w4.heap.size, 3, none⟩ = some (.int .i64 1048576) := fun u => (u.cell lKd).trans cKd3
  have uKd4 : ∀ u : Up w12, u.val.cell? ⟨w4.heap.size, 4, none⟩ = some (.int .i64 0) := fun u => (u.cell lKd).trans cKd4
  have uKd5 : ∀ u : Up w12, u.val.cell? ⟨w4.heap.size, 5, none⟩ = some (.int .i64 0) := fun u => (u.cell lKd).trans cKd5
  have uKs0 : ∀ u : Up w12, u.val.cell? ⟨w6.heap.size, 0, none⟩ = some (.int .i64 s0) := fun u => (u.cell lKs).trans cKs0
  have uKs1 : ∀ u : Up w12, u.val.cell? ⟨w6.heap.size, 1, none⟩ = some (.int .i64 s1) := fun u => (u.cell lKs).trans cKs1
  have uKs2 : ∀ u : Up w12, u.val.cell? ⟨w6.heap.size, 2, none⟩ = some (.int .i64 s2) := fun u => (u.cell lKs).trans cKs2
  have uKs3 : ∀ u : Up w12, u.val.cell? ⟨w6.heap.size, 3, none⟩ = some (.int .i64 s3) := fun u => (u.cell lKs).trans cKs3
  have uKs4 : ∀ u : Up w12, u.val.cell? ⟨w6.heap.size, 4, none⟩ = some (.int .i64 0) := fun u => (u.cell lKs).trans cKs4
  have uKs5 : ∀ u : Up w12, u.val.cell? ⟨w6.heap.size, 5, none⟩ = some (.int .i64 0) := fun u => (u.cell lKs).trans cKs5
  have HU1 := Lib.hid (fun u : Up w12 => up_of (u := u) (HA2.out u.val))
  have HU2 := Lib.hid (fun u : Up w12 => up_of (u := u) (HA3.out u.val))
  refine wp_region_up (by kernel_rfl) (by kernel_rfl) ?_
  repeat (go_big_quiet_step (fail))
  go_big_quiet_step (exact HU1.out _)
  repeat (go_big_quiet_step (fail))
  go_big_quiet_step (exact HU2.out _)
  repeat (go_big_quiet_step (fail))
  refine wpQuiet_nil ?_
  rintro _ ⟨uq, rfl⟩
  replace hbw := btrans hbw uq.ok
  generalize hwx : uq.val = w13 at *
  clear hwx uq Ki Kd Ks lKi cKi0 cKi1 cKi2 cKi3 lKd cKd0 cKd1 cKd2 cKd3 cKd4 cKd5 lKs cKs0 cKs1 cKs2 cKs3 cKs4 cKs5 uKi0 uKi1 uKi2 uKi3 uKd0 uKd1 uKd2 uKd3 uKd4 uKd5 uKs0 uKs1 uKs2 uKs3 uKs4 uKs5 HU1 HU2
  go_wp2_with fail
  go_ret
  exact ⟨rfl, hbw⟩

theorem unit_fix (A : Option Addr) (n c0 : Nat) (ns : Nat → Int) (w : World) (hI : Ints w A n c0 ns) (hn : n ≤ 9223372036854775807) : ∃ a b c d : Int, (-81 ≤ a ∧ a ≤ 81) ∧ (-81 ≤ b ∧ b ≤ 81) ∧ (-81 ≤ c ∧ c ≤ 81) ∧ (-81 ≤ d ∧ d ≤ 81) ∧ (a * d - b * c = 1 ∨ a * d - b * c = -1) ∧
    ∀ W', Ints W' A n c0 ns → Calls Try.prog 29 #[.slice A n c0] W' fun ed w' => ed = .returned (.agg #[.int .i64 (a * 65536), .int .i64 (b * 65536), .int .i64 (c * 65536), .int .i64 (d * 65536), .int .i64 0, .int .i64 0]) ∧ Below W'.heap.size W' w' := by
  obtain ⟨e, w', f, ⟨a, b, c, d, hu, _, ba, bb, bc, bd, hdet, _⟩, _⟩ := unitV_any A n c0 ns w hI hn []
  refine ⟨a, b, c, d, ba, bb, bc, bd, hdet, fun W' hW => ?_⟩
  refine (unitV_any A n c0 ns W' hW hn).mono ?_
  rintro e2 w2 ⟨a', b', c', d', hu', rfl, _, _, _, _, _, hb⟩
  rw [hu] at hu'
  cases hu'
  exact ⟨rfl, hb⟩
theorem mulb {a b : Int} (ha : -81 ≤ a ∧ a ≤ 81) (hb : -200 ≤ b ∧ b ≤ 200) : -16200 ≤ a * b ∧ a * b ≤ 16200 := by
  have h1 := Int.mul_nonneg (show 0 ≤ 81 - a by omega) (show 0 ≤ 200 - b by omega)
  have h2 := Int.mul_nonneg (show 0 ≤ 81 + a by omega) (show 0 ≤ 200 + b by omega)
  have h3 := Int.mul_nonneg (show 0 ≤ 81 - a by omega) (show 0 ≤ 200 + b by omega)
  have h4 := Int.mul_nonneg (show 0 ≤ 81 + a by omega) (show 0 ≤ 200 - b by omega)
  simp only [Int.sub_mul, Int.mul_sub, Int.add_mul, Int.mul_add] at h1 h2 h3 h4
  omega
theorem lin16 (d u : Int) : 16 * d * 65536 * (u * 65536 - 0) = d * u * 68719476736 := by
  rw [Int.sub_zero, mul16, Int.mul_assoc 16 d u]
  omega
theorem sixteen (v a : Int) : v * (16 * a) = 16 * (v * a) := Int.mul_left_comm v 16 a
theorem det16 {a b c d l : Int} (h : a * d - b * c = l) : 16 * a * 65536 * (16 * d * 65536) - 16 * b * 65536 * (16 * c * 65536) = l * 1099511627776 := by
  rw [det_whole (16 * a) (16 * b) (16 * c) (16 * d) 0 0, Int.mul_assoc 16 a, Int.mul_assoc 16 b, sixteen a d, sixteen b c]
  omega
theorem down16 {X l p : Int} (hl : l = 1 ∨ l = -1) (hp : l * X = p) : downI (X * 68719476736) (l * 1099511627776) = p / 16 := by
  unfold downI
  rcases hl with rfl | rfl
  · rw [if_neg (by omega)]; omega
  · rw [if_pos (by omega), show (-(-1 * 1099511627776) : Int) = 1099511627776 by decide]; omega
theorem back16 {X l p : Int} (hl : l = 1 ∨ l = -1) (hp : l * X = p) (hX : -32400 ≤ X ∧ X ≤ 32400) : mulDiv (X * 68719476736) 65536 (l * 1099511627776) = some (4096 * p) := by
  rcases hl with rfl | rfl <;> exact mulDiv_exact (by omega) (by omega) (by omega) (by omega)

set_option maxHeartbeats 1600000 in
theorem ispins_of (A : Option Addr) (n c : Nat) (ns : Nat → Int) (A2 : Option Addr) (n2 c2 : Nat) (ks : Nat → Int) (bits x y W H B a b c0 d l v0 v1 v2 v3 : Int) (s : ByteArray) (w : World) (hr : Ints w A n c ns) (hr2 : Ints w A2 n2 c2 ks)
    (hmay : mayI W H B s.size = true) (hW9 : W ≤ 9) (hH9 : H ≤ 9)
    (hMd : ∀ W', Ints W' A n c ns → Calls Try.prog 23 #[.slice A n c, .int .i64 bits] W' fun ed w' => ed = .returned (.agg #[.int .i64 W, .int .i64 H, .int .i64 B, .string s]) ∧ Below W'.heap.size W' w')
    (hUn : ∀ W', Ints W' A2 n2 c2 ks → Calls Try.prog 29 #[.slice A2 n2 c2] W' fun ed w' => ed = .returned (.agg #[.int .i64 (a * 65536), .int .i64 (b * 65536), .int .i64 (c0 * 65536), .int .i64 (d * 65536), .int .i64 0, .int .i64 0]) ∧ Below W'.heap.size W' w')
    (hIn : ∀ W', Calls Try.prog 43 #[.agg #[.int .i64 (a * 65536), .int .i64 (b * 65536), .int .i64 (c0 * 65536), .int .i64 (d * 65536), .int .i64 0, .int .i64 0]] W' fun ed w' => ed = .returned (.tuple #[.agg #[.int .i64 (v0 * 65536), .int .i64 (v1 * 65536), .int .i64 (v2 * 65536), .int .i64 (v3 * 65536), .int .i64 0, .int .i64 0], .int .i64 0]) ∧ Below W'.heap.size W' w')
    (ba : -81 ≤ a ∧ a ≤ 81) (bb : -81 ≤ b ∧ b ≤ 81) (bc : -81 ≤ c0 ∧ c0 ≤ 81) (bd : -81 ≤ d ∧ d ≤ 81) (hl : l = 1 ∨ l = -1) (hdet : a * d - b * c0 = l)
    (b0 : -81 ≤ v0 ∧ v0 ≤ 81) (b1 : -81 ≤ v1 ∧ v1 ≤ 81) (b2 : -81 ≤ v2 ∧ v2 ≤ 81) (b3 : -81 ≤ v3 ∧ v3 ≤ 81)
    (e0 : v0 * a + v1 * c0 = 1) (e1 : v0 * b + v1 * d = 0) (e2 : v2 * a + v3 * c0 = 0) (e3 : v2 * b + v3 * d = 1) :
    Calls Try.prog 8 #[.slice A n c, .int .i64 bits, .slice A2 n2 c2, .int .i64 x, .int .i64 y] w fun ed w' => ed = .returned (.bool true) ∧ Below w.heap.size w w' := by
  have hPx := fun W => place_any x 200 W (by decide) (by decide)
  have hPy := fun W => place_any y 200 W (by decide) (by decide)
  have ex : 0 ≤ x % 200 ∧ x % 200 < 200 := by omega
  have ey : 0 ≤ y % 200 ∧ y % 200 < 200 := by omega
  generalize x % 200 = px at *
  generalize y % 200 = py at *
  have hs : (s.size : Int) ≤ 9223372036854775807 := by
    obtain ⟨hB, hW, hH, hsz⟩ := mayI_bd hmay
    have h1 := rowI_bd hW (show 1 ≤ B ∧ B ≤ 8 by omega)
    have h2 := area_bd hH h1.2.2
    omega
  have hWh := fun W' => Whole_any 16 0 0 16 0 0 W' (by decide) (by decide) (by decide) (by decide) (by decide) (by decide)
  have hM1 := fun W' => mul_whole a b c0 d 0 0 16 0 0 16 0 0 (16 * a) (16 * b) (16 * c0) (16 * d) 0 0 W' (by omega) (by omega) (by omega) (by omega) (by omega) (by omega) (by omega) (by omega) (by omega) (by omega) (by omega) (by omega) (by omega) (by omega) (by omega) (by omega) (by omega) (by omega) (by omega) (by omega) (by omega) (by omega) (by omega) (by omega)
  have hM2 := fun W' => mul_whole v0 v1 v2 v3 0 0 (16 * a) (16 * b) (16 * c0) (16 * d) 0 0 16 0 0 16 0 0 W' (by omega) (by omega) (by omega) (by omega) (by omega) (by omega) (by omega) (by omega) (by omega) (by omega) (by omega) (by omega) (by omega) (by omega) (by omega) (by omega) (by omega) (by omega) (by rw [sixteen, sixteen]; omega) (by rw [sixteen, sixteen]; omega) (by rw [sixteen, sixteen]; omega) (by rw [sixteen, sixteen]; omega) (by omega) (by omega)
  have hms : mayB (16 * a * 65536) (16 * b * 65536) (16 * c0 * 65536) (16 * d * 65536) 0 0 = true := mayB_true (by omega) (by omega) (by omega) (by omega) (by omega) (by omega)
  have hmd : mayB 1048576 0 0 1048576 0 0 = true := mayB_true (by omega) (by omega) (by omega) (by omega) (by omega) (by omega)
  have dt := det16 hdet
  have hnz : ¬ 16 * a * 65536 * (16 * d * 65536) - 16 * b * 65536 * (16 * c0 * 65536) = 0 := by rw [dt]; omega
  have hu : -200 ≤ px - 30 ∧ px - 30 ≤ 200 := by omega
  have hv : -200 ≤ py - 30 ∧ py - 30 ≤ 200 := by omega
  have hux : -8191 ≤ px - 30 ∧ px - 30 ≤ 8191 := by omega
  have hvx : -8191 ≤ py - 30 ∧ py - 30 ≤ 8191 := by omega
  obtain ⟨X, hX⟩ : ∃ X, d * (px - 30) - c0 * (py - 30) = X := ⟨_, rfl⟩
  obtain ⟨Y, hY⟩ : ∃ Y, a * (py - 30) - b * (px - 30) = Y := ⟨_, rfl⟩
  have bX : -32400 ≤ X ∧ X ≤ 32400 := by have := mulb bd hu; have := mulb bc hv; omega
  have bY : -32400 ≤ Y ∧ Y ≤ 32400 := by have := mulb ba hv; have := mulb bb hu; omega
  have hX2 : 16 * d * 65536 * ((px - 30) * 65536 - 0) - 16 * c0 * 65536 * ((py - 30) * 65536 - 0) = X * 68719476736 := by rw [lin16, lin16]; omega
  have hY2 : 16 * a * 65536 * ((py - 30) * 65536 - 0) - 16 * b * 65536 * ((px - 30) * 65536 - 0) = Y * 68719476736 := by rw [lin16, lin16]; omega
  obtain ⟨p, hp⟩ : ∃ p, l * X = p := ⟨_, rfl⟩
  obtain ⟨q, hq⟩ : ∃ q, l * Y = q := ⟨_, rfl⟩
  have bp : -32400 ≤ p ∧ p ≤ 32400 := by rcases hl with rfl | rfl <;> omega
  have bq : -32400 ≤ q ∧ q ≤ 32400 := by rcases hl with rfl | rfl <;> omega
  have hBk := fun W' => Back_yes (16 * a * 65536) (16 * b * 65536) (16 * c0 * 65536) (16 * d * 65536) 0 0 (px - 30) (py - 30) (4096 * p) (4096 * q) W' hms (nearB_true (by omega) (by omega)) hnz (by rw [hX2, dt]; exact back16 hl hp bX) (by rw [hY2, dt]; exact back16 hl hq bY)
  rw [nearB_true (show -1073741823 ≤ 4096 * p ∧ 4096 * p ≤ 1073741823 by omega) (show -1073741823 ≤ 4096 * q ∧ 4096 * q ≤ 1073741823 by omega)] at hBk
  have hPt := fun W' => Point_yes 1048576 0 0 1048576 0 0 (4096 * p) (4096 * q) W' (goodB_true hmd (by omega) (by omega))
  have hxp : xPoint 1048576 0 0 1048576 0 0 (4096 * p) (4096 * q) = p := by
    unfold xPoint
    rw [show 1048576 * (4096 * p) + 0 * (4096 * q) + 0 * 65536 = p * 4294967296 by omega]
    exact even32_exact _
  have hyp : yPoint 1048576 0 0 1048576 0 0 (4096 * p) (4096 * q) = q := by
    unfold yPoint
    rw [show 0 * (4096 * p) + 1048576 * (4096 * q) + 0 * 65536 = q * 4294967296 by omega]
    exact even32_exact _
  have hbp : bPoint 1048576 0 0 1048576 0 0 (4096 * p) (4096 * q) = nearB p q 8191 := by unfold bPoint; rw [hxp, hyp]
  rw [hbp, hxp, hyp] at hPt
  have hA1 := fun W' => At_any W H B 1048576 0 0 1048576 0 0 (px - 30) (py - 30) s W' hs
  have hA2 := fun W' => At_any W H B (16 * a * 65536) (16 * b * 65536) (16 * c0 * 65536) (16 * d * 65536) 0 0 (px - 30) (py - 30) s W' hs
  rw [at_eq hmay hms hnz hux hvx, hX2, hY2, dt, down16 hl hp, down16 hl hq] at hA2
  cases hnr : nearB p q 8191 with
  | false =>
    rw [hnr] at hPt
    rw [sampV_out (by omega) (by omega) (by unfold nearB at hnr; simp at hnr; omega)] at hA2
    exact ispins_err A n c ns A2 n2 c2 ks bits x y px py W H B _ _ _ _ _ _ _ _ _ _ _ _ _ _ 0 0 _ 0 s w hr hr2 (Lib.hid hMd) (Lib.hid hUn) (Lib.hid hWh) (Lib.hid hIn) (Lib.hid hM1) (Lib.hid hM2) (Lib.hid hPx) (Lib.hid hPy) ex.1 ex.2 ey.1 ey.2 (Lib.hid hBk) (Lib.hid hPt) (Lib.hid hA1) (Lib.hid hA2)
  | true =>
    rw [hnr] at hPt
    obtain ⟨np, nq⟩ := nearB_bd hnr
    have hA3 := fun W' => At_any W H B 1048576 0 0 1048576 0 0 p q s W' hs
    rw [at_eq hmay hmd (by omega) np nq, show (1048576 : Int) * (p * 65536 - 0) - 0 * (q * 65536 - 0) = p * 68719476736 by omega, show (1048576 : Int) * (q * 65536 - 0) - 0 * (p * 65536 - 0) = q * 68719476736 by omega, show (1048576 : Int) * 1048576 - 0 * 0 = 1 * 1099511627776 by omega, down16 (.inl rfl) (Int.one_mul p), down16 (.inl rfl) (Int.one_mul q)] at hA3
    exact ispins_ok A n c ns A2 n2 c2 ks bits x y px py W H B _ _ _ _ _ _ _ _ _ _ _ _ _ _ p q _ _ s w hr hr2 (Lib.hid hMd) (Lib.hid hUn) (Lib.hid hWh) (Lib.hid hIn) (Lib.hid hM1) (Lib.hid hM2) (Lib.hid hPx) (Lib.hid hPy) ex.1 ex.2 ey.1 ey.2 (Lib.hid hBk) (Lib.hid hPt) (Lib.hid hA1) (Lib.hid hA2) (Lib.hid hA3)
theorem ispins_law (A : Option Addr) (n c : Nat) (ns : Nat → Int) (bits : Int) (A2 : Option Addr) (n2 c2 : Nat) (ks : Nat → Int) (x y : Int) (w : World) (hr : Ints w A n c ns) (hn : n ≤ 9223372036854775807) (_h1 : -9223372036854775808 ≤ bits ∧ bits ≤ 9223372036854775807) (hr2 : Ints w A2 n2 c2 ks) (hn2 : n2 ≤ 9223372036854775807) (_h2 : -9223372036854775808 ≤ x ∧ x ≤ 9223372036854775807) (_h3 : -9223372036854775808 ≤ y ∧ y ≤ 9223372036854775807) :
    Calls Try.prog 8 #[.slice A n c, .int .i64 bits, .slice A2 n2 c2, .int .i64 x, .int .i64 y] w fun ed w' => ed = .returned (.bool true) ∧ Below w.heap.size w w' := by
  obtain ⟨W, H, B, s, hmay, hW9, hH9, hMd⟩ := made_any A n c ns bits hn
  obtain ⟨a, b, c0, d, ba, bb, bc, bd, hdet, hUn⟩ := unit_fix A2 n2 c2 ks w hr2 hn2
  have k1 := Int.mul_comm a d
  have k2 := Int.mul_comm b c0
  have k3 := Int.mul_comm a b
  have k4 := Int.mul_comm c0 d
  rcases hdet with h | h
  · have hIn := fun W' => inv_plus a b c0 d 0 0 (-b) (-c0) 0 0 W' (by omega) (by omega) (by omega) (by omega) (by omega) (by omega) (by omega) (by omega) h rfl rfl (by omega) (by omega)
    exact ispins_of A n c ns A2 n2 c2 ks bits x y W H B a b c0 d 1 d (-b) (-c0) a s w hr hr2 hmay hW9 hH9 hMd hUn hIn ba bb bc bd (.inl rfl) h bd (by omega) (by omega) ba (by rw [Int.neg_mul]; omega) (by rw [Int.neg_mul, Int.mul_comm d b]; omega) (by rw [Int.neg_mul, Int.mul_comm c0 a]; omega) (by rw [Int.neg_mul]; omega)
  · have hIn := fun W' => inv_minus a b c0 d 0 0 (-d) (-a) 0 0 W' (by omega) (by omega) (by omega) (by omega) (by omega) (by omega) (by omega) (by omega) h rfl rfl (by omega) (by omega)
    exact ispins_of A n c ns A2 n2 c2 ks bits x y W H B a b c0 d (-1) (-d) b c0 (-a) s w hr hr2 hmay hW9 hH9 hMd hUn hIn ba bb bc bd (.inr rfl) h (by omega) bb bc (by omega) (by rw [Int.neg_mul]; omega) (by rw [Int.neg_mul, Int.mul_comm d b]; omega) (by rw [Int.neg_mul, Int.mul_comm c0 a]; omega) (by rw [Int.neg_mul]; omega)

end Go.Proofs.Ytegpjjkbbdfggaa.im
