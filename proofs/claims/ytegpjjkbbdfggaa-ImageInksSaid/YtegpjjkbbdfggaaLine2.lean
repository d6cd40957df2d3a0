/-
  Layer 37: Line.
-/
import Derived.Test.YtegpjjkbbdfggaaLine
namespace Go.Proofs.Ytegpjjkbbdfggaa.im
set_option linter.unusedVariables false
set_option linter.unusedSimpArgs false
open Go.RowKit bs mt

theorem lineL_rest {W H B : Int} {s : ByteArray} {a b c d e f y : Int} (n : Nat) (h : ∀ x, AtV W H B s a b c d e f x y = -1) : lineL W H B s a b c d e f y n = List.replicate n (-1) := by
  unfold lineL
  apply List.ext_getElem
  · simp
  · intro i h1 h2
    simp [h]
def wayX (c d e f y : Int) (k : Nat) : Int := d * ((16 * (k : Int) + 8) * 65536 - e) - c * (y * 65536 - f)
def wayZ (a b e f y : Int) (k : Nat) : Int := a * (y * 65536 - f) - b * ((16 * (k : Int) + 8) * 65536 - e)
theorem way_step (d e : Int) (k : Nat) : d * ((16 * ((k + 1 : Nat) : Int) + 8) * 65536 - e) = d * ((16 * (k : Int) + 8) * 65536 - e) + d * 1048576 := by
  rw [show (16 * ((k + 1 : Nat) : Int) + 8) * 65536 - e = ((16 * (k : Int) + 8) * 65536 - e) + 1048576 by omega, Int.mul_add]
theorem AtV_way {W H B : Int} {s : ByteArray} {a b c d e f t y : Int} (hi : mayI W H B s.size = true) (hm : mayB a b c d e f = true) (ht : a * d - b * c = t) (h0 : ¬ t = 0) (hy : -8191 ≤ y ∧ y ≤ 8191) (k : Nat) (hk : k ≤ 64) :
    AtV W H B s a b c d e f (16 * (k : Int) + 8) y = sampV W H B s (downI (wayX c d e f y k) t) (downI (wayZ a b e f y k) t) := by
  unfold AtV atV
  rw [hi, hm, if_pos (show (true && true) = true from rfl), ht, if_neg]
  · rfl
  · rintro (h | h)
    · exact h0 h
    · unfold coordB at h
      simp at h
      omega

set_option maxRecDepth 100000 in
set_option maxHeartbeats 1600000 in
theorem Line_no (W H B a b c d e f t y : Int) (n : Nat) (s : ByteArray) (w : World) (hn : n ≤ 64) 
    (HL : Hid (∀ W', Calls Try.prog 58 #[.agg #[.int .i64 W, .int .i64 H, .int .i64 B, .string s], .agg #[.int .i64 a, .int .i64 b, .int .i64 c, .int .i64 d, .int .i64 e, .int .i64 f]] W' fun ed w' => ed = .returned (.tuple #[.agg #[.int .i64 0, .int .i64 0, .int .i64 0, .string ⟨#[]⟩, .int .i64 0, .int .i64 0, .int .i64 0, .int .i64 0, .int .i64 0, .int .i64 0, .int .i64 0], .bool false]) ∧ Below W'.heap.size W' w')) : Calls Try.prog 21 #[.agg #[.int .i64 W, .int .i64 H, .int .i64 B, .string s], .agg #[.int .i64 a, .int .i64 b, .int .i64 c, .int .i64 d, .int .i64 e, .int .i64 f], .int .i64 y, .int .i64 (n : Int)] w fun ed w' => ∃ v, ed = .returned v ∧ IntsV w' v (List.replicate n (-1)) ∧ Below w.heap.size w w' := by
  have HR := Lib.hid (fun W' => rest_any n W' hn)
  go_enter Try.func21, Try.ntmps21
  have g1 : decide ((n : Int) < 0) = false := by simp
  have g2 : decide (64 < (n : Int)) = false := by simp; omega
  go_wp2_with fail
  refine (HL.out _).mono ?_
  rintro e_ w1 ⟨rfl, hb1⟩
  have Ki := ((Blk.new w 23 #[.int .i64 W, .int .i64 H, .int .i64 B, .string s]).alloc (.cells #[.int .i64 a, .int .i64 b, .int .i64 c, .int .i64 d, .int .i64 e, .int .i64 f] 25))
  have Km := (Blk.new (w.alloc (.cells #[.int .i64 W, .int .i64 H, .int .i64 B, .string s] 23)) 25 #[.int .i64 a, .int .i64 b, .int .i64 c, .int .i64 d, .int .i64 e, .int .i64 f])
  have hz_Km : (w.alloc (.cells #[.int .i64 W, .int .i64 H, .int .i64 B, .string s] 23)).heap.size = w.heap.size + 1 := by simp
  rw [hz_Km] at Km
  clear hz_Km
  replace Ki := Ki.below hb1 Ki.lt
  replace Km := Km.below hb1 Km.lt
  have hbw : Below w.heap.size w w1 := btrans (by (repeat' (first | exact Below.refl _ _ | exact Below.refl _ _ | refine balloc ?_ _ | refine Below.drew ?_ | refine below_drewN ?_ _ | refine bset ?_ (by first | omega | (simp <;> omega)) _))) hb1
  clear hb1 
  have lKi := Ki.lt
  have cKi0 := Ki.cell 0
  have cKi1 := Ki.cell 1
  have cKi2 := Ki.cell 2
  have cKi3 := Ki.cell 3
  have lKm := Km.lt
  have cKm0 := Km.cell 0
  have cKm1 := Km.cell 1
  have cKm2 := Km.cell 2
  have cKm3 := Km.cell 3
  have cKm4 := Km.cell 4
  have cKm5 := Km.cell 5
  simp only [List.getElem?_toArray, List.getElem?_cons_succ, List.getElem?_cons_zero] at cKi0 cKi1 cKi2 cKi3 cKm0 cKm1 cKm2 cKm3 cKm4 cKm5
  clear g1 g2
  skip
  go_wp2_with fail
  replace Ki := (Ki.alloc (.cells #[.int .i64 0, .int .i64 0, .int .i64 0, .string ⟨#[]⟩, .int .i64 0, .int .i64 0, .int .i64 0, .int .i64 0, .int .i64 0, .int .i64 0, .int .i64 0] 92))
  replace Km := (Km.alloc (.cells #[.int .i64 0, .int .i64 0, .int .i64 0, .string ⟨#[]⟩, .int .i64 0, .int .i64 0, .int .i64 0, .int .i64 0, .int .i64 0, .int .i64 0, .int .i64 0] 92))
  have Kv := (Blk.new w1 92 #[.int .i64 0, .int .i64 0, .int .i64 0, .string ⟨#[]⟩, .int .i64 0, .int .i64 0, .int .i64 0, .int .i64 0, .int .i64 0, .int .i64 0, .int .i64 0])
  replace hbw : Below w.heap.size w (w1.alloc (.cells #[.int .i64 0, .int .i64 0, .int .i64 0, .string ⟨#[]⟩, .int .i64 0, .int .i64 0, .int .i64 0, .int .i64 0, .int .i64 0, .int .i64 0, .int .i64 0] 92)) := by (repeat' (first | refine bset ?_ (by first | omega | (simp <;> omega)) _ | refine balloc ?_ _ | refine Below.drew ?_ | refine below_drewN ?_ _ | exact hbw | exact Below.refl _ _))
  clear lKi cKi0 cKi1 cKi2 cKi3 lKm cKm0 cKm1 cKm2 cKm3 cKm4 cKm5
  generalize hwx : (w1.alloc (.cells #[.int .i64 0, .int .i64 0, .int .i64 0, .string ⟨#[]⟩, .int .i64 0, .int .i64 0, .int .i64 0, .int .i64 0, .int .i64 0, .int .i64 0, .int .i64 0] 92)) = wa at *
  clear hwx
  clear Ki Km
  have lKv := Kv.lt
  have cKv0 := Kv.cell 0
  have cKv1 := Kv.cell 1
  have cKv2 := Kv.cell 2
  have cKv3 := Kv.cell 3
  have cKv4 := Kv.cell 4
  have cKv5 := Kv.cell 5
  have cKv6 := Kv.cell 6
  have cKv7 := Kv.cell 7
  have cKv8 := Kv.cell 8
  have cKv9 := Kv.cell 9
  have cKv10 := Kv.cell 10
  simp only [List.getElem?_toArray, List.getElem?_cons_succ, List.getElem?_cons_zero] at cKv0 cKv1 cKv2 cKv3 cKv4 cKv5 cKv6 cKv7 cKv8 cKv9 cKv10
  refine (HR.out _).mono ?_
  rintro e_ wq ⟨vv, rfl, hv, hbq⟩
  have HV := Lib.hid hv
  replace hbw := btrans hbw hbq
  clear hv hbq
  go_wp2_with fail
  go_ret
  exact ⟨_, rfl, HV.out, hbw⟩

set_option maxRecDepth 100000 in
set_option maxHeartbeats 1600000 in
theorem Line_det (W H B a b c d e f t y : Int) (n : Nat) (s : ByteArray) (w : World) (hn : n ≤ 64) 
    (HL : Hid (∀ W', Calls Try.prog 58 #[.agg #[.int .i64 W, .int .i64 H, .int .i64 B, .string s], .agg #[.int .i64 a, .int .i64 b, .int .i64 c, .int .i64 d, .int .i64 e, .int .i64 f]] W' fun ed w' => ed = .returned (.tuple #[.agg #[.int .i64 W, .int .i64 H, .int .i64 B, .string s, .int .i64 a, .int .i64 b, .int .i64 c, .int .i64 d, .int .i64 e, .int .i64 f, .int .i64 0], .bool true]) ∧ Below W'.heap.size W' w')) : Calls Try.prog 21 #[.agg #[.int .i64 W, .int .i64 H, .int .i64 B, .string s], .agg #[.int .i64 a, .int .i64 b, .int .i64 c, .int .i64 d, .int .i64 e, .int .i64 f], .int .i64 y, .int .i64 (n : Int)] w fun ed w' => ∃ v, ed = .returned v ∧ IntsV w' v (List.replicate n (-1)) ∧ Below w.heap.size w w' := by
  have HR := Lib.hid (fun W' => rest_any n W' hn)
  go_enter Try.func21, Try.ntmps21
  have g1 : decide ((n : Int) < 0) = false := by simp
  have g2 : decide (64 < (n : Int)) = false := by simp; omega
  go_wp2_with fail
  refine (HL.out _).mono ?_
  rintro e_ w1 ⟨rfl, hb1⟩
  have Ki := ((Blk.new w 23 #[.int .i64 W, .int .i64 H, .int .i64 B, .string s]).alloc (.cells #[.int .i64 a, .int .i64 b, .int .i64 c, .int .i64 d, .int .i64 e, .int .i64 f] 25))
  have Km := (Blk.new (w.alloc (.cells #[.int .i64 W, .int .i64 H, .int .i64 B, .string s] 23)) 25 #[.int .i64 a, .int .i64 b, .int .i64 c, .int .i64 d, .int .i64 e, .int .i64 f])
  have hz_Km : (w.alloc (.cells #[.int .i64 W, .int .i64 H, .int .i64 B, .string s] 23)).heap.size = w.heap.size + 1 := by simp
  rw [hz_Km] at Km
  clear hz_Km
  replace Ki := Ki.below hb1 Ki.lt
  replace Km := Km.below hb1 Km.lt
  have hbw : Below w.heap.size w w1 := btrans (by (repeat' (first | exact Below.refl _ _ | exact Below.refl _ _ | refine balloc ?_ _ | refine Below.drew ?_ | refine below_drewN ?_ _ | refine bset ?_ (by first | omega | (simp <;> omega)) _))) hb1
  clear hb1 
  have lKi := Ki.lt
  have cKi0 := Ki.cell 0
  have cKi1 := Ki.cell 1
  have cKi2 := Ki.cell 2
  have cKi3 := Ki.cell 3
  have lKm := Km.lt
  have cKm0 := Km.cell 0
  have cKm1 := Km.cell 1
  have cKm2 := Km.cell 2
  have cKm3 := Km.cell 3
  have cKm4 := Km.cell 4
  have cKm5 := Km.cell 5
  simp only [List.getElem?_toArray, List.getElem?_cons_succ, List.getElem?_cons_zero] at cKi0 cKi1 cKi2 cKi3 cKm0 cKm1 cKm2 cKm3 cKm4 cKm5
  clear g1 g2
  skip
  go_wp2_with fail
  replace Ki := (Ki.alloc (.cells #[.int .i64 W, .int .i64 H, .int .i64 B, .string s, .int .i64 a, .int .i64 b, .int .i64 c, .int .i64 d, .int .i64 e, .int .i64 f, .int .i64 0] 92))
  replace Km := (Km.alloc (.cells #[.int .i64 W, .int .i64 H, .int .i64 B, .string s, .int .i64 a, .int .i64 b, .int .i64 c, .int .i64 d, .int .i64 e, .int .i64 f, .int .i64 0] 92))
  have Kv := (Blk.new w1 92 #[.int .i64 W, .int .i64 H, .int .i64 B, .string s, .int .i64 a, .int .i64 b, .int .i64 c, .int .i64 d, .int .i64 e, .int .i64 f, .int .i64 0])
  replace hbw : Below w.heap.size w (w1.alloc (.cells #[.int .i64 W, .int .i64 H, .int .i64 B, .string s, .int .i64 a, .int .i64 b, .int .i64 c, .int .i64 d, .int .i64 e, .int .i64 f, .int .i64 0] 92)) := by (repeat' (first | refine bset ?_ (by first | omega | (simp <;> omega)) _ | refine balloc ?_ _ | refine Below.drew ?_ | refine below_drewN ?_ _ | exact hbw | exact Below.refl _ _))
  clear lKi cKi0 cKi1 cKi2 cKi3 lKm cKm0 cKm1 cKm2 cKm3 cKm4 cKm5
  generalize hwx : (w1.alloc (.cells #[.int .i64 W, .int .i64 H, .int .i64 B, .string s, .int .i64 a, .int .i64 b, .int .i64 c, .int .i64 d, .int .i64 e, .int .i64 f, .int .i64 0] 92)) = wa at *
  clear hwx
  clear Ki Km
  have lKv := Kv.lt
  have cKv0 := Kv.cell 0
  have cKv1 := Kv.cell 1
  have cKv2 := Kv.cell 2
  have cKv3 := Kv.cell 3
  have cKv4 := Kv.cell 4
  have cKv5 := Kv.cell 5
  have cKv6 := Kv.cell 6
  have cKv7 := Kv.cell 7
  have cKv8 := Kv.cell 8
  have cKv9 := Kv.cell 9
  have cKv10 := Kv.cell 10
  simp only [List.getElem?_toArray, List.getElem?_cons_succ, List.getElem?_cons_zero] at cKv0 cKv1 cKv2 cKv3 cKv4 cKv5 cKv6 cKv7 cKv8 cKv9 cKv10
  refine (HR.out _).mono ?_
  rintro e_ wq ⟨vv, rfl, hv, hbq⟩
  have HV := Lib.hid hv
  replace hbw := btrans hbw hbq
  clear hv hbq
  go_wp2_with fail
  go_ret
  exact ⟨_, rfl, HV.out, hbw⟩

set_option maxRecDepth 100000 in
set_option maxHeartbeats 1600000 in
theorem Line_low (W H B a b c d e f t y : Int) (n : Nat) (s : ByteArray) (w : World) (hn : n ≤ 64) (h0 : ¬ t = 0) (hy : y < -8191)
    (HL : Hid (∀ W', Calls Try.prog 58 #[.agg #[.int .i64 W, .int .i64 H, .int .i64 B, .string s], .agg #[.int .i64 a, .int .i64 b, .int .i64 c, .int .i64 d, .int .i64 e, .int .i64 f]] W' fun ed w' => ed = .returned (.tuple #[.agg #[.int .i64 W, .int .i64 H, .int .i64 B, .string s, .int .i64 a, .int .i64 b, .int .i64 c, .int .i64 d, .int .i64 e, .int .i64 f, .int .i64 t], .bool true]) ∧ Below W'.heap.size W' w')) : Calls Try.prog 21 #[.agg #[.int .i64 W, .int .i64 H, .int .i64 B, .string s], .agg #[.int .i64 a, .int .i64 b, .int .i64 c, .int .i64 d, .int .i64 e, .int .i64 f], .int .i64 y, .int .i64 (n : Int)] w fun ed w' => ∃ v, ed = .returned v ∧ IntsV w' v (List.replicate n (-1)) ∧ Below w.heap.size w w' := by
  have HR := Lib.hid (fun W' => rest_any n W' hn)
  go_enter Try.func21, Try.ntmps21
  have g1 : decide ((n : Int) < 0) = false := by simp
  have g2 : decide (64 < (n : Int)) = false := by simp; omega
  go_wp2_with fail
  refine (HL.out _).mono ?_
  rintro e_ w1 ⟨rfl, hb1⟩
  have Ki := ((Blk.new w 23 #[.int .i64 W, .int .i64 H, .int .i64 B, .string s]).alloc (.cells #[.int .i64 a, .int .i64 b, .int .i64 c, .int .i64 d, .int .i64 e, .int .i64 f] 25))
  have Km := (Blk.new (w.alloc (.cells #[.int .i64 W, .int .i64 H, .int .i64 B, .string s] 23)) 25 #[.int .i64 a, .int .i64 b, .int .i64 c, .int .i64 d, .int .i64 e, .int .i64 f])
  have hz_Km : (w.alloc (.cells #[.int .i64 W, .int .i64 H, .int .i64 B, .string s] 23)).heap.size = w.heap.size + 1 := by simp
  rw [hz_Km] at Km
  clear hz_Km
  replace Ki := Ki.below hb1 Ki.lt
  replace Km := Km.below hb1 Km.lt
  have hbw : Below w.heap.size w w1 := btrans (by (repeat' (first | exact Below.refl _ _ | exact Below.refl _ _ | refine balloc ?_ _ | refine Below.drew ?_ | refine below_drewN ?_ _ | refine bset ?_ (by first | omega | (simp <;> omega)) _))) hb1
  clear hb1 
  have lKi := Ki.lt
  have cKi0 := Ki.cell 0
  have cKi1 := Ki.cell 1
  have cKi2 := Ki.cell 2
  have cKi3 := Ki.cell 3
  have lKm := Km.lt
  have cKm0 := Km.cell 0
  have cKm1 := Km.cell 1
  have cKm2 := Km.cell 2
  have cKm3 := Km.cell 3
  have cKm4 := Km.cell 4
  have cKm5 := Km.cell 5
  simp only [List.getElem?_toArray, List.getElem?_cons_succ, List.getElem?_cons_zero] at cKi0 cKi1 cKi2 cKi3 cKm0 cKm1 cKm2 cKm3 cKm4 cKm5
  clear g1 g2
  have z0 : (t == 0) = false := by simp; exact h0
  have z1 : decide (y < -8191) = true := by simp; exact hy
  go_wp2_with fail
  replace Ki := (Ki.alloc (.cells #[.int .i64 W, .int .i64 H, .int .i64 B, .string s, .int .i64 a, .int .i64 b, .int .i64 c, .int .i64 d, .int .i64 e, .int .i64 f, .int .i64 t] 92))
  replace Km := (Km.alloc (.cells #[.int .i64 W, .int .i64 H, .int .i64 B, .string s, .int .i64 a, .int .i64 b, .int .i64 c, .int .i64 d, .int .i64 e, .int .i64 f, .int .i64 t] 92))
  have Kv := (Blk.new w1 92 #[.int .i64 W, .int .i64 H, .int .i64 B, .string s, .int .i64 a, .int .i64 b, .int .i64 c, .int .i64 d, .int .i64 e, .int .i64 f, .int .i64 t])
  replace hbw : Below w.heap.size w (w1.alloc (.cells #[.int .i64 W, .int .i64 H, .int .i64 B, .string s, .int .i64 a, .int .i64 b, .int .i64 c, .int .i64 d, .int .i64 e, .int .i64 f, .int .i64 t] 92)) := by (repeat' (first | refine bset ?_ (by first | omega | (simp <;> omega)) _ | refine balloc ?_ _ | refine Below.drew ?_ | refine below_drewN ?_ _ | exact hbw | exact Below.refl _ _))
  clear lKi cKi0 cKi1 cKi2 cKi3 lKm cKm0 cKm1 cKm2 cKm3 cKm4 cKm5
  generalize hwx : (w1.alloc (.cells #[.int .i64 W, .int .i64 H, .int .i64 B, .string s, .int .i64 a, .int .i64 b, .int .i64 c, .int .i64 d, .int .i64 e, .int .i64 f, .int .i64 t] 92)) = wa at *
  clear hwx
  clear Ki Km
  have lKv := Kv.lt
  have cKv0 := Kv.cell 0
  have cKv1 := Kv.cell 1
  have cKv2 := Kv.cell 2
  have cKv3 := Kv.cell 3
  have cKv4 := Kv.cell 4
  have cKv5 := Kv.cell 5
  have cKv6 := Kv.cell 6
  have cKv7 := Kv.cell 7
  have cKv8 := Kv.cell 8
  have cKv9 := Kv.cell 9
  have cKv10 := Kv.cell 10
  simp only [List.getElem?_toArray, List.getElem?_cons_succ, List.getElem?_cons_zero] at cKv0 cKv1 cKv2 cKv3 cKv4 cKv5 cKv6 cKv7 cKv8 cKv9 cKv10
  refine (HR.out _).mono ?_
  rintro e_ wq ⟨vv, rfl, hv, hbq⟩
  have HV := Lib.hid hv
  replace hbw := btrans hbw hbq
  clear hv hbq
  go_wp2_with fail
  go_ret
  exact ⟨_, rfl, HV.out, hbw⟩

set_option maxRecDepth 100000 in
set_option maxHeartbeats 1600000 in
theorem Line_high (W H B a b c d e f t y : Int) (n : Nat) (s : ByteArray) (w : World) (hn : n ≤ 64) (h0 : ¬ t = 0) (hy : 8191 < y)
    (HL : Hid (∀ W', Calls Try.prog 58 #[.agg #[.int .i64 W, .int .i64 H, .int .i64 B, .string s], .agg #[.int .i64 a, .int .i64 b, .int .i64 c, .int .i64 d, .int .i64 e, .int .i64 f]] W' fun ed w' => ed = .returned (.tuple #[.agg #[.int .i64 W, .int .i64 H, .int .i64 B, .string s, .int .i64 a, .int .i64 b, .int .i64 c, .int .i64 d, .int .i64 e, .int .i64 f, .int .i64 t], .bool true]) ∧ Below W'.heap.size W' w')) : Calls Try.prog 21 #[.agg #[.int .i64 W, .int .i64 H, .int .i64 B, .string s], .agg #[.int .i64 a, .int .i64 b, .int .i64 c, .int .i64 d, .int .i64 e, .int .i64 f], .int .i64 y, .int .i64 (n : Int)] w fun ed w' => ∃ v, ed = .returned v ∧ IntsV w' v (List.replicate n (-1)) ∧ Below w.heap.size w w' := by
  have HR := Lib.hid (fun W' => rest_any n W' hn)
  go_enter Try.func21, Try.ntmps21
  have g1 : decide ((n : Int) < 0) = false := by simp
  have g2 : decide (64 < (n : Int)) = false := by simp; omega
  go_wp2_with fail
  refine (HL.out _).mono ?_
  rintro e_ w1 ⟨rfl, hb1⟩
  have Ki := ((Blk.new w 23 #[.int .i64 W, .int .i64 H, .int .i64 B, .string s]).alloc (.cells #[.int .i64 a, .int .i64 b, .int .i64 c, .int .i64 d, .int .i64 e, .int .i64 f] 25))
  have Km := (Blk.new (w.alloc (.cells #[.int .i64 W, .int .i64 H, .int .i64 B, .string s] 23)) 25 #[.int .i64 a, .int .i64 b, .int .i64 c, .int .i64 d, .int .i64 e, .int .i64 f])
  have hz_Km : (w.alloc (.cells #[.int .i64 W, .int .i64 H, .int .i64 B, .string s] 23)).heap.size = w.heap.size + 1 := by simp
  rw [hz_Km] at Km
  clear hz_Km
  replace Ki := Ki.below hb1 Ki.lt
  replace Km := Km.below hb1 Km.lt
  have hbw : Below w.heap.size w w1 := btrans (by (repeat' (first | exact Below.refl _ _ | exact Below.refl _ _ | refine balloc ?_ _ | refine Below.drew ?_ | refine below_drewN ?_ _ | refine bset ?_ (by first | omega | (simp <;> omega)) _))) hb1
  clear hb1 
  have lKi := Ki.lt
  have cKi0 := Ki.cell 0
  have cKi1 := Ki.cell 1
  have cKi2 := Ki.cell 2
  have cKi3 := Ki.cell 3
  have lKm := Km.lt
  have cKm0 := Km.cell 0
  have cKm1 := Km.cell 1
  have cKm2 := Km.cell 2
  have cKm3 := Km.cell 3
  have cKm4 := Km.cell 4
  have cKm5 := Km.cell 5
  simp only [List.getElem?_toArray, List.getElem?_cons_succ, List.getElem?_cons_zero] at cKi0 cKi1 cKi2 cKi3 cKm0 cKm1 cKm2 cKm3 cKm4 cKm5
  clear g1 g2
  have z0 : (t == 0) = false := by simp; exact h0
  have z1 : decide (y < -8191) = false := by simp; omega
  have z2 : decide (8191 < y) = true := by simp; exact hy
  go_wp2_with fail
  replace Ki := (Ki.alloc (.cells #[.int .i64 W, .int .i64 H, .int .i64 B, .string s, .int .i64 a, .int .i64 b, .int .i64 c, .int .i64 d, .int .i64 e, .int .i64 f, .int .i64 t] 92))
  replace Km := (Km.alloc (.cells #[.int .i64 W, .int .i64 H, .int .i64 B, .string s, .int .i64 a, .int .i64 b, .int .i64 c, .int .i64 d, .int .i64 e, .int .i64 f, .int .i64 t] 92))
  have Kv := (Blk.new w1 92 #[.int .i64 W, .int .i64 H, .int .i64 B, .string s, .int .i64 a, .int .i64 b, .int .i64 c, .int .i64 d, .int .i64 e, .int .i64 f, .int .i64 t])
  replace hbw : Below w.heap.size w (w1.alloc (.cells #[.int .i64 W, .int .i64 H, .int .i64 B, .string s, .int .i64 a, .int .i64 b, .int .i64 c, .int .i64 d, .int .i64 e, .int .i64 f, .int .i64 t] 92)) := by (repeat' (first | refine bset ?_ (by first | omega | (simp <;> omega)) _ | refine balloc ?_ _ | refine Below.drew ?_ | refine below_drewN ?_ _ | exact hbw | exact Below.refl _ _))
  clear lKi cKi0 cKi1 cKi2 cKi3 lKm cKm0 cKm1 cKm2 cKm3 cKm4 cKm5
  generalize hwx : (w1.alloc (.cells #[.int .i64 W, .int .i64 H, .int .i64 B, .string s, .int .i64 a, .int .i64 b, .int .i64 c, .int .i64 d, .int .i64 e, .int .i64 f, .int .i64 t] 92)) = wa at *
  clear hwx
  clear Ki Km
  have lKv := Kv.lt
  have cKv0 := Kv.cell 0
  have cKv1 := Kv.cell 1
  have cKv2 := Kv.cell 2
  have cKv3 := Kv.cell 3
  have cKv4 := Kv.cell 4
  have cKv5 := Kv.cell 5
  have cKv6 := Kv.cell 6
  have cKv7 := Kv.cell 7
  have cKv8 := Kv.cell 8
  have cKv9 := Kv.cell 9
  have cKv10 := Kv.cell 10
  simp only [List.getElem?_toArray, List.getElem?_cons_succ, List.getElem?_cons_zero] at cKv0 cKv1 cKv2 cKv3 cKv4 cKv5 cKv6 cKv7 cKv8 cKv9 cKv10
  refine (HR.out _).mono ?_
  rintro e_ wq ⟨vv, rfl, hv, hbq⟩
  have HV := Lib.hid hv
  replace hbw := btrans hbw hbq
  clear hv hbq
  go_wp2_with fail
  go_ret
  exact ⟨_, rfl, HV.out, hbw⟩

set_option maxRecDepth 100000 in
set_option maxHeartbeats 1600000 in
theorem Line_walk (W H B a b c d e f t y : Int) (n : Nat) (s : ByteArray) (w : World) (hn : n ≤ 64) (hi : mayI W H B s.size = true) (hm : mayB a b c d e f = true) (ht : a * d - b * c = t) (h0 : ¬ t = 0) (hy : -8191 ≤ y ∧ y ≤ 8191)
    (HL : Hid (∀ W', Calls Try.prog 58 #[.agg #[.int .i64 W, .int .i64 H, .int .i64 B, .string s], .agg #[.int .i64 a, .int .i64 b, .int .i64 c, .int .i64 d, .int .i64 e, .int .i64 f]] W' fun ed w' => ed = .returned (.tuple #[.agg #[.int .i64 W, .int .i64 H, .int .i64 B, .string s, .int .i64 a, .int .i64 b, .int .i64 c, .int .i64 d, .int .i64 e, .int .i64 f, .int .i64 t], .bool true]) ∧ Below W'.heap.size W' w')) : Calls Try.prog 21 #[.agg #[.int .i64 W, .int .i64 H, .int .i64 B, .string s], .agg #[.int .i64 a, .int .i64 b, .int .i64 c, .int .i64 d, .int .i64 e, .int .i64 f], .int .i64 y, .int .i64 (n : Int)] w fun ed w' => ∃ v, ed = .returned v ∧ IntsV w' v (lineL W H B s a b c d e f y n) ∧ Below w.heap.size w w' := by
  obtain ⟨i0, hi0, hz0, hz1, hz2⟩ := info_parts info_int
  have hwx := fun k : Nat => way_bd (x := 16 * (k : Int) + 8) (y := y) hm
  obtain ⟨ha, hb, hc, hd, he, hf⟩ := mayB_bd hm
  have hat := fun (k : Nat) hk => AtV_way (W := W) (H := H) (B := B) (s := s) hi hm ht h0 hy k hk
  have hdt := det_bd hm
  have tb : -4611686018427387904 ≤ t ∧ t ≤ 4611686018427387904 := by omega
  have hsp := fun x z W' => sample_may W H B x z s W' hi
  have hWK := Lib.hid (fun W' => walk_any W H B a b c d e f t y _ _ _ _ _ _ s W' hy.1 hy.2 he.1 he.2 hf.1 hf.2 rfl rfl rfl rfl rfl rfl (by have := hwx 0 ⟨by omega, by omega⟩ hy; simpa using this.1.1) (by have := hwx 0 ⟨by omega, by omega⟩ hy; simpa using this.1.2) (hwx 0 ⟨by omega, by omega⟩ hy).2.1.1 (hwx 0 ⟨by omega, by omega⟩ hy).2.1.2 (hwx 0 ⟨by omega, by omega⟩ hy).2.2.1.1 (hwx 0 ⟨by omega, by omega⟩ hy).2.2.1.2 (by have := hwx 0 ⟨by omega, by omega⟩ hy; simpa using this.2.2.2.1) (by have := hwx 0 ⟨by omega, by omega⟩ hy; simpa using this.2.2.2.2))
  have hX0 : d * (524288 - e) - c * (y * 65536 - f) = wayX c d e f y 0 := by unfold wayX; simp
  have hZ0 : a * (y * 65536 - f) - b * (524288 - e) = wayZ a b e f y 0 := by unfold wayZ; simp
  rw [hX0, hZ0] at hWK
  have hXb : ∀ k : Nat, k ≤ 65 → -4611686018427387904 ≤ wayX c d e f y k ∧ wayX c d e f y k ≤ 4611686018427387904 := fun k hk => by have := hwx k ⟨by omega, by omega⟩ hy; unfold wayX; omega
  have hZb : ∀ k : Nat, k ≤ 65 → -4611686018427387904 ≤ wayZ a b e f y k ∧ wayZ a b e f y k ≤ 4611686018427387904 := fun k hk => by have := hwx k ⟨by omega, by omega⟩ hy; unfold wayZ; omega
  have hXs : ∀ k : Nat, wayX c d e f y k + d * 1048576 = wayX c d e f y (k + 1) := fun k => by unfold wayX; rw [way_step]; omega
  have hZs : ∀ k : Nat, wayZ a b e f y k - b * 1048576 = wayZ a b e f y (k + 1) := fun k => by unfold wayZ; rw [way_step]; omega
  have d1b : -4611686018427387904 ≤ d * 1048576 ∧ d * 1048576 ≤ 4611686018427387904 := by omega
  have b1b : -4611686018427387904 ≤ b * 1048576 ∧ b * 1048576 ≤ 4611686018427387904 := by omega
  have HST := Lib.hid (fun (k : Nat) (hk : k < 65) (vB xB zB : Nat) (wr : World) (Kv : Blk wr vB 92 #[.int .i64 W, .int .i64 H, .int .i64 B, .string s, .int .i64 a, .int .i64 b, .int .i64 c, .int .i64 d, .int .i64 e, .int .i64 f, .int .i64 t]) (Kx : Blk wr xB 3 #[.int .i64 (wayX c d e f y k)]) (Kz : Blk wr zB 3 #[.int .i64 (wayZ a b e f y k)]) (n1 : vB ≠ xB) (n2 : vB ≠ zB) (n3 : xB ≠ zB) =>
    step_any W H B a b c d e f t (wayX c d e f y k) (wayZ a b e f y k) (d * 1048576) (b * 1048576) (wayX c d e f y (k + 1)) (wayZ a b e f y (k + 1)) _ _ _ vB xB zB s wr Kv Kx Kz n1 n2 n3 rfl rfl (hXs k) (hZs k) d1b.1 d1b.2 b1b.1 b1b.2 (hXb (k + 1) (by omega)).1 (hXb (k + 1) (by omega)).2 (hZb (k + 1) (by omega)).1 (hZb (k + 1) (by omega)).2
      (Lib.hid fun W' => down_any _ _ W' (hXb k (by omega)) tb h0) (Lib.hid fun W' => down_any _ _ W' (hZb k (by omega)) tb h0) (Lib.hid fun W' => hsp _ _ W'))
  have HAT := Lib.hid hat
  clear hwx ha hb hc hd he hf hat hdt tb hsp hX0 hZ0 hXb hZb hXs hZs d1b b1b hi hm ht
  obtain ⟨hy0, hy1⟩ := hy
  have z0 : (t == 0) = false := by simp; exact h0
  have z1 : decide (y < -8191) = false := by simp; omega
  have z2 : decide (8191 < y) = false := by simp; omega
  go_enter Try.func21, Try.ntmps21
  have g1 : decide ((n : Int) < 0) = false := by simp
  have g2 : decide (64 < (n : Int)) = false := by simp; omega
  go_wp2_with fail
  refine (HL.out _).mono ?_
  rintro e_ w1 ⟨rfl, hb1⟩
  have Ki := ((Blk.new w 23 #[.int .i64 W, .int .i64 H, .int .i64 B, .string s]).alloc (.cells #[.int .i64 a, .int .i64 b, .int .i64 c, .int .i64 d, .int .i64 e, .int .i64 f] 25))
  have Km := (Blk.new (w.alloc (.cells #[.int .i64 W, .int .i64 H, .int .i64 B, .string s] 23)) 25 #[.int .i64 a, .int .i64 b, .int .i64 c, .int .i64 d, .int .i64 e, .int .i64 f])
  have hz_Km : (w.alloc (.cells #[.int .i64 W, .int .i64 H, .int .i64 B, .string s] 23)).heap.size = w.heap.size + 1 := by simp
  rw [hz_Km] at Km
  clear hz_Km
  replace Ki := Ki.below hb1 Ki.lt
  replace Km := Km.below hb1 Km.lt
  have hbw : Below w.heap.size w w1 := btrans (by (repeat' (first | exact Below.refl _ _ | exact Below.refl _ _ | refine balloc ?_ _ | refine Below.drew ?_ | refine below_drewN ?_ _ | refine bset ?_ (by first | omega | (simp <;> omega)) _))) hb1
  clear hb1 
  have lKi := Ki.lt
  have cKi0 := Ki.cell 0
  have cKi1 := Ki.cell 1
  have cKi2 := Ki.cell 2
  have cKi3 := Ki.cell 3
  have lKm := Km.lt
  have cKm0 := Km.cell 0
  have cKm1 := Km.cell 1
  have cKm2 := Km.cell 2
  have cKm3 := Km.cell 3
  have cKm4 := Km.cell 4
  have cKm5 := Km.cell 5
  simp only [List.getElem?_toArray, List.getElem?_cons_succ, List.getElem?_cons_zero] at cKi0 cKi1 cKi2 cKi3 cKm0 cKm1 cKm2 cKm3 cKm4 cKm5
  clear g1 g2
  go_wp2_with fail
  replace Ki := (Ki.alloc (.cells #[.int .i64 W, .int .i64 H, .int .i64 B, .string s, .int .i64 a, .int .i64 b, .int .i64 c, .int .i64 d, .int .i64 e, .int .i64 f, .int .i64 t] 92))
  replace Km := (Km.alloc (.cells #[.int .i64 W, .int .i64 H, .int .i64 B, .string s, .int .i64 a, .int .i64 b, .int .i64 c, .int .i64 d, .int .i64 e, .int .i64 f, .int .i64 t] 92))
  have Kv := (Blk.new w1 92 #[.int .i64 W, .int .i64 H, .int .i64 B, .string s, .int .i64 a, .int .i64 b, .int .i64 c, .int .i64 d, .int .i64 e, .int .i64 f, .int .i64 t])
  replace hbw : Below w.heap.size w (w1.alloc (.cells #[.int .i64 W, .int .i64 H, .int .i64 B, .string s, .int .i64 a, .int .i64 b, .int .i64 c, .int .i64 d, .int .i64 e, .int .i64 f, .int .i64 t] 92)) := by (repeat' (first | refine bset ?_ (by first | omega | (simp <;> omega)) _ | refine balloc ?_ _ | refine Below.drew ?_ | refine below_drewN ?_ _ | exact hbw | exact Below.refl _ _))
  clear lKi cKi0 cKi1 cKi2 cKi3 lKm cKm0 cKm1 cKm2 cKm3 cKm4 cKm5
  generalize hwx : (w1.alloc (.cells #[.int .i64 W, .int .i64 H, .int .i64 B, .string s, .int .i64 a, .int .i64 b, .int .i64 c, .int .i64 d, .int .i64 e, .int .i64 f, .int .i64 t] 92)) = wa at *
  clear hwx
  clear Ki Km
  have lKv := Kv.lt
  have cKv0 := Kv.cell 0
  have cKv1 := Kv.cell 1
  have cKv2 := Kv.cell 2
  have cKv3 := Kv.cell 3
  have cKv4 := Kv.cell 4
  have cKv5 := Kv.cell 5
  have cKv6 := Kv.cell 6
  have cKv7 := Kv.cell 7
  have cKv8 := Kv.cell 8
  have cKv9 := Kv.cell 9
  have cKv10 := Kv.cell 10
  simp only [List.getElem?_toArray, List.getElem?_cons_succ, List.getElem?_cons_zero] at cKv0 cKv1 cKv2 cKv3 cKv4 cKv5 cKv6 cKv7 cKv8 cKv9 cKv10
  refine (hWK.out _).mono ?_
  rintro e_ wb ⟨vB, xB, zB, rfl, Kv2, Kx, Kz, ⟨n1, n2, n3⟩, ⟨g1, g2, g3⟩, hbq⟩
  have hws := hbw.size
  replace hbw := btrans hbw hbq
  clear lKv cKv0 cKv1 cKv2 cKv3 cKv4 cKv5 cKv6 cKv7 cKv8 cKv9 cKv10 Kv hbq hWK
  have HKv := Lib.hid Kv2
  have HKx := Lib.hid Kx
  have HKz := Lib.hid Kz
  have HBW := Lib.hid hbw
  have l1 := Kv2.lt
  have l2 := Kx.lt
  have l3 := Kz.lt
  have hwb := hbw.size
  clear Kv2 Kx Kz hbw
  go_wp2_with fail
  go_loopw [12, 46] (fun v iv wr => ∃ k : Nat, k ≤ n ∧ iv = .int .i64 (k : Int) ∧ OwnInts wr wb.heap.size v (lineL W H B s a b c d e f y k) ∧ Blk wr vB 92 #[.int .i64 W, .int .i64 H, .int .i64 B, .string s, .int .i64 a, .int .i64 b, .int .i64 c, .int .i64 d, .int .i64 e, .int .i64 f, .int .i64 t] ∧ Blk wr xB 3 #[.int .i64 (wayX c d e f y k)] ∧ Blk wr zB 3 #[.int .i64 (wayZ a b e f y k)] ∧ wb.heap.size ≤ wr.heap.size ∧ Below w.heap.size w wr) (fun _ iv _ => n - (intOf iv).toNat)
  case atStart => exact ⟨0, by omega, rfl, World.ownsRow_nil _ _ _ _, HKv.out, HKx.out, HKz.out, Nat.le_refl _, HBW.out⟩
  case round =>
    clear HKv HKx HKz HBW
    obtain ⟨k, hk, rfl, hown, Kv, Kx, Kz, hsz, hbw⟩ := hrel
    by_cases hlt : k < n
    · have d1 : decide ((k : Int) < (n : Int)) = true := by simp; omega
      have HC := Lib.hid (HST.out k (by omega) vB xB zB wr Kv Kx Kz n1 n2 n3)
      have HV := Lib.hid Kv
      have HX := Lib.hid Kx
      have HZ := Lib.hid Kz
      have HOWN := Lib.hid hown
      have HBW := Lib.hid hbw
      clear Kv Kx Kz hown hbw
      go_wp2_with fail
      refine HC.out.mono ?_
      rintro e_ w2 ⟨rfl, wm, hbm, rfl⟩
      rw [← HAT.out k (by omega)]
      have Kv := ((HV.out.below hbm HV.out.lt).far (p := ⟨xB, 0, none⟩) n1 (.int .i64 (wayX c d e f y (k + 1)))).far (p := ⟨zB, 0, none⟩) n2 (.int .i64 (wayZ a b e f y (k + 1)))
      have Kx := ((HX.out.below hbm HX.out.lt).set_ 0 (.int .i64 (wayX c d e f y (k + 1)))).far (p := ⟨zB, 0, none⟩) n3 (.int .i64 (wayZ a b e f y (k + 1)))
      have Kz := ((HZ.out.below hbm HZ.out.lt).far (p := ⟨xB, 0, none⟩) (show zB ≠ xB from n3.symm) (.int .i64 (wayX c d e f y (k + 1)))).set_ 0 (.int .i64 (wayZ a b e f y (k + 1)))
      have hown := own_far (own_far (own_below HOWN.out hbm) (p := ⟨xB, 0, none⟩) l2 (.int .i64 (wayX c d e f y (k + 1)))) (p := ⟨zB, 0, none⟩) l3 (.int .i64 (wayZ a b e f y (k + 1)))
      have hbw := bset (bset (btrans HBW.out hbm) (p := ⟨xB, 0, none⟩) (show w.heap.size ≤ xB by omega) (.int .i64 (wayX c d e f y (k + 1)))) (p := ⟨zB, 0, none⟩) (show w.heap.size ≤ zB by omega) (.int .i64 (wayZ a b e f y (k + 1)))
      have hsz3 : wb.heap.size ≤ ((wm.setCell ⟨xB, 0, none⟩ (.int .i64 (wayX c d e f y (k + 1)))).setCell ⟨zB, 0, none⟩ (.int .i64 (wayZ a b e f y (k + 1)))).heap.size := by have := hbm.size; simp; omega
      generalize hw3 : ((wm.setCell ⟨xB, 0, none⟩ (.int .i64 (wayX c d e f y (k + 1)))).setCell ⟨zB, 0, none⟩ (.int .i64 (wayZ a b e f y (k + 1)))) = w3 at *
      clear hw3 hbm HC HV HX HZ HOWN HBW
      generalize hz : AtV W H B s a b c d e f (16 * (k : Int) + 8) y = z at *
      have HZ := Lib.hid hz
      clear hz
      have hO : ∀ o, (w3.alloc o).ownsRow wb.heap.size 3 1 u12 (lineL W H B s a b c d e f y k).length (numL (lineL W H B s a b c d e f y k)) := fun o => World.ownsRow.alloc hown o
      have HOWN := Lib.hid hown
      have HBW := Lib.hid hbw
      have HKv := Lib.hid Kv
      have HKx := Lib.hid Kx
      have HKz := Lib.hid Kz
      have hll := lineL_len W H B s a b c d e f y k
      clear hown hbw Kv Kx Kz
      go_wp2_with (at_builtin; refine wpList_append_own _ rfl (.tmp 48) (.tmp 51) _ rfl wb.heap.size 3 i0 _ 1 8 Try.underlying31 hi0 hz0 hz1 hz2 rfl (by omega) u12 _ _ rfl (hO _) ⟨w3.heap.size, 0, none⟩ 1 1 [.int .i64 z] rfl rfl (one_new _ _ _) (by simp [Value.oneCell']) (by rw [hll]; simp [maxLen]; omega) (by rw [hll]; omega) (by simp; omega) ?_; intro v1 wq hown1 hg1 _)
      go_roundw
      case rel =>
        obtain ⟨h1, h2, h3, h4⟩ := own_put HOWN.out HBW.out hwb hsz3 hown1 hg1
        refine ⟨k + 1, by omega, by go_num, ?_, h4 _ _ _ HKv.out l1, h4 _ _ _ HKx.out l2, h4 _ _ _ HKz.out l3, h3, h2⟩
        rw [← HZ.out, lineL_put] at h1
        exact h1
      case measure => simp [intOf]; omega
    · obtain rfl : k = n := by omega
      have d1 : decide ((k : Int) < (k : Int)) = false := by simp
      go_wp2_with fail
      go_ret
      exact ⟨_, rfl, hown.ints, hbw⟩

theorem Line_any (W H B a b c d e f y : Int) (n : Nat) (s : ByteArray) (w : World) (hs : (s.size : Int) ≤ 9223372036854775807) (hn : n ≤ 64) : Calls Try.prog 21 #[.agg #[.int .i64 W, .int .i64 H, .int .i64 B, .string s], .agg #[.int .i64 a, .int .i64 b, .int .i64 c, .int .i64 d, .int .i64 e, .int .i64 f], .int .i64 y, .int .i64 (n : Int)] w fun ed w' => ∃ v, ed = .returned v ∧ IntsV w' v (lineL W H B s a b c d e f y n) ∧ Below w.heap.size w w' := by
  cases hi : mayI W H B s.size with
  | false =>
    rw [lineL_rest n (fun x => by unfold AtV; rw [hi]; rfl)]
    exact Line_no W H B a b c d e f 0 y n s w hn (Lib.hid fun W' => look_no1 W H B a b c d e f s W' hs hi)
  | true =>
    cases hm : mayB a b c d e f with
    | false =>
      rw [lineL_rest n (fun x => by unfold AtV; rw [hi, hm]; rfl)]
      exact Line_no W H B a b c d e f 0 y n s w hn (Lib.hid fun W' => look_no2 W H B a b c d e f s W' hs hi hm)
    | true =>
      have hd := det_bd hm
      obtain ⟨t, ht⟩ : ∃ t, a * d - b * c = t := ⟨_, rfl⟩
      have HL := Lib.hid (fun W' => look_yes W H B a b c d e f s _ _ t W' hs hi hm rfl rfl ht hd.1.1 hd.1.2 hd.2.1 hd.2.2)
      by_cases h0 : t = 0
      · rw [lineL_rest n (fun x => by unfold AtV atV; rw [hi, hm, ht, if_pos (show (true && true) = true from rfl), if_pos (.inl h0)])]
        subst h0
        exact Line_det W H B a b c d e f 0 y n s w hn HL
      · by_cases hy0 : y < -8191
        · rw [lineL_rest n (fun x => by unfold AtV atV; rw [hi, hm, ht, if_pos (show (true && true) = true from rfl), if_pos (.inr (by unfold coordB; simp; omega))])]
          exact Line_low W H B a b c d e f t y n s w hn h0 hy0 HL
        · by_cases hy1 : 8191 < y
          · rw [lineL_rest n (fun x => by unfold AtV atV; rw [hi, hm, ht, if_pos (show (true && true) = true from rfl), if_pos (.inr (by unfold coordB; simp; omega))])]
            exact Line_high W H B a b c d e f t y n s w hn h0 hy1 HL
          · exact Line_walk W H B a b c d e f t y n s w hn hi hm ht h0 ⟨by omega, by omega⟩ HL
end Go.Proofs.Ytegpjjkbbdfggaa.im
