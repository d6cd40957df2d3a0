/-
  Layer 37: the sample that lies over a point, and the reference's.
-/
import Derived.Test.YtegpjjkbbdfggaaSample
namespace Go.Proofs.Ytegpjjkbbdfggaa.im
set_option linter.unusedVariables false
set_option linter.unusedSimpArgs false
open Go.RowKit bs mt

theorem prod_bd {a b m n : Int} (ha : -m ≤ a ∧ a ≤ m) (hb : -n ≤ b ∧ b ≤ n) : -(m * n) ≤ a * b ∧ a * b ≤ m * n := by
  have h1 := Int.mul_nonneg (show 0 ≤ m - a by omega) (show 0 ≤ n - b by omega)
  have h2 := Int.mul_nonneg (show 0 ≤ m + a by omega) (show 0 ≤ n + b by omega)
  have h3 := Int.mul_nonneg (show 0 ≤ m - a by omega) (show 0 ≤ n + b by omega)
  have h4 := Int.mul_nonneg (show 0 ≤ m + a by omega) (show 0 ≤ n - b by omega)
  simp only [Int.sub_mul, Int.mul_sub, Int.add_mul, Int.mul_add] at h1 h2 h3 h4
  have c1 := Int.mul_comm m b
  have c2 := Int.mul_comm n a
  have c3 := Int.mul_comm m n
  omega
theorem blk_cast {w : World} {g : Nat} {t : TypeId} {cs cs' : Array Value} (h : Blk w g t cs) (e : cs = cs') : Blk w g t cs' := e ▸ h
def coordB (x y : Int) : Bool := decide (-8191 ≤ x) && decide (x ≤ 8191) && decide (-8191 ≤ y) && decide (y ≤ 8191)
/-- the sample over a point, by an image and a matrix that may be -/
def atV (W H B : Int) (s : ByteArray) (a b c d e f x y : Int) : Int :=
  if a * d - b * c = 0 ∨ coordB x y = false then -1 else
    sampV W H B s (downI (d * (x * 65536 - e) - c * (y * 65536 - f)) (a * d - b * c)) (downI (a * (y * 65536 - f) - b * (x * 65536 - e)) (a * d - b * c))
/-- the sample over a point -/
def AtV (W H B : Int) (s : ByteArray) (a b c d e f x y : Int) : Int :=
  if (mayI W H B s.size && mayB a b c d e f) = true then atV W H B s a b c d e f x y else -1

set_option maxRecDepth 100000 in
set_option maxHeartbeats 1600000 in
theorem look_yes (W H B a b c d e f : Int) (s : ByteArray) (p1 p2 t : Int) (w : World) (hs : (s.size : Int) ≤ 9223372036854775807) (h1 : mayI W H B s.size = true) (h2 : mayB a b c d e f = true) (q1 : a * d = p1) (q2 : b * c = p2) (q3 : p1 - p2 = t) (m10 : -1152921502459363329 ≤ p1) (m11 : p1 ≤ 1152921502459363329) (m20 : -1152921502459363329 ≤ p2) (m21 : p2 ≤ 1152921502459363329) : Calls Try.prog 58 #[.agg #[.int .i64 W, .int .i64 H, .int .i64 B, .string s], .agg #[.int .i64 a, .int .i64 b, .int .i64 c, .int .i64 d, .int .i64 e, .int .i64 f]] w fun ed w' => ed = .returned (.tuple #[.agg #[.int .i64 W, .int .i64 H, .int .i64 B, .string s, .int .i64 a, .int .i64 b, .int .i64 c, .int .i64 d, .int .i64 e, .int .i64 f, .int .i64 t], .bool true]) ∧ Below w.heap.size w w' := by
  have HM := Lib.hid (fun W' => show Calls Try.prog 14 #[.agg #[.int .i64 W, .int .i64 H, .int .i64 B, .string s]] W' fun ed w' => ed = .returned (.bool true) ∧ Below W'.heap.size W' w' by have := may37_any W H B s W' hs; rw [h1] at this; exact this)
  have HN := Lib.hid (fun W' => show Calls Try.prog 66 #[.agg #[.int .i64 a, .int .i64 b, .int .i64 c, .int .i64 d, .int .i64 e, .int .i64 f]] W' fun ed w' => ed = .returned (.bool true) ∧ Below W'.heap.size W' w' by have := may_any a b c d e f W'; rw [h2] at this; exact this)
  clear h1 h2 hs
  go_enter Try.func58, Try.ntmps58
  go_wp2_with fail
  refine (HM.out _).mono ?_
  rintro e_ w1 ⟨rfl, hb1⟩
  have Ki := (((Blk.new w 23 #[.int .i64 W, .int .i64 H, .int .i64 B, .string s]).alloc (.cells #[.int .i64 a, .int .i64 b, .int .i64 c, .int .i64 d, .int .i64 e, .int .i64 f] 25)).alloc (.cells #[.int .i64 0, .int .i64 0, .int .i64 0, .string ⟨#[]⟩, .int .i64 0, .int .i64 0, .int .i64 0, .int .i64 0, .int .i64 0, .int .i64 0, .int .i64 0] 92))
  have Km := ((Blk.new (w.alloc (.cells #[.int .i64 W, .int .i64 H, .int .i64 B, .string s] 23)) 25 #[.int .i64 a, .int .i64 b, .int .i64 c, .int .i64 d, .int .i64 e, .int .i64 f]).alloc (.cells #[.int .i64 0, .int .i64 0, .int .i64 0, .string ⟨#[]⟩, .int .i64 0, .int .i64 0, .int .i64 0, .int .i64 0, .int .i64 0, .int .i64 0, .int .i64 0] 92))
  have hz_Km : (w.alloc (.cells #[.int .i64 W, .int .i64 H, .int .i64 B, .string s] 23)).heap.size = w.heap.size + 1 := by simp
  rw [hz_Km] at Km
  clear hz_Km
  have Kv := (Blk.new ((w.alloc (.cells #[.int .i64 W, .int .i64 H, .int .i64 B, .string s] 23)).alloc (.cells #[.int .i64 a, .int .i64 b, .int .i64 c, .int .i64 d, .int .i64 e, .int .i64 f] 25)) 92 #[.int .i64 0, .int .i64 0, .int .i64 0, .string ⟨#[]⟩, .int .i64 0, .int .i64 0, .int .i64 0, .int .i64 0, .int .i64 0, .int .i64 0, .int .i64 0])
  have hz_Kv : ((w.alloc (.cells #[.int .i64 W, .int .i64 H, .int .i64 B, .string s] 23)).alloc (.cells #[.int .i64 a, .int .i64 b, .int .i64 c, .int .i64 d, .int .i64 e, .int .i64 f] 25)).heap.size = w.heap.size + 1 + 1 := by simp
  rw [hz_Kv] at Kv
  clear hz_Kv
  replace Ki := Ki.below hb1 Ki.lt
  replace Km := Km.below hb1 Km.lt
  replace Kv := Kv.below hb1 Kv.lt
  have hbw : Below w.heap.size w w1 := btrans (by (repeat' (first | exact Below.refl _ _ | exact Below.refl _ _ | refine balloc ?_ _ | refine Below.drew ?_ | refine below_drewN ?_ _ | refine bset ?_ (by first | omega | (simp <;> omega)) _))) hb1
  clear hb1 
  have lKi := Ki.lt
  have cKi0 := Ki.cell 0
  have cKi1 := Ki.cell 1
  have cKi2 := Ki.cell 2
  have cKi3 := Ki.cell 3
  have lKm := Km.lt
  have cKm0 := Km.cell 0
  have cKm1 := Km.cell 1
  have cKm2 := Km.cell 2
  have cKm3 := Km.cell 3
  have cKm4 := Km.cell 4
  have cKm5 := Km.cell 5
  have lKv := Kv.lt
  have cKv0 := Kv.cell 0
  have cKv1 := Kv.cell 1
  have cKv2 := Kv.cell 2
  have cKv3 := Kv.cell 3
  have cKv4 := Kv.cell 4
  have cKv5 := Kv.cell 5
  have cKv6 := Kv.cell 6
  have cKv7 := Kv.cell 7
  have cKv8 := Kv.cell 8
  have cKv9 := Kv.cell 9
  have cKv10 := Kv.cell 10
  simp only [List.getElem?_toArray, List.getElem?_cons_succ, List.getElem?_cons_zero] at cKi0 cKi1 cKi2 cKi3 cKm0 cKm1 cKm2 cKm3 cKm4 cKm5 cKv0 cKv1 cKv2 cKv3 cKv4 cKv5 cKv6 cKv7 cKv8 cKv9 cKv10
  go_wp2_with fail
  refine (HN.out _).mono ?_
  rintro e_ w2 ⟨rfl, hb2⟩
  replace Ki := Ki.below hb2 Ki.lt
  replace Km := Km.below hb2 Km.lt
  replace Kv := Kv.below hb2 Kv.lt
  replace hbw : Below w.heap.size w w2 := btrans (by (repeat' (first | refine bset ?_ (by first | omega | (simp <;> omega)) _ | refine balloc ?_ _ | refine Below.drew ?_ | refine below_drewN ?_ _ | exact hbw | exact Below.refl _ _))) hb2
  clear hb2 lKi cKi0 cKi1 cKi2 cKi3 lKm cKm0 cKm1 cKm2 cKm3 cKm4 cKm5 lKv cKv0 cKv1 cKv2 cKv3 cKv4 cKv5 cKv6 cKv7 cKv8 cKv9 cKv10
  have lKi := Ki.lt
  have cKi0 := Ki.cell 0
  have cKi1 := Ki.cell 1
  have cKi2 := Ki.cell 2
  have cKi3 := Ki.cell 3
  have lKm := Km.lt
  have cKm0 := Km.cell 0
  have cKm1 := Km.cell 1
  have cKm2 := Km.cell 2
  have cKm3 := Km.cell 3
  have cKm4 := Km.cell 4
  have cKm5 := Km.cell 5
  have lKv := Kv.lt
  have cKv0 := Kv.cell 0
  have cKv1 := Kv.cell 1
  have cKv2 := Kv.cell 2
  have cKv3 := Kv.cell 3
  have cKv4 := Kv.cell 4
  have cKv5 := Kv.cell 5
  have cKv6 := Kv.cell 6
  have cKv7 := Kv.cell 7
  have cKv8 := Kv.cell 8
  have cKv9 := Kv.cell 9
  have cKv10 := Kv.cell 10
  have fKv0 := Kv.frozen 0
  have fKv1 := Kv.frozen 1
  have fKv2 := Kv.frozen 2
  have fKv3 := Kv.frozen 3
  have fKv4 := Kv.frozen 4
  have fKv5 := Kv.frozen 5
  have fKv6 := Kv.frozen 6
  have fKv7 := Kv.frozen 7
  have fKv8 := Kv.frozen 8
  have fKv9 := Kv.frozen 9
  have fKv10 := Kv.frozen 10
  simp only [List.getElem?_toArray, List.getElem?_cons_succ, List.getElem?_cons_zero] at cKi0 cKi1 cKi2 cKi3 cKm0 cKm1 cKm2 cKm3 cKm4 cKm5 cKv0 cKv1 cKv2 cKv3 cKv4 cKv5 cKv6 cKv7 cKv8 cKv9 cKv10
  have HKv := Lib.hid Kv
  have HBW := Lib.hid hbw
  clear hbw Kv
  go_wp2_with fail
  refine ret_struct2 (g := w.heap.size + 1 + 1) (t := 92) (cs := #[.int .i64 W, .int .i64 H, .int .i64 B, .string s, .int .i64 a, .int .i64 b, .int .i64 c, .int .i64 d, .int .i64 e, .int .i64 f, .int .i64 t]) rfl rfl ?_ Try.underlying92 rfl rfl rfl ?_
  · exact blk_cast ((((((((((((HKv.out.set_ 0 (.int .i64 W)).set_ 1 (.int .i64 H)).set_ 2 (.int .i64 B)).set_ 3 (.string s)).set_ 4 (.int .i64 a)).set_ 5 (.int .i64 b)).set_ 6 (.int .i64 c)).set_ 7 (.int .i64 d)).set_ 8 (.int .i64 e)).set_ 9 (.int .i64 f)).set_ 10 (.int .i64 t))) (by kernel_rfl)
  · exact ⟨rfl, by (repeat' (first | refine bset ?_ (by first | omega | (simp <;> omega)) _ | refine balloc ?_ _ | refine Below.drew ?_ | refine below_drewN ?_ _ | exact HBW.out | exact Below.refl _ _))⟩

set_option maxRecDepth 100000 in
set_option maxHeartbeats 1600000 in
theorem look_no1 (W H B a b c d e f : Int) (s : ByteArray) (w : World) (hs : (s.size : Int) ≤ 9223372036854775807) (h1 : mayI W H B s.size = false) : Calls Try.prog 58 #[.agg #[.int .i64 W, .int .i64 H, .int .i64 B, .string s], .agg #[.int .i64 a, .int .i64 b, .int .i64 c, .int .i64 d, .int .i64 e, .int .i64 f]] w fun ed w' => ed = .returned (.tuple #[.agg #[.int .i64 0, .int .i64 0, .int .i64 0, .string ⟨#[]⟩, .int .i64 0, .int .i64 0, .int .i64 0, .int .i64 0, .int .i64 0, .int .i64 0, .int .i64 0], .bool false]) ∧ Below w.heap.size w w' := by
  have HM := Lib.hid (fun W' => show Calls Try.prog 14 #[.agg #[.int .i64 W, .int .i64 H, .int .i64 B, .string s]] W' fun ed w' => ed = .returned (.bool false) ∧ Below W'.heap.size W' w' by have := may37_any W H B s W' hs; rw [h1] at this; exact this)
  clear h1 hs
  go_enter Try.func58, Try.ntmps58
  go_wp2_with fail
  refine (HM.out _).mono ?_
  rintro e_ w1 ⟨rfl, hb1⟩
  have Ki := (((Blk.new w 23 #[.int .i64 W, .int .i64 H, .int .i64 B, .string s]).alloc (.cells #[.int .i64 a, .int .i64 b, .int .i64 c, .int .i64 d, .int .i64 e, .int .i64 f] 25)).alloc (.cells #[.int .i64 0, .int .i64 0, .int .i64 0, .string ⟨#[]⟩, .int .i64 0, .int .i64 0, .int .i64 0, .int .i64 0, .int .i64 0, .int .i64 0, .int .i64 0] 92))
  have Km := ((Blk.new (w.alloc (.cells #[.int .i64 W, .int .i64 H, .int .i64 B, .string s] 23)) 25 #[.int .i64 a, .int .i64 b, .int .i64 c, .int .i64 d, .int .i64 e, .int .i64 f]).alloc (.cells #[.int .i64 0, .int .i64 0, .int .i64 0, .string ⟨#[]⟩, .int .i64 0, .int .i64 0, .int .i64 0, .int .i64 0, .int .i64 0, .int .i64 0, .int .i64 0] 92))
  have hz_Km : (w.alloc (.cells #[.int .i64 W, .int .i64 H, .int .i64 B, .string s] 23)).heap.size = w.heap.size + 1 := by simp
  rw [hz_Km] at Km
  clear hz_Km
  have Kv := (Blk.new ((w.alloc (.cells #[.int .i64 W, .int .i64 H, .int .i64 B, .string s] 23)).alloc (.cells #[.int .i64 a, .int .i64 b, .int .i64 c, .int .i64 d, .int .i64 e, .int .i64 f] 25)) 92 #[.int .i64 0, .int .i64 0, .int .i64 0, .string ⟨#[]⟩, .int .i64 0, .int .i64 0, .int .i64 0, .int .i64 0, .int .i64 0, .int .i64 0, .int .i64 0])
  have hz_Kv : ((w.alloc (.cells #[.int .i64 W, .int .i64 H, .int .i64 B, .string s] 23)).alloc (.cells #[.int .i64 a, .int .i64 b, .int .i64 c, .int .i64 d, .int .i64 e, .int .i64 f] 25)).heap.size = w.heap.size + 1 + 1 := by simp
  rw [hz_Kv] at Kv
  clear hz_Kv
  replace Ki := Ki.below hb1 Ki.lt
  replace Km := Km.below hb1 Km.lt
  replace Kv := Kv.below hb1 Kv.lt
  have hbw : Below w.heap.size w w1 := btrans (by (repeat' (first | exact Below.refl _ _ | exact Below.refl _ _ | refine balloc ?_ _ | refine Below.drew ?_ | refine below_drewN ?_ _ | refine bset ?_ (by first | omega | (simp <;> omega)) _))) hb1
  clear hb1 
  have lKi := Ki.lt
  have cKi0 := Ki.cell 0
  have cKi1 := Ki.cell 1
  have cKi2 := Ki.cell 2
  have cKi3 := Ki.cell 3
  have lKm := Km.lt
  have cKm0 := Km.cell 0
  have cKm1 := Km.cell 1
  have cKm2 := Km.cell 2
  have cKm3 := Km.cell 3
  have cKm4 := Km.cell 4
  have cKm5 := Km.cell 5
  have lKv := Kv.lt
  have cKv0 := Kv.cell 0
  have cKv1 := Kv.cell 1
  have cKv2 := Kv.cell 2
  have cKv3 := Kv.cell 3
  have cKv4 := Kv.cell 4
  have cKv5 := Kv.cell 5
  have cKv6 := Kv.cell 6
  have cKv7 := Kv.cell 7
  have cKv8 := Kv.cell 8
  have cKv9 := Kv.cell 9
  have cKv10 := Kv.cell 10
  have fKv0 := Kv.frozen 0
  have fKv1 := Kv.frozen 1
  have fKv2 := Kv.frozen 2
  have fKv3 := Kv.frozen 3
  have fKv4 := Kv.frozen 4
  have fKv5 := Kv.frozen 5
  have fKv6 := Kv.frozen 6
  have fKv7 := Kv.frozen 7
  have fKv8 := Kv.frozen 8
  have fKv9 := Kv.frozen 9
  have fKv10 := Kv.frozen 10
  simp only [List.getElem?_toArray, List.getElem?_cons_succ, List.getElem?_cons_zero] at cKi0 cKi1 cKi2 cKi3 cKm0 cKm1 cKm2 cKm3 cKm4 cKm5 cKv0 cKv1 cKv2 cKv3 cKv4 cKv5 cKv6 cKv7 cKv8 cKv9 cKv10
  have HKv := Lib.hid Kv
  have HBW := Lib.hid hbw
  clear hbw Kv
  go_wp2_with fail
  refine ret_struct2 (g := w.heap.size + 1 + 1) (t := 92) (cs := #[.int .i64 0, .int .i64 0, .int .i64 0, .string ⟨#[]⟩, .int .i64 0, .int .i64 0, .int .i64 0, .int .i64 0, .int .i64 0, .int .i64 0, .int .i64 0]) rfl rfl ?_ Try.underlying92 rfl rfl rfl ?_
  · exact blk_cast ((((((((((((HKv.out.set_ 0 (.int .i64 0)).set_ 1 (.int .i64 0)).set_ 2 (.int .i64 0)).set_ 3 (.string ⟨#[]⟩)).set_ 4 (.int .i64 0)).set_ 5 (.int .i64 0)).set_ 6 (.int .i64 0)).set_ 7 (.int .i64 0)).set_ 8 (.int .i64 0)).set_ 9 (.int .i64 0)).set_ 10 (.int .i64 0))) (by kernel_rfl)
  · exact ⟨rfl, by (repeat' (first | refine bset ?_ (by first | omega | (simp <;> omega)) _ | refine balloc ?_ _ | refine Below.drew ?_ | refine below_drewN ?_ _ | exact HBW.out | exact Below.refl _ _))⟩

set_option maxRecDepth 100000 in
set_option maxHeartbeats 1600000 in
theorem look_no2 (W H B a b c d e f : Int) (s : ByteArray) (w : World) (hs : (s.size : Int) ≤ 9223372036854775807) (h1 : mayI W H B s.size = true) (h2 : mayB a b c d e f = false) : Calls Try.prog 58 #[.agg #[.int .i64 W, .int .i64 H, .int .i64 B, .string s], .agg #[.int .i64 a, .int .i64 b, .int .i64 c, .int .i64 d, .int .i64 e, .int .i64 f]] w fun ed w' => ed = .returned (.tuple #[.agg #[.int .i64 0, .int .i64 0, .int .i64 0, .string ⟨#[]⟩, .int .i64 0, .int .i64 0, .int .i64 0, .int .i64 0, .int .i64 0, .int .i64 0, .int .i64 0], .bool false]) ∧ Below w.heap.size w w' := by
  have HM := Lib.hid (fun W' => show Calls Try.prog 14 #[.agg #[.int .i64 W, .int .i64 H, .int .i64 B, .string s]] W' fun ed w' => ed = .returned (.bool true) ∧ Below W'.heap.size W' w' by have := may37_any W H B s W' hs; rw [h1] at this; exact this)
  have HN := Lib.hid (fun W' => show Calls Try.prog 66 #[.agg #[.int .i64 a, .int .i64 b, .int .i64 c, .int .i64 d, .int .i64 e, .int .i64 f]] W' fun ed w' => ed = .returned (.bool false) ∧ Below W'.heap.size W' w' by have := may_any a b c d e f W'; rw [h2] at this; exact this)
  clear h1 h2 hs
  go_enter Try.func58, Try.ntmps58
  go_wp2_with fail
  refine (HM.out _).mono ?_
  rintro e_ w1 ⟨rfl, hb1⟩
  have Ki := (((Blk.new w 23 #[.int .i64 W, .int .i64 H, .int .i64 B, .string s]).alloc (.cells #[.int .i64 a, .int .i64 b, .int .i64 c, .int .i64 d, .int .i64 e, .int .i64 f] 25)).alloc (.cells #[.int .i64 0, .int .i64 0, .int .i64 0, .string ⟨#[]⟩, .int .i64 0, .int .i64 0, .int .i64 0, .int .i64 0, .int .i64 0, .int .i64 0, .int .i64 0] 92))
  have Km := ((Blk.new (w.alloc (.cells #[.int .i64 W, .int .i64 H, .int .i64 B, .string s] 23)) 25 #[.int .i64 a, .int .i64 b, .int .i64 c, .int .i64 d, .int .i64 e, .int .i64 f]).alloc (.cells #[.int .i64 0, .int .i64 0, .int .i64 0, .string ⟨#[]⟩, .int .i64 0, .int .i64 0, .int .i64 0, .int .i64 0, .int .i64 0, .int .i64 0, .int .i64 0] 92))
  have hz_Km : (w.alloc (.cells #[.int .i64 W, .int .i64 H, .int .i64 B, .string s] 23)).heap.size = w.heap.size + 1 := by simp
  rw [hz_Km] at Km
  clear hz_Km
  have Kv := (Blk.new ((w.alloc (.cells #[.int .i64 W, .int .i64 H, .int .i64 B, .string s] 23)).alloc (.cells #[.int .i64 a, .int .i64 b, .int .i64 c, .int .i64 d, .int .i64 e, .int .i64 f] 25)) 92 #[.int .i64 0, .int .i64 0, .int .i64 0, .string ⟨#[]⟩, .int .i64 0, .int .i64 0, .int .i64 0, .int .i64 0, .int .i64 0, .int .i64 0, .int .i64 0])
  have hz_Kv : ((w.alloc (.cells #[.int .i64 W, .int .i64 H, .int .i64 B, .string s] 23)).alloc (.cells #[.int .i64 a, .int .i64 b, .int .i64 c, .int .i64 d, .int .i64 e, .int .i64 f] 25)).heap.size = w.heap.size + 1 + 1 := by simp
  rw [hz_Kv] at Kv
  clear hz_Kv
  replace Ki := Ki.below hb1 Ki.lt
  replace Km := Km.below hb1 Km.lt
  replace Kv := Kv.below hb1 Kv.lt
  have hbw : Below w.heap.size w w1 := btrans (by (repeat' (first | exact Below.refl _ _ | exact Below.refl _ _ | refine balloc ?_ _ | refine Below.drew ?_ | refine below_drewN ?_ _ | refine bset ?_ (by first | omega | (simp <;> omega)) _))) hb1
  clear hb1 
  have lKi := Ki.lt
  have cKi0 := Ki.cell 0
  have cKi1 := Ki.cell 1
  have cKi2 := Ki.cell 2
  have cKi3 := Ki.cell 3
  have lKm := Km.lt
  have cKm0 := Km.cell 0
  have cKm1 := Km.cell 1
  have cKm2 := Km.cell 2
  have cKm3 := Km.cell 3
  have cKm4 := Km.cell 4
  have cKm5 := Km.cell 5
  have lKv := Kv.lt
  have cKv0 := Kv.cell 0
  have cKv1 := Kv.cell 1
  have cKv2 := Kv.cell 2
  have cKv3 := Kv.cell 3
  have cKv4 := Kv.cell 4
  have cKv5 := Kv.cell 5
  have cKv6 := Kv.cell 6
  have cKv7 := Kv.cell 7
  have cKv8 := Kv.cell 8
  have cKv9 := Kv.cell 9
  have cKv10 := Kv.cell 10
  simp only [List.getElem?_toArray, List.getElem?_cons_succ, List.getElem?_cons_zero] at cKi0 cKi1 cKi2 cKi3 cKm0 cKm1 cKm2 cKm3 cKm4 cKm5 cKv0 cKv1 cKv2 cKv3 cKv4 cKv5 cKv6 cKv7 cKv8 cKv9 cKv10
  go_wp2_with fail
  refine (HN.out _).mono ?_
  rintro e_ w2 ⟨rfl, hb2⟩
  replace Ki := Ki.below hb2 Ki.lt
  replace Km := Km.below hb2 Km.lt
  replace Kv := Kv.below hb2 Kv.lt
  replace hbw : Below w.heap.size w w2 := btrans (by (repeat' (first | refine bset ?_ (by first | omega | (simp <;> omega)) _ | refine balloc ?_ _ | refine Below.drew ?_ | refine below_drewN ?_ _ | exact hbw | exact Below.refl _ _))) hb2
  clear hb2 lKi cKi0 cKi1 cKi2 cKi3 lKm cKm0 cKm1 cKm2 cKm3 cKm4 cKm5 lKv cKv0 cKv1 cKv2 cKv3 cKv4 cKv5 cKv6 cKv7 cKv8 cKv9 cKv10
  have lKi := Ki.lt
  have cKi0 := Ki.cell 0
  have cKi1 := Ki.cell 1
  have cKi2 := Ki.cell 2
  have cKi3 := Ki.cell 3
  have lKm := Km.lt
  have cKm0 := Km.cell 0
  have cKm1 := Km.cell 1
  have cKm2 := Km.cell 2
  have cKm3 := Km.cell 3
  have cKm4 := Km.cell 4
  have cKm5 := Km.cell 5
  have lKv := Kv.lt
  have cKv0 := Kv.cell 0
  have cKv1 := Kv.cell 1
  have cKv2 := Kv.cell 2
  have cKv3 := Kv.cell 3
  have cKv4 := Kv.cell 4
  have cKv5 := Kv.cell 5
  have cKv6 := Kv.cell 6
  have cKv7 := Kv.cell 7
  have cKv8 := Kv.cell 8
  have cKv9 := Kv.cell 9
  have cKv10 := Kv.cell 10
  have fKv0 := Kv.frozen 0
  have fKv1 := Kv.frozen 1
  have fKv2 := Kv.frozen 2
  have fKv3 := Kv.frozen 3
  have fKv4 := Kv.frozen 4
  have fKv5 := Kv.frozen 5
  have fKv6 := Kv.frozen 6
  have fKv7 := Kv.frozen 7
  have fKv8 := Kv.frozen 8
  have fKv9 := Kv.frozen 9
  have fKv10 := Kv.frozen 10
  simp only [List.getElem?_toArray, List.getElem?_cons_succ, List.getElem?_cons_zero] at cKi0 cKi1 cKi2 cKi3 cKm0 cKm1 cKm2 cKm3 cKm4 cKm5 cKv0 cKv1 cKv2 cKv3 cKv4 cKv5 cKv6 cKv7 cKv8 cKv9 cKv10
  have HKv := Lib.hid Kv
  have HBW := Lib.hid hbw
  clear hbw Kv
  go_wp2_with fail
  refine ret_struct2 (g := w.heap.size + 1 + 1) (t := 92) (cs := #[.int .i64 0, .int .i64 0, .int .i64 0, .string ⟨#[]⟩, .int .i64 0, .int .i64 0, .int .i64 0, .int .i64 0, .int .i64 0, .int .i64 0, .int .i64 0]) rfl rfl ?_ Try.underlying92 rfl rfl rfl ?_
  · exact blk_cast ((((((((((((HKv.out.set_ 0 (.int .i64 0)).set_ 1 (.int .i64 0)).set_ 2 (.int .i64 0)).set_ 3 (.string ⟨#[]⟩)).set_ 4 (.int .i64 0)).set_ 5 (.int .i64 0)).set_ 6 (.int .i64 0)).set_ 7 (.int .i64 0)).set_ 8 (.int .i64 0)).set_ 9 (.int .i64 0)).set_ 10 (.int .i64 0))) (by kernel_rfl)
  · exact ⟨rfl, by (repeat' (first | refine bset ?_ (by first | omega | (simp <;> omega)) _ | refine balloc ?_ _ | refine Below.drew ?_ | refine below_drewN ?_ _ | exact HBW.out | exact Below.refl _ _))⟩

set_option maxRecDepth 100000 in
set_option maxHeartbeats 1600000 in
theorem at_none (W H B a b c d e f t x y : Int) (s : ByteArray) (w : World) (h : t = 0 ∨ coordB x y = false) : Calls Try.prog 59 #[.agg #[.int .i64 W, .int .i64 H, .int .i64 B, .string s, .int .i64 a, .int .i64 b, .int .i64 c, .int .i64 d, .int .i64 e, .int .i64 f, .int .i64 t], .int .i64 x, .int .i64 y] w fun ed w' => ed = .returned (.int .i64 (-1)) ∧ Below w.heap.size w w' := by
  by_cases g0 : t = 0
  · clear h
    go_enter Try.func59, Try.ntmps59
    go_wp2_with fail
    go_ret
    exact ⟨rfl, by (repeat' (first | exact Below.refl _ _ | exact Below.refl _ _ | refine balloc ?_ _ | refine Below.drew ?_ | refine below_drewN ?_ _ | refine bset ?_ (by first | omega | (simp <;> omega)) _))⟩
  by_cases g1 : x < -8191
  · clear h
    go_enter Try.func59, Try.ntmps59
    go_wp2_with fail
    go_ret
    exact ⟨rfl, by (repeat' (first | exact Below.refl _ _ | exact Below.refl _ _ | refine balloc ?_ _ | refine Below.drew ?_ | refine below_drewN ?_ _ | refine bset ?_ (by first | omega | (simp <;> omega)) _))⟩
  by_cases g2 : 8191 < x
  · clear h
    go_enter Try.func59, Try.ntmps59
    go_wp2_with fail
    go_ret
    exact ⟨rfl, by (repeat' (first | exact Below.refl _ _ | exact Below.refl _ _ | refine balloc ?_ _ | refine Below.drew ?_ | refine below_drewN ?_ _ | refine bset ?_ (by first | omega | (simp <;> omega)) _))⟩
  by_cases g3 : y < -8191
  · clear h
    go_enter Try.func59, Try.ntmps59
    go_wp2_with fail
    go_ret
    exact ⟨rfl, by (repeat' (first | exact Below.refl _ _ | exact Below.refl _ _ | refine balloc ?_ _ | refine Below.drew ?_ | refine below_drewN ?_ _ | refine bset ?_ (by first | omega | (simp <;> omega)) _))⟩
  by_cases g4 : 8191 < y
  · clear h
    go_enter Try.func59, Try.ntmps59
    go_wp2_with fail
    go_ret
    exact ⟨rfl, by (repeat' (first | exact Below.refl _ _ | exact Below.refl _ _ | refine balloc ?_ _ | refine Below.drew ?_ | refine below_drewN ?_ _ | refine bset ?_ (by first | omega | (simp <;> omega)) _))⟩
  exfalso
  rcases h with h | h
  · exact g0 h
  · unfold coordB at h
    simp at h
    omega

set_option maxRecDepth 100000 in
set_option maxHeartbeats 1600000 in
theorem at_some (W H B a b c d e f t x y p q p1 p2 p3 p4 u v z : Int) (s : ByteArray) (w : World) (h0 : ¬ t = 0) (x0 : -8191 ≤ x) (x1 : x ≤ 8191) (y0 : -8191 ≤ y) (y1 : y ≤ 8191) (e0 : -1073741823 ≤ e) (e1 : e ≤ 1073741823) (f0 : -1073741823 ≤ f) (f1 : f ≤ 1073741823)
    (hp : x * 65536 - e = p) (hq : y * 65536 - f = q) (h1 : d * p = p1) (h2 : c * q = p2) (h3 : a * q = p3) (h4 : b * p = p4) (b10 : -1729311893777219919 ≤ p1) (b11 : p1 ≤ 1729311893777219919) (b20 : -1729311893777219919 ≤ p2) (b21 : p2 ≤ 1729311893777219919) (b30 : -1729311893777219919 ≤ p3) (b31 : p3 ≤ 1729311893777219919) (b40 : -1729311893777219919 ≤ p4) (b41 : p4 ≤ 1729311893777219919)
    (HD1 : Hid (∀ W', Calls Try.prog 102 #[.int .i64 (p1 - p2), .int .i64 t] W' fun ed w' => ed = .returned (.int .i64 u) ∧ W' = w'))
    (HD2 : Hid (∀ W', Calls Try.prog 102 #[.int .i64 (p3 - p4), .int .i64 t] W' fun ed w' => ed = .returned (.int .i64 v) ∧ W' = w'))
    (HS : Hid (∀ W', Calls Try.prog 57 #[.agg #[.int .i64 W, .int .i64 H, .int .i64 B, .string s], .int .i64 u, .int .i64 v] W' fun ed w' => ed = .returned (.int .i64 z) ∧ Below W'.heap.size W' w')) : Calls Try.prog 59 #[.agg #[.int .i64 W, .int .i64 H, .int .i64 B, .string s, .int .i64 a, .int .i64 b, .int .i64 c, .int .i64 d, .int .i64 e, .int .i64 f, .int .i64 t], .int .i64 x, .int .i64 y] w fun ed w' => ed = .returned (.int .i64 z) ∧ Below w.heap.size w w' := by
  have z0 : (t == 0) = false := by simp; exact h0
  have z1 : decide (x < -8191) = false := by simp; omega
  have z2 : decide (8191 < x) = false := by simp; omega
  have z3 : decide (y < -8191) = false := by simp; omega
  have z4 : decide (8191 < y) = false := by simp; omega
  go_enter Try.func59, Try.ntmps59
  go_wp2_with fail
  have Kv := (Blk.new w 92 #[.int .i64 W, .int .i64 H, .int .i64 B, .string s, .int .i64 a, .int .i64 b, .int .i64 c, .int .i64 d, .int .i64 e, .int .i64 f, .int .i64 t])
  have hbw : Below w.heap.size w (w.alloc (.cells #[.int .i64 W, .int .i64 H, .int .i64 B, .string s, .int .i64 a, .int .i64 b, .int .i64 c, .int .i64 d, .int .i64 e, .int .i64 f, .int .i64 t] 92)) := by (repeat' (first | exact Below.refl _ _ | exact Below.refl _ _ | refine balloc ?_ _ | refine Below.drew ?_ | refine below_drewN ?_ _ | refine bset ?_ (by first | omega | (simp <;> omega)) _))
  generalize hwx : (w.alloc (.cells #[.int .i64 W, .int .i64 H, .int .i64 B, .string s, .int .i64 a, .int .i64 b, .int .i64 c, .int .i64 d, .int .i64 e, .int .i64 f, .int .i64 t] 92)) = wa at *
  clear hwx
  have lKv := Kv.lt
  have cKv0 := Kv.cell 0
  have cKv1 := Kv.cell 1
  have cKv2 := Kv.cell 2
  have cKv3 := Kv.cell 3
  have cKv4 := Kv.cell 4
  have cKv5 := Kv.cell 5
  have cKv6 := Kv.cell 6
  have cKv7 := Kv.cell 7
  have cKv8 := Kv.cell 8
  have cKv9 := Kv.cell 9
  have cKv10 := Kv.cell 10
  simp only [List.getElem?_toArray, List.getElem?_cons_succ, List.getElem?_cons_zero] at cKv0 cKv1 cKv2 cKv3 cKv4 cKv5 cKv6 cKv7 cKv8 cKv9 cKv10
  have uKv0 : ∀ u : Up wa, u.val.cell? ⟨w.heap.size, 0, none⟩ = some (.int .i64 W) := fun u => (u.cell lKv).trans cKv0
  have uKv1 : ∀ u : Up wa, u.val.cell? ⟨w.heap.size, 1, none⟩ = some (.int .i64 H) := fun u => (u.cell lKv).trans cKv1
  have uKv2 : ∀ u : Up wa, u.val.cell? ⟨w.heap.size, 2, none⟩ = some (.int .i64 B) := fun u => (u.cell lKv).trans cKv2
  have uKv3 : ∀ u : Up wa, u.val.cell? ⟨w.heap.size, 3, none⟩ = some (.string s) := fun u => (u.cell lKv).trans cKv3
  have uKv4 : ∀ u : Up wa, u.val.cell? ⟨w.heap.size, 4, none⟩ = some (.int .i64 a) := fun u => (u.cell lKv).trans cKv4
  have uKv5 : ∀ u : Up wa, u.val.cell? ⟨w.heap.size, 5, none⟩ = some (.int .i64 b) := fun u => (u.cell lKv).trans cKv5
  have uKv6 : ∀ u : Up wa, u.val.cell? ⟨w.heap.size, 6, none⟩ = some (.int .i64 c) := fun u => (u.cell lKv).trans cKv6
  have uKv7 : ∀ u : Up wa, u.val.cell? ⟨w.heap.size, 7, none⟩ = some (.int .i64 d) := fun u => (u.cell lKv).trans cKv7
  have uKv8 : ∀ u : Up wa, u.val.cell? ⟨w.heap.size, 8, none⟩ = some (.int .i64 e) := fun u => (u.cell lKv).trans cKv8
  have uKv9 : ∀ u : Up wa, u.val.cell? ⟨w.heap.size, 9, none⟩ = some (.int .i64 f) := fun u => (u.cell lKv).trans cKv9
  have uKv10 : ∀ u : Up wa, u.val.cell? ⟨w.heap.size, 10, none⟩ = some (.int .i64 t) := fun u => (u.cell lKv).trans cKv10
  refine wp_region_up (by kernel_rfl) (by kernel_rfl) ?_
  repeat (go_big_quiet_step (fail))
  refine wpQuiet_nil ?_
  rintro _ ⟨uq, rfl⟩
  replace Kv := Kv.below uq.ok lKv
  replace hbw := btrans hbw uq.ok
  generalize hwx : uq.val = w1 at *
  clear hwx uq lKv cKv0 cKv1 cKv2 cKv3 cKv4 cKv5 cKv6 cKv7 cKv8 cKv9 cKv10 uKv0 uKv1 uKv2 uKv3 uKv4 uKv5 uKv6 uKv7 uKv8 uKv9 uKv10
  have lKv := Kv.lt
  have cKv0 := Kv.cell 0
  have cKv1 := Kv.cell 1
  have cKv2 := Kv.cell 2
  have cKv3 := Kv.cell 3
  have cKv4 := Kv.cell 4
  have cKv5 := Kv.cell 5
  have cKv6 := Kv.cell 6
  have cKv7 := Kv.cell 7
  have cKv8 := Kv.cell 8
  have cKv9 := Kv.cell 9
  have cKv10 := Kv.cell 10
  simp only [List.getElem?_toArray, List.getElem?_cons_succ, List.getElem?_cons_zero] at cKv0 cKv1 cKv2 cKv3 cKv4 cKv5 cKv6 cKv7 cKv8 cKv9 cKv10
  go_wp2_with fail
  have uKv0 : ∀ u : Up w1, u.val.cell? ⟨w.heap.size, 0, none⟩ = some (.int .i64 W) := fun u => (u.cell lKv).trans cKv0
  have uKv1 : ∀ u : Up w1, u.val.cell? ⟨w.heap.size, 1, none⟩ = some (.int .i64 H) := fun u => (u.cell lKv).trans cKv1
  have uKv2 : ∀ u : Up w1, u.val.cell? ⟨w.heap.size, 2, none⟩ = some (.int .i64 B) := fun u => (u.cell lKv).trans cKv2
  have uKv3 : ∀ u : Up w1, u.val.cell? ⟨w.heap.size, 3, none⟩ = some (.string s) := fun u => (u.cell lKv).trans cKv3
  have uKv4 : ∀ u : Up w1, u.val.cell? ⟨w.heap.size, 4, none⟩ = some (.int .i64 a) := fun u => (u.cell lKv).trans cKv4
  have uKv5 : ∀ u : Up w1, u.val.cell? ⟨w.heap.size, 5, none⟩ = some (.int .i64 b) := fun u => (u.cell lKv).trans cKv5
  have uKv6 : ∀ u : Up w1, u.val.cell? ⟨w.heap.size, 6, none⟩ = some (.int .i64 c) := fun u => (u.cell lKv).trans cKv6
  have uKv7 : ∀ u : Up w1, u.val.cell? ⟨w.heap.size, 7, none⟩ = some (.int .i64 d) := fun u => (u.cell lKv).trans cKv7
  have uKv8 : ∀ u : Up w1, u.val.cell? ⟨w.heap.size, 8, none⟩ = some (.int .i64 e) := fun u => (u.cell lKv).trans cKv8
  have uKv9 : ∀ u : Up w1, u.val.cell? ⟨w.heap.size, 9, none⟩ = some (.int .i64 f) := fun u => (u.cell lKv).trans cKv9
  have uKv10 : ∀ u : Up w1, u.val.cell? ⟨w.heap.size, 10, none⟩ = some (.int .i64 t) := fun u => (u.cell lKv).trans cKv10
  have HU1 := Lib.hid (fun u : Up w1 => up_same (u := u) (HD1.out u.val))
  have HU2 := Lib.hid (fun u : Up w1 => up_same (u := u) (HD2.out u.val))
  have HU3 := Lib.hid (fun u : Up w1 => up_of (u := u) (HS.out u.val))
  refine wp_region_up (by kernel_rfl) (by kernel_rfl) ?_
  repeat (go_big_quiet_step (fail))
  go_big_quiet_step (exact HU1.out _)
  repeat (go_big_quiet_step (fail))
  go_big_quiet_step (exact HU2.out _)
  repeat (go_big_quiet_step (fail))
  go_big_quiet_step (exact HU3.out _)
  repeat (go_big_quiet_step (fail))
  refine wpQuiet_nil ?_
  rintro _ ⟨uq, rfl⟩
  replace hbw := btrans hbw uq.ok
  generalize hwx : uq.val = w2 at *
  clear hwx uq Kv lKv cKv0 cKv1 cKv2 cKv3 cKv4 cKv5 cKv6 cKv7 cKv8 cKv9 cKv10 uKv0 uKv1 uKv2 uKv3 uKv4 uKv5 uKv6 uKv7 uKv8 uKv9 uKv10 HU1 HU2 HU3
  go_wp2_with fail
  go_ret
  exact ⟨rfl, hbw⟩

end Go.Proofs.Ytegpjjkbbdfggaa.im
