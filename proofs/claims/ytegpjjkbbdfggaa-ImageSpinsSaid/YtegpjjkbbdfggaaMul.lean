/-
  Layer 24 in the seat of the images: One, Mul (the text of mat/XMul).
-/
import Derived.Test.YtegpjjkbbdfggaaEq
import Derived.Test.YtegpjjkbbdfggaaUpTail
namespace Go.Proofs.Ytegpjjkbbdfggaa.mt
set_option linter.unusedVariables false
set_option linter.unusedSimpArgs false
open Go.RowKit bs

set_option maxRecDepth 100000 in
set_option maxHeartbeats 800000 in
theorem one_any (w : World) : Calls Try.prog 84 #[] w fun e w' => e = .returned (.agg #[.int .i64 65536, .int .i64 0, .int .i64 0, .int .i64 65536, .int .i64 0, .int .i64 0]) ∧ Below w.heap.size w w' := by
  have K2 := Blk.new w 25 #[.int .i64 0, .int .i64 0, .int .i64 0, .int .i64 0, .int .i64 0, .int .i64 0]
  have q0 := K2.cell 0
  have f0 := K2.frozen 0
  have q1 := K2.cell 1
  have f1 := K2.frozen 1
  have q2 := K2.cell 2
  have f2 := K2.frozen 2
  have q3 := K2.cell 3
  have f3 := K2.frozen 3
  have q4 := K2.cell 4
  have f4 := K2.frozen 4
  have q5 := K2.cell 5
  have f5 := K2.frozen 5
  simp only [List.getElem?_toArray, List.getElem?_cons_succ, List.getElem?_cons_zero] at q0 q1 q2 q3 q4 q5
  have HK := Lib.hid K2
  clear K2
  go_enter Try.func84, Try.ntmps84
  go_wp2_with fail
  refine ret_struct1 (g := w.heap.size) (t := 25) (cs := #[.int .i64 65536, .int .i64 0, .int .i64 0, .int .i64 65536, .int .i64 0, .int .i64 0]) rfl rfl ?_ Try.underlying25 rfl rfl rfl ?_
  · exact Blk.new _ _ _
  · exact ⟨rfl, by (repeat' (first | refine bset ?_ (by first | omega | (simp <;> omega)) _ | refine balloc ?_ _ | refine Below.drew ?_ | refine below_drewN ?_ _ | exact Below.refl _ _ | exact Below.refl _ _))⟩

/-- a b + c d, rounded to a fix -/
def sum16 (a b c d : Int) : Int := even (a * b + c * d) 65536 32768
set_option maxRecDepth 100000 in
theorem sum16_bd {a b c d : Int} (ha : -1073741823 ≤ a ∧ a ≤ 1073741823) (hb : -1073741823 ≤ b ∧ b ≤ 1073741823) (hc : -1073741823 ≤ c ∧ c ≤ 1073741823) (hd : -1073741823 ≤ d ∧ d ≤ 1073741823) : -35184372088832 ≤ sum16 a b c d ∧ sum16 a b c d ≤ 35184372088832 := by
  have h1 := fix_mul ha hb
  have h2 := fix_mul hc hd
  have h3 := even_bd (a * b + c * d) 65536 32768 (by omega)
  unfold sum16
  omega
set_option maxRecDepth 100000 in
set_option maxHeartbeats 800000 in
theorem sum_any (a b c d : Int) (w : World) (ha : -1073741823 ≤ a ∧ a ≤ 1073741823) (hb : -1073741823 ≤ b ∧ b ≤ 1073741823) (hc : -1073741823 ≤ c ∧ c ≤ 1073741823) (hd : -1073741823 ≤ d ∧ d ≤ 1073741823) : Calls Try.prog 85 #[.int .i64 a, .int .i64 b, .int .i64 c, .int .i64 d] w fun e w' => e = .returned (.int .i64 (sum16 a b c d)) ∧ w = w' := by
  have h1 := fix_mul ha hb
  have h2 := fix_mul hc hd
  have HR := Lib.hid (fun W => round16 (a * b + c * d) W (by omega) (by omega))
  unfold sum16
  generalize even (a * b + c * d) 65536 32768 = r at *
  generalize hx : a * b = x at *
  generalize hy : c * d = y at *
  obtain ⟨h10, h11⟩ := h1
  obtain ⟨h20, h21⟩ := h2
  clear ha hb hc hd
  go_enter Try.func85, Try.ntmps85
  go_wp2_with fail
  refine (HR.out _).mono ?_
  rintro e w' ⟨rfl, rfl⟩
  go_wp2_with fail
  go_ret
  exact ⟨rfl, rfl⟩

/-- what is said of a reckoning: 1 if it may not be tried, 2 if its result may not be -/
def erE (g ok : Bool) : Int := if g = true then okE ok else 1

/-- is a product a matrix that may be -/
def mulB (A B C D E F a b c d e f : Int) : Bool := mayB (sum16 A a B c) (sum16 A b B d) (sum16 C a D c) (sum16 C b D d) ((sum16 E a F c) + e) ((sum16 E b F d) + f)

set_option maxRecDepth 100000 in
set_option maxHeartbeats 3200000 in
theorem mul_no1 (A B C D E F a b c d e f : Int) (w : World) (h1 : mayB A B C D E F = false) : Calls Try.prog 44 #[.agg #[.int .i64 A, .int .i64 B, .int .i64 C, .int .i64 D, .int .i64 E, .int .i64 F], .agg #[.int .i64 a, .int .i64 b, .int .i64 c, .int .i64 d, .int .i64 e, .int .i64 f]] w fun ed w' => ed = .returned (.tuple #[.agg #[.int .i64 0, .int .i64 0, .int .i64 0, .int .i64 0, .int .i64 0, .int .i64 0], .int .i64 1]) ∧ Below w.heap.size w w' := by
  have HA := Lib.hid (fun W => show Calls Try.prog 66 #[.agg #[.int .i64 A, .int .i64 B, .int .i64 C, .int .i64 D, .int .i64 E, .int .i64 F]] W fun ed w' => ed = .returned (.bool false) ∧ Below W.heap.size W w' by have := may_any A B C D E F W; rw [h1] at this; exact this)
  have K1 := ((Blk.new w 25 #[.int .i64 A, .int .i64 B, .int .i64 C, .int .i64 D, .int .i64 E, .int .i64 F]).alloc (.cells #[.int .i64 a, .int .i64 b, .int .i64 c, .int .i64 d, .int .i64 e, .int .i64 f] 25)).alloc (.cells #[.int .i64 0, .int .i64 0, .int .i64 0, .int .i64 0, .int .i64 0, .int .i64 0] 25)
  have K2 := (Blk.new (w.alloc (.cells #[.int .i64 A, .int .i64 B, .int .i64 C, .int .i64 D, .int .i64 E, .int .i64 F] 25)) 25 #[.int .i64 a, .int .i64 b, .int .i64 c, .int .i64 d, .int .i64 e, .int .i64 f]).alloc (.cells #[.int .i64 0, .int .i64 0, .int .i64 0, .int .i64 0, .int .i64 0, .int .i64 0] 25)
  have K3 := Blk.new ((w.alloc (.cells #[.int .i64 A, .int .i64 B, .int .i64 C, .int .i64 D, .int .i64 E, .int .i64 F] 25)).alloc (.cells #[.int .i64 a, .int .i64 b, .int .i64 c, .int .i64 d, .int .i64 e, .int .i64 f] 25)) 25 #[.int .i64 0, .int .i64 0, .int .i64 0, .int .i64 0, .int .i64 0, .int .i64 0]
  have s1 : ∀ (u : World) (o : Obj), (u.alloc o).heap.size = u.heap.size + 1 := fun u o => by simp
  simp only [s1] at K2 K3
  clear s1
  go_enter Try.func44, Try.ntmps44
  go_wp2_with fail
  refine (HA.out _).mono ?_
  rintro e_ w1 ⟨rfl, hb1⟩
  replace K1 := K1.below hb1 (by simp; omega)
  replace K2 := K2.below hb1 (by first | (simp; done) | (simp; omega))
  replace K3 := K3.below hb1 (by first | (simp; done) | (simp; omega))
  have hbw : Below w.heap.size w w1 := btrans (by (repeat' (first | exact Below.refl _ _ | exact Below.refl _ _ | refine balloc ?_ _ | refine Below.drew ?_ | refine below_drewN ?_ _ | refine bset ?_ (by first | omega | (simp <;> omega)) _))) hb1
  have p0 := K1.cell 0
  have p1 := K1.cell 1
  have p2 := K1.cell 2
  have p3 := K1.cell 3
  have p4 := K1.cell 4
  have p5 := K1.cell 5
  have q0 := K2.cell 0
  have q1 := K2.cell 1
  have q2 := K2.cell 2
  have q3 := K2.cell 3
  have q4 := K2.cell 4
  have q5 := K2.cell 5
  have r0 := K3.cell 0
  have r1 := K3.cell 1
  have r2 := K3.cell 2
  have r3 := K3.cell 3
  have r4 := K3.cell 4
  have r5 := K3.cell 5
  have zr0 := K3.frozen 0
  have zr1 := K3.frozen 1
  have zr2 := K3.frozen 2
  have zr3 := K3.frozen 3
  have zr4 := K3.frozen 4
  have zr5 := K3.frozen 5
  simp only [List.getElem?_toArray, List.getElem?_cons_succ, List.getElem?_cons_zero] at p0 p1 p2 p3 p4 p5 q0 q1 q2 q3 q4 q5 r0 r1 r2 r3 r4 r5
  have HK := Lib.hid K3
  have HBW := Lib.hid hbw
  clear K1 K2 K3 hb1 hbw
  go_wp2_with fail
  have K := (((((HK.out.set_ 0 (.int .i64 0)).set_ 1 (.int .i64 0)).set_ 2 (.int .i64 0)).set_ 3 (.int .i64 0)).set_ 4 (.int .i64 0)).set_ 5 (.int .i64 0)
  refine ret_struct2 (g := w.heap.size + 2) (t := 25) (cs := #[.int .i64 0, .int .i64 0, .int .i64 0, .int .i64 0, .int .i64 0, .int .i64 0]) rfl rfl ?_ Try.underlying25 rfl rfl rfl ?_
  · exact K
  · exact ⟨rfl, by (repeat' (first | refine bset ?_ (by first | omega | (simp <;> omega)) _ | refine balloc ?_ _ | refine Below.drew ?_ | refine below_drewN ?_ _ | exact HBW.out | exact Below.refl _ _))⟩

set_option maxRecDepth 100000 in
set_option maxHeartbeats 3200000 in
theorem mul_no2 (A B C D E F a b c d e f : Int) (w : World) (h1 : mayB A B C D E F = true) (h2 : mayB a b c d e f = false) : Calls Try.prog 44 #[.agg #[.int .i64 A, .int .i64 B, .int .i64 C, .int .i64 D, .int .i64 E, .int .i64 F], .agg #[.int .i64 a, .int .i64 b, .int .i64 c, .int .i64 d, .int .i64 e, .int .i64 f]] w fun ed w' => ed = .returned (.tuple #[.agg #[.int .i64 0, .int .i64 0, .int .i64 0, .int .i64 0, .int .i64 0, .int .i64 0], .int .i64 1]) ∧ Below w.heap.size w w' := by
  have HA := Lib.hid (fun W => show Calls Try.prog 66 #[.agg #[.int .i64 A, .int .i64 B, .int .i64 C, .int .i64 D, .int .i64 E, .int .i64 F]] W fun ed w' => ed = .returned (.bool true) ∧ Below W.heap.size W w' by have := may_any A B C D E F W; rw [h1] at this; exact this)
  have HB := Lib.hid (fun W => show Calls Try.prog 66 #[.agg #[.int .i64 a, .int .i64 b, .int .i64 c, .int .i64 d, .int .i64 e, .int .i64 f]] W fun ed w' => ed = .returned (.bool false) ∧ Below W.heap.size W w' by have := may_any a b c d e f W; rw [h2] at this; exact this)
  have K1 := ((Blk.new w 25 #[.int .i64 A, .int .i64 B, .int .i64 C, .int .i64 D, .int .i64 E, .int .i64 F]).alloc (.cells #[.int .i64 a, .int .i64 b, .int .i64 c, .int .i64 d, .int .i64 e, .int .i64 f] 25)).alloc (.cells #[.int .i64 0, .int .i64 0, .int .i64 0, .int .i64 0, .int .i64 0, .int .i64 0] 25)
  have K2 := (Blk.new (w.alloc (.cells #[.int .i64 A, .int .i64 B, .int .i64 C, .int .i64 D, .int .i64 E, .int .i64 F] 25)) 25 #[.int .i64 a, .int .i64 b, .int .i64 c, .int .i64 d, .int .i64 e, .int .i64 f]).alloc (.cells #[.int .i64 0, .int .i64 0, .int .i64 0, .int .i64 0, .int .i64 0, .int .i64 0] 25)
  have K3 := Blk.new ((w.alloc (.cells #[.int .i64 A, .int .i64 B, .int .i64 C, .int .i64 D, .int .i64 E, .int .i64 F] 25)).alloc (.cells #[.int .i64 a, .int .i64 b, .int .i64 c, .int .i64 d, .int .i64 e, .int .i64 f] 25)) 25 #[.int .i64 0, .int .i64 0, .int .i64 0, .int .i64 0, .int .i64 0, .int .i64 0]
  have s1 : ∀ (u : World) (o : Obj), (u.alloc o).heap.size = u.heap.size + 1 := fun u o => by simp
  simp only [s1] at K2 K3
  clear s1
  go_enter Try.func44, Try.ntmps44
  go_wp2_with fail
  refine (HA.out _).mono ?_
  rintro e_ w1 ⟨rfl, hb1⟩
  replace K1 := K1.below hb1 (by simp; omega)
  replace K2 := K2.below hb1 (by first | (simp; done) | (simp; omega))
  replace K3 := K3.below hb1 (by first | (simp; done) | (simp; omega))
  have hbw : Below w.heap.size w w1 := btrans (by (repeat' (first | exact Below.refl _ _ | exact Below.refl _ _ | refine balloc ?_ _ | refine Below.drew ?_ | refine below_drewN ?_ _ | refine bset ?_ (by first | omega | (simp <;> omega)) _))) hb1
  have p0 := K1.cell 0
  have p1 := K1.cell 1
  have p2 := K1.cell 2
  have p3 := K1.cell 3
  have p4 := K1.cell 4
  have p5 := K1.cell 5
  have q0 := K2.cell 0
  have q1 := K2.cell 1
  have q2 := K2.cell 2
  have q3 := K2.cell 3
  have q4 := K2.cell 4
  have q5 := K2.cell 5
  have r0 := K3.cell 0
  have r1 := K3.cell 1
  have r2 := K3.cell 2
  have r3 := K3.cell 3
  have r4 := K3.cell 4
  have r5 := K3.cell 5
  have zr0 := K3.frozen 0
  have zr1 := K3.frozen 1
  have zr2 := K3.frozen 2
  have zr3 := K3.frozen 3
  have zr4 := K3.frozen 4
  have zr5 := K3.frozen 5
  simp only [List.getElem?_toArray, List.getElem?_cons_succ, List.getElem?_cons_zero] at p0 p1 p2 p3 p4 p5 q0 q1 q2 q3 q4 q5 r0 r1 r2 r3 r4 r5
  have l1 := K1.lt
  have l2 := K2.lt
  have l3 := K3.lt
  clear hb1
  go_wp2_with fail
  refine (HB.out _).mono ?_
  rintro e_ w2 ⟨rfl, hb1⟩
  replace K1 := K1.below hb1 l1
  replace K2 := K2.below hb1 l2
  replace K3 := K3.below hb1 l3
  replace hbw := btrans hbw hb1
  clear p0 p1 p2 p3 p4 p5 q0 q1 q2 q3 q4 q5 r0 r1 r2 r3 r4 r5 zr0 zr1 zr2 zr3 zr4 zr5 l1 l2 l3
  have p0 := K1.cell 0
  have p1 := K1.cell 1
  have p2 := K1.cell 2
  have p3 := K1.cell 3
  have p4 := K1.cell 4
  have p5 := K1.cell 5
  have q0 := K2.cell 0
  have q1 := K2.cell 1
  have q2 := K2.cell 2
  have q3 := K2.cell 3
  have q4 := K2.cell 4
  have q5 := K2.cell 5
  have r0 := K3.cell 0
  have r1 := K3.cell 1
  have r2 := K3.cell 2
  have r3 := K3.cell 3
  have r4 := K3.cell 4
  have r5 := K3.cell 5
  have zr0 := K3.frozen 0
  have zr1 := K3.frozen 1
  have zr2 := K3.frozen 2
  have zr3 := K3.frozen 3
  have zr4 := K3.frozen 4
  have zr5 := K3.frozen 5
  simp only [List.getElem?_toArray, List.getElem?_cons_succ, List.getElem?_cons_zero] at p0 p1 p2 p3 p4 p5 q0 q1 q2 q3 q4 q5 r0 r1 r2 r3 r4 r5
  have HK := Lib.hid K3
  have HBW := Lib.hid hbw
  clear K1 K2 K3 hb1 hbw
  go_wp2_with fail
  have K := (((((HK.out.set_ 0 (.int .i64 0)).set_ 1 (.int .i64 0)).set_ 2 (.int .i64 0)).set_ 3 (.int .i64 0)).set_ 4 (.int .i64 0)).set_ 5 (.int .i64 0)
  refine ret_struct2 (g := w.heap.size + 2) (t := 25) (cs := #[.int .i64 0, .int .i64 0, .int .i64 0, .int .i64 0, .int .i64 0, .int .i64 0]) rfl rfl ?_ Try.underlying25 rfl rfl rfl ?_
  · exact K
  · exact ⟨rfl, by (repeat' (first | refine bset ?_ (by first | omega | (simp <;> omega)) _ | refine balloc ?_ _ | refine Below.drew ?_ | refine below_drewN ?_ _ | exact HBW.out | exact Below.refl _ _))⟩

end Go.Proofs.Ytegpjjkbbdfggaa.mt
