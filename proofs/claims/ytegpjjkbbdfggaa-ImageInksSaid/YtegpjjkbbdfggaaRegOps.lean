/-
  Regions: both (Less, Join), Rect, All, Band. (PRUNE)
-/
import Derived.Test.YtegpjjkbbdfggaaRegMade
namespace Go.Proofs.Ytegpjjkbbdfggaa.rg
set_option linter.unusedVariables false
set_option linter.unusedSimpArgs false
open Go.RowKit bs sp ik

theorem norm_two (h : Bool → Bool → Bool) (W : Nat) (R S : Nat → Nat → Bool) (j : Nat) (hW : W ≤ 64) : norm (two h (rowsOf W R j) (rowsOf W S j)) W = rowsOf W (fun j i => h (R j i) (S j i)) j := by
  unfold norm two rowsOf
  rw [show (max 0 (min (W : Int) 64)).toNat = W by omega]
  refine rl_ext W fun i hi => ?_
  rw [inRuns_rl, inRuns_rl, inRuns_rl]
  simp [hi, show i < 64 by omega]
theorem norm_row (W : Nat) (R : Nat → Nat → Bool) (j : Nat) (hW : W ≤ 64) : norm (rowsOf W R j) W = rowsOf W R j := by
  unfold norm rowsOf
  rw [show (max 0 (min (W : Int) 64)).toNat = W by omega]
  exact rl_again _ _
theorem two_len (h : Bool → Bool → Bool) (l m : List (Int × Int)) : (two h l m).length ≤ 64 := by unfold two; exact (rl_len _ 64).1
theorem mkfunc (fn : Fn) (first cap : Array Value) (w : World) : (Instr.makeFunc fn first cap).run Try.prog w = .ok (.func fn first cap) w := rfl
theorem keepB {W0 a w' : World} {b b2 b3 : Nat} {o2 o3 : Nat} {v v2 v3 v4 v5 : Value} {b4 b5 o4 o5 : Nat} (hb : Below a.heap.size a w') (h : Below W0.heap.size W0 a ∧ a.cell? ⟨b, 0, none⟩ = some v ∧ a.cell? ⟨b2, o2, none⟩ = some v2 ∧ a.cell? ⟨b3, o3, none⟩ = some v3 ∧ a.cell? ⟨b4, o4, none⟩ = some v4 ∧ a.cell? ⟨b5, o5, none⟩ = some v5) :
    Below W0.heap.size W0 w' ∧ w'.cell? ⟨b, 0, none⟩ = some v ∧ w'.cell? ⟨b2, o2, none⟩ = some v2 ∧ w'.cell? ⟨b3, o3, none⟩ = some v3 ∧ w'.cell? ⟨b4, o4, none⟩ = some v4 ∧ w'.cell? ⟨b5, o5, none⟩ = some v5 := by
  obtain ⟨h1, h2, h3, h4, h5, h6⟩ := h
  exact ⟨btrans h1 hb, (hb.cell (p := ⟨b, 0, none⟩) (block_lt_of_cell h2)).trans h2, (hb.cell (p := ⟨b2, o2, none⟩) (block_lt_of_cell h3)).trans h3, (hb.cell (p := ⟨b3, o3, none⟩) (block_lt_of_cell h4)).trans h4, (hb.cell (p := ⟨b4, o4, none⟩) (block_lt_of_cell h5)).trans h5, (hb.cell (p := ⟨b5, o5, none⟩) (block_lt_of_cell h6)).trans h6⟩

/-- what an operation on two lists of runs keeps: its contract -/
def TwoC (f : FuncId) (h : Bool → Bool → Bool) : Prop := ∀ (A B : Option Addr) (n c m d : Nat) (l k : List (Int × Int)) (w : World), Runs w A n c l → Runs w B m d k → n ≤ 9223372036854775807 → m ≤ 9223372036854775807 →
  Calls Try.prog f #[.slice A n c, .slice B m d] w fun e w' => ∃ A' c', e = .returned (.slice A' (two h l k).length c') ∧ Runs w' A' (two h l k).length c' (two h l k) ∧ Below w.heap.size w w'

set_option maxRecDepth 100000 in
set_option maxHeartbeats 1600000 in
theorem both1_any (f : FuncId) (h : Bool → Bool → Bool) (hcf : ∀ (args : Array Value) (W : World), (callFunc f args).run Try.prog W = .ok (.enter f args) W) (hf : TwoC f h)
    (W H hB aB bB c d j : Nat) (A B : Option Addr) (L M : Nat → List (Int × Int)) (w : World) (hH : H ≤ 64) (hj : j < H)
    (Kh : Blk w hB 131 #[.func (.func f) #[] #[]]) (Ka : Blk w aB 51 #[.int .i64 (W : Int), .int .i64 (H : Int), .slice A H c]) (Kb : Blk w bB 51 #[.int .i64 (W : Int), .int .i64 (H : Int), .slice B H d])
    (ha : Rows w A H c L) (hb : Rows w B H d M) :
    Calls Try.prog 120 #[.int .i64 (j : Int), .pointer (some ⟨hB, 0, none⟩), .pointer (some ⟨aB, 0, none⟩), .pointer (some ⟨bB, 0, none⟩)] w fun e w' => ∃ A n c, e = .returned (.slice A n c) ∧ n ≤ 9223372036854775807 ∧ Runs w' A n c (two h (L j) (M j)) ∧ Below w.heap.size w w' := by
  obtain ⟨a1, ha⟩ := ha
  obtain ⟨x, o, rfl, hx, ha⟩ := ha (by omega)
  obtain ⟨l1, A1, c1, q1, r1⟩ := ha j hj
  obtain ⟨b1, hb⟩ := hb
  obtain ⟨y, p, rfl, hy, hb⟩ := hb (by omega)
  obtain ⟨l2, A2, c2, q2, r2⟩ := hb j hj
  have d2 : (0 : Int) ≤ (j : Int) ∧ (j : Int) < (H : Int) := by omega
  obtain ⟨d3, d4⟩ := d2
  have e1 := Kh.cell 0
  have e2 := Ka.cell 2
  have e3 := Kb.cell 2
  simp only [List.getElem?_toArray, List.getElem?_cons_succ, List.getElem?_cons_zero] at e1 e2 e3
  have hlen := two_len h (L j) (M j)
  have HF := Lib.hid (fun W' (hW' : Below w.heap.size w W') => hf A1 A2 _ c1 _ c2 (L j) (M j) W' (r1.below hW') (r2.below hW') l1 l2)
  generalize (L j).length = n1 at *
  generalize (M j).length = n2 at *
  have HS0 : (fun wX : World => Below w.heap.size w wX ∧ wX.cell? ⟨hB, 0, none⟩ = some (.func (.func f) #[] #[]) ∧ wX.cell? ⟨aB, 2, none⟩ = some (.slice (some ⟨x, o, none⟩) H c) ∧ wX.cell? ⟨bB, 2, none⟩ = some (.slice (some ⟨y, p, none⟩) H d) ∧ wX.cell? ⟨x, o + j, none⟩ = some (.slice A1 n1 c1) ∧ wX.cell? ⟨y, p + j, none⟩ = some (.slice A2 n2 c2)) w.drew := ⟨Below.drew (Below.refl _ _), e1, e2, e3, q1, q2⟩
  clear ha hb a1 b1 Kh Ka Kb r1 r2 hf
  go_enter Try.func120, Try.ntmps120
  go_wp2_with fail
  clear e1 e2 e3 q1 q2
  go_region_held3 (fun wX : World => Below w.heap.size w wX ∧ wX.cell? ⟨hB, 0, none⟩ = some (.func (.func f) #[] #[]) ∧ wX.cell? ⟨aB, 2, none⟩ = some (.slice (some ⟨x, o, none⟩) H c) ∧ wX.cell? ⟨bB, 2, none⟩ = some (.slice (some ⟨y, p, none⟩) H d) ∧ wX.cell? ⟨x, o + j, none⟩ = some (.slice A1 n1 c1) ∧ wX.cell? ⟨y, p + j, none⟩ = some (.slice A2 n2 c2)) (first | exact HS0 | exact keepB (by assumption) (by assumption)) (first
    | (go_simp; refine (HF.out _ (And.left (by assumption))).mono ?_; rintro e_ wa ⟨A3, c3, rfl, hr3, hb3⟩))
  go_wp2_with fail
  go_ret
  exact ⟨_, _, _, rfl, by omega, hr3, btrans (Below.drew (Below.refl _ _)) hb3⟩

theorem rowsOf_mayAll (W H : Nat) (R : Nat → Nat → Bool) (hW : W ≤ 64) : ∀ j, j < H → mayB (rowsOf W R j) W = true := fun j _ => rowsOf_mayB W R j hW
theorem zreg (w : World) : Blk (w.alloc (.cells #[.int .i64 0, .int .i64 0, .slice none 0 0] 51)) w.heap.size 51 #[.int .i64 0, .int .i64 0, .slice none 0 0] := Blk.new _ _ _
/-- rows that a store into a region's empty box leaves alone -/
theorem Rows.setBox {w : World} {r : Nat} {t : TypeId} {g H : Nat} {W : Nat} {R : Nat → Nat → Bool} (h : Rows w (some ⟨g, 0, none⟩) H H (rowsOf W R)) (hne : g ≠ r) (K : Blk w r t #[.int .i64 0, .int .i64 0, .slice none 0 0]) (u0 u1 u2 : Value) :
    Rows (((w.setCell ⟨r, 0, none⟩ u0).setCell ⟨r, 1, none⟩ u1).setCell ⟨r, 2, none⟩ u2) (some ⟨g, 0, none⟩) H H (rowsOf W R) := by
  obtain ⟨h1, h2⟩ := h
  refine ⟨h1, fun hn => ?_⟩
  obtain ⟨b, o, e, hlt, hc⟩ := h2 hn
  cases e
  refine ⟨g, 0, rfl, by simpa using hlt, fun j hj => ?_⟩
  obtain ⟨hl, Aj, cj, q1, q2⟩ := hc j hj
  have far : ∀ (v : World) (o1 o2 : Nat) (u : Value), (v.setCell ⟨r, o1, none⟩ u).cell? ⟨g, o2, none⟩ = v.cell? ⟨g, o2, none⟩ := fun v o1 o2 u => World.cell?_setCell_other v _ _ u (fun e => hne (Addr.mk.inj e).1.symm)
  exact ⟨hl, Aj, cj, by rw [far, far, far]; exact q1, Runs.setBox q2 (fun s hs => (may_each (rowsOf_may W R j) s hs).2.1) K _ _ _⟩

set_option maxRecDepth 100000 in
set_option maxHeartbeats 3200000 in
theorem rboth_any (f : FuncId) (h : Bool → Bool → Bool) (hcf : ∀ (args : Array Value) (W : World), (callFunc f args).run Try.prog W = .ok (.enter f args) W) (hf : TwoC f h)
    (W H c d : Nat) (A B : Option Addr) (R S : Nat → Nat → Bool) (w : World) (hW : 1 ≤ W ∧ W ≤ 64) (hH : 1 ≤ H ∧ H ≤ 64) (ha : Rows w A H c (rowsOf W R)) (hb : Rows w B H d (rowsOf W S)) :
    Calls Try.prog 97 #[.agg #[.int .i64 (W : Int), .int .i64 (H : Int), .slice A H c], .agg #[.int .i64 (W : Int), .int .i64 (H : Int), .slice B H d], .func (.func f) #[] #[]] w fun e w' =>
      ∃ g, w.heap.size ≤ g ∧ e = .returned (.tuple #[.agg #[.int .i64 (W : Int), .int .i64 (H : Int), .slice (some ⟨g, 0, none⟩) H H], .int .i64 0]) ∧ Rows w' (some ⟨g, 0, none⟩) H H (rowsOf W fun j i => h (R j i) (S j i)) ∧ Below w.heap.size w w' := by
  have hmf := mkfunc
  have HM1 := Lib.hid (fun W' (hW' : Below w.heap.size w W') => rmay_yes W H c A _ W' hW hH (rowsOf_mayAll W H R hW.2) (ha.below hW'))
  have HM2 := Lib.hid (fun W' (hW' : Below w.heap.size w W') => rmay_yes W H d B _ W' hW hH (rowsOf_mayAll W H S hW.2) (hb.below hW'))
  have HA := Lib.hid ha
  have HB := Lib.hid hb
  have HW := Lib.hid hW
  have HH := Lib.hid hH
  have s1 : ∀ (u : World) (o : Obj), (u.alloc o).heap.size = u.heap.size + 1 := fun u o => by simp
  have Ka := (((Blk.new w 51 #[.int .i64 (W : Int), .int .i64 (H : Int), .slice A H c]).alloc (.cells #[.int .i64 (W : Int), .int .i64 (H : Int), .slice B H d] 51)).alloc (.cells #[.func (.func f) #[] #[]] 131)).alloc (.cells #[.int .i64 0, .int .i64 0, .slice none 0 0] 51)
  have Kb := ((Blk.new (w.alloc (.cells #[.int .i64 (W : Int), .int .i64 (H : Int), .slice A H c] 51)) 51 #[.int .i64 (W : Int), .int .i64 (H : Int), .slice B H d]).alloc (.cells #[.func (.func f) #[] #[]] 131)).alloc (.cells #[.int .i64 0, .int .i64 0, .slice none 0 0] 51)
  have Kh := (Blk.new ((w.alloc (.cells #[.int .i64 (W : Int), .int .i64 (H : Int), .slice A H c] 51)).alloc (.cells #[.int .i64 (W : Int), .int .i64 (H : Int), .slice B H d] 51)) 131 #[.func (.func f) #[] #[]]).alloc (.cells #[.int .i64 0, .int .i64 0, .slice none 0 0] 51)
  have Kr := zreg (((w.alloc (.cells #[.int .i64 (W : Int), .int .i64 (H : Int), .slice A H c] 51)).alloc (.cells #[.int .i64 (W : Int), .int .i64 (H : Int), .slice B H d] 51)).alloc (.cells #[.func (.func f) #[] #[]] 131))
  simp only [s1] at Kb Kh Kr
  clear s1 ha hb hW hH
  go_enter Try.func97, Try.ntmps97
  go_wp2_with fail
  refine (HM1.out _ (by (repeat' (first | exact Below.refl _ _ | exact Below.refl _ _ | refine balloc ?_ _ | refine Below.drew ?_ | refine below_drewN ?_ _ | refine bset ?_ (by first | omega | (simp <;> omega)) _)))).mono ?_
  rintro e_ w1 ⟨rfl, hb1⟩
  have hbw : Below w.heap.size w w1 := btrans (by (repeat' (first | exact Below.refl _ _ | exact Below.refl _ _ | refine balloc ?_ _ | refine Below.drew ?_ | refine below_drewN ?_ _ | refine bset ?_ (by first | omega | (simp <;> omega)) _))) hb1
  replace Ka := Ka.below hb1 (by first | (simp; done) | (simp; omega))
  replace Kb := Kb.below hb1 (by first | (simp; done) | (simp; omega))
  replace Kh := Kh.below hb1 (by first | (simp; done) | (simp; omega))
  replace Kr := Kr.below hb1 (by simp)
  have la := Ka.lt
  have lb := Kb.lt
  have lh := Kh.lt
  have lr := Kr.lt
  have a0 := Ka.cell 0
  have a1 := Ka.cell 1
  have a2 := Ka.cell 2
  have b0 := Kb.cell 0
  have b1 := Kb.cell 1
  have b2 := Kb.cell 2
  simp only [List.getElem?_toArray, List.getElem?_cons_succ, List.getElem?_cons_zero] at a0 a1 a2 b0 b1 b2
  have HKa := Lib.hid Ka
  have HKb := Lib.hid Kb
  have HKh := Lib.hid Kh
  have HKr := Lib.hid Kr
  have HBW := Lib.hid hbw
  clear Ka Kb Kh Kr hbw hb1 HM1
  go_wp2_with fail
  refine (HM2.out _ HBW.out).mono ?_
  rintro e_ w2 ⟨rfl, hb1⟩
  have hbw := btrans HBW.out hb1
  have Ka := HKa.out.below hb1 la
  have Kb := HKb.out.below hb1 lb
  have Kh := HKh.out.below hb1 lh
  have Kr := HKr.out.below hb1 lr
  clear HKa HKb HKh HKr HBW hb1 a0 a1 a2 b0 b1 b2 la lb lh lr HM2
  have a0 := Ka.cell 0
  have a1 := Ka.cell 1
  have b0 := Kb.cell 0
  have b1 := Kb.cell 1
  simp only [List.getElem?_toArray, List.getElem?_cons_succ, List.getElem?_cons_zero] at a0 a1 b0 b1
  have lr := Kr.lt
  have HKr := Lib.hid Kr
  have HBW := Lib.hid hbw
  have HMD := Lib.hid (fun hrow => made_any W H 120 #[.pointer (some ⟨w.heap.size + 1 + 1, 0, none⟩), .pointer (some ⟨w.heap.size, 0, none⟩), .pointer (some ⟨w.heap.size + 1, 0, none⟩)] (fun j => two h (rowsOf W R j) (rowsOf W S j)) w2 HW.out HH.out (fun args W => by kernel_rfl) hrow)
  have HROW := Lib.hid (fun (j : Nat) (W' : World) (hj : j < H) (hW' : Below w2.heap.size w2 W') => both1_any f h hcf hf W H (w.heap.size + 1 + 1) w.heap.size (w.heap.size + 1) c d j A B (rowsOf W R) (rowsOf W S) W' HH.out.2 hj (Kh.below hW' Kh.lt) (Ka.below hW' Ka.lt) (Kb.below hW' Kb.lt) (HA.out.below (btrans hbw hW')) (HB.out.below (btrans hbw hW')))
  clear Ka Kb Kh Kr hbw hf
  go_wp2_with fail
  refine (HMD.out HROW.out).mono ?_
  rintro e_ w3 ⟨g, hg, rfl, hr3, hb1⟩
  have hsz := HBW.out.size
  have hr4 : Rows w3 (some ⟨g, 0, none⟩) H H (rowsOf W fun j i => h (R j i) (S j i)) := hr3.ext fun j _ => norm_two h W R S j HW.out.2
  have Kr := HKr.out.below hb1 lr
  have hbw := btrans HBW.out hb1
  clear hr3 hb1 HKr HBW HMD HROW
  have g0 := Kr.cell 0
  have g1 := Kr.cell 1
  have g2 := Kr.cell 2
  have f0 := Kr.frozen 0
  have f1 := Kr.frozen 1
  have f2 := Kr.frozen 2
  simp only [List.getElem?_toArray, List.getElem?_cons_succ, List.getElem?_cons_zero] at g0 g1 g2
  have HKr := Lib.hid Kr
  have HBW := Lib.hid hbw
  have HR4 := Lib.hid hr4
  clear Kr hbw hr4
  go_wp2_with fail
  have K := ((HKr.out.set_ 0 (.int .i64 (W : Int))).set_ 1 (.int .i64 (H : Int))).set_ 2 (.slice (some ⟨g, 0, none⟩) H H)
  refine ret_struct2 (g := w.heap.size + 1 + 1 + 1) (t := 51) (cs := #[.int .i64 (W : Int), .int .i64 (H : Int), .slice (some ⟨g, 0, none⟩) H H]) rfl rfl ?_ Try.underlying51 rfl rfl rfl ?_
  · exact K
  · exact ⟨g, by omega, rfl, Rows.setBox HR4.out (by omega) HKr.out _ _ _, by (repeat' (first | refine bset ?_ (by first | omega | (simp <;> omega)) _ | refine balloc ?_ _ | refine Below.drew ?_ | refine below_drewN ?_ _ | exact HBW.out | exact Below.refl _ _))⟩
end Go.Proofs.Ytegpjjkbbdfggaa.rg
