/-
  Every pixel of a region, in order: ink.each with any closure. (PRUNE)
-/
import Derived.Test.YtegpjjkbbdfggaaRegMay
namespace Go.Proofs.Ytegpjjkbbdfggaa.rg
set_option linter.unusedVariables false
set_option linter.unusedSimpArgs false
open Go.RowKit bs sp ik

theorem gtrans {a b c : World} {g : Nat} (h : a.grownBy b (some g)) (k : b.grownBy c (some g)) : a.grownBy c (some g) :=
  ⟨k.os.trans h.os, k.tape.trans h.tape, k.output.trans h.output, Nat.le_trans h.size k.size, fun i hi hne => (k.block i (Nat.lt_of_lt_of_le hi h.size) hne).trans (h.block i hi hne)⟩
theorem gbelow {a b c : World} {g : Nat} (h : a.grownBy b (some g)) (k : Below b.heap.size b c) : a.grownBy c (some g) := gtrans h (only_of_below k _)
/-- what a walk over a region's pixels keeps, position by position -/
structure Walks (g W H : Nat) (R : Nat → Nat → Bool) (f : FuncId) (cap : Array Value) (Rel : Nat → World → Prop) : Prop where
  keep : ∀ p w1 w2, Rel p w1 → Below w1.heap.size w1 w2 → Rel p w2
  skip : ∀ j i w1, j < H → i < W → R j i = false → Rel (j * W + i) w1 → Rel (j * W + i + 1) w1
  step : ∀ j i w1, j < H → i < W → R j i = true → Rel (j * W + i) w1 → Calls Try.prog f (#[.int .i64 (3 * ((j * W + i : Nat) : Int))] ++ cap) w1 fun e w2 => e = .returned (.tuple #[]) ∧ Rel (j * W + i + 1) w2 ∧ w1.grownBy w2 (some g)
/-- each's loops at position p -/
def EIn (V w : World) (g W H c : Nat) (A : Option Addr) (Rel : Nat → World → Prop) (p : Nat) (wr : World) : Prop :=
  Rel p wr ∧ Below V.heap.size V wr ∧ w.grownBy wr (some g) ∧ Blk wr w.heap.size 51 #[.int .i64 (W : Int), .int .i64 (H : Int), .slice A H c]
section
variable {V w wr w' : World} {g W H c : Nat} {A : Option Addr} {Rel : Nat → World → Prop} {R : Nat → Nat → Bool} {f : FuncId} {cap : Array Value}
theorem EIn.below (hw : Walks g W H R f cap Rel) {p : Nat} (h : EIn V w g W H c A Rel p wr) (hb : Below wr.heap.size wr w') : EIn V w g W H c A Rel p w' :=
  ⟨hw.keep _ _ _ h.1 hb, btrans h.2.1 hb, gbelow h.2.2.1 hb, h.2.2.2.below hb h.2.2.2.lt⟩
theorem EIn.start (hw : Walks g W H R f cap Rel) (h : Rel 0 w) (hV : Below V.heap.size V w) : EIn V w g W H c A Rel 0 (w.alloc (.cells #[.int .i64 (W : Int), .int .i64 (H : Int), .slice A H c] 51)) :=
  ⟨hw.keep _ _ _ h (balloc (Below.refl _ _) _), balloc hV _, only_alloc (World.grownBy.refl _ _) _, Blk.new _ _ _⟩
theorem EIn.skips (hw : Walks g W H R f cap Rel) {k a : Nat} (hk : k < H) (h : EIn V w g W H c A Rel (k * W + a) wr) (n : Nat) (hn : a + n ≤ W) (hR : ∀ i, a ≤ i → i < a + n → R k i = false) : EIn V w g W H c A Rel (k * W + (a + n)) wr := by
  induction n with
  | zero => exact h
  | succ n ih =>
    have h1 := ih (by omega) (fun i h1 h2 => hR i h1 (by omega))
    exact ⟨hw.skip k (a + n) wr hk (by omega) (hR _ (by omega) (by omega)) h1.1, h1.2⟩
theorem EIn.skipTo (hw : Walks g W H R f cap Rel) {k a b : Nat} (hk : k < H) (h : EIn V w g W H c A Rel (k * W + a) wr) (hab : a ≤ b) (hb : b ≤ W) (hR : ∀ i, a ≤ i → i < b → R k i = false) : EIn V w g W H c A Rel (k * W + b) wr := by
  obtain ⟨n, rfl⟩ := Nat.exists_eq_add_of_le hab
  exact h.skips hw hk n hb hR
theorem EIn.went {p q : Nat} (hgV : V.heap.size ≤ g) (hgw : g < w.heap.size) (h : EIn V w g W H c A Rel p wr) (hr : Rel q w') (hg : wr.grownBy w' (some g)) : EIn V w g W H c A Rel q w' :=
  ⟨hr, h.2.1.grown hg h.2.1.size (fun k e => by cases e; exact hgV), gtrans h.2.2.1 hg, h.2.2.2.grown hg (by simp; omega)⟩
end
theorem row_false {W : Nat} {R : Nat → Nat → Bool} {k i : Nat} (hi : i < W) (h : inRuns (rowsOf W R k) i = false) : R k i = false := by
  rw [rowsOf_in] at h
  simpa [hi] using h
theorem row_true {W : Nat} {R : Nat → Nat → Bool} {k i : Nat} (h : inRuns (rowsOf W R k) i = true) : R k i = true := by
  rw [rowsOf_in] at h
  simp at h
  exact h.1

set_option maxRecDepth 100000 in
set_option maxHeartbeats 3200000 in
theorem each_any (V w : World) (g W H c : Nat) (A : Option Addr) (R : Nat → Nat → Bool) (f : FuncId) (cap : Array Value) (Rel : Nat → World → Prop) (hcf : ∀ (args : Array Value) (W : World), (callFunc f args).run Try.prog W = .ok (.enter f args) W)
    (hW : W ≤ 64) (hH : H ≤ 64) (hr : Rows V A H c (rowsOf W R)) (hV : Below V.heap.size V w) (hgV : V.heap.size ≤ g) (hgw : g < w.heap.size) (hw : Walks g W H R f cap Rel) (h0 : Rel 0 w) :
    Calls Try.prog 93 #[.agg #[.int .i64 (W : Int), .int .i64 (H : Int), .slice A H c], .func (.func f) #[] cap] w fun e w' => e = .returned (.tuple #[]) ∧ Rel (H * W) w' ∧ w.grownBy w' (some g) := by
  have HWK := Lib.hid hw
  have HST := Lib.hid (EIn.start (c := c) (A := A) hw h0 hV)
  have HR := Lib.hid hr
  have HGV := Lib.hid hgV
  have HGW := Lib.hid hgw
  clear hw h0 hV hr hgV hgw
  go_enter Try.func93, Try.ntmps93
  go_wp2_with fail
  go_loopw [12] (fun kv wr => ∃ k : Nat, k ≤ H ∧ kv = .int .i64 (k : Int) ∧ EIn V w g W H c A Rel (k * W) wr) (fun kv _ => H - (intOf kv).toNat)
  case atStart => exact ⟨0, by omega, rfl, by rw [Nat.zero_mul]; exact HST.out⟩
  case round =>
    clear HST
    obtain ⟨k, hk, rfl, hE⟩ := hrel
    by_cases hlt : k < H
    · have d1 : decide ((k : Int) < (H : Int)) = true := by simp; omega
      obtain ⟨a1, ha⟩ := HR.out
      obtain ⟨x, o, rfl, hx, ha⟩ := ha (by omega)
      obtain ⟨l1, A1, c1, q0, r1⟩ := ha k hlt
      have q1 := (hE.2.1.cell (p := ⟨x, o + k, none⟩) hx).trans q0
      have hmay := rowsOf_may W R k
      have hend := reach_end hmay (by omega)
      have hrun : ∀ t (h : t < (rowsOf W R k).length), ∃ a b : Nat, (rowsOf W R k)[t].1 = (a : Int) ∧ (rowsOf W R k)[t].2 = (b : Int) ∧ (reach (rowsOf W R k) t).toNat ≤ a ∧ a < b ∧ b ≤ W ∧ (reach (rowsOf W R k) (t + 1)).toNat = b ∧
          (∀ i, (reach (rowsOf W R k) t).toNat ≤ i → i < a → R k i = false) ∧ (∀ i, a ≤ i → i < b → R k i = true) := by
        intro t ht
        obtain ⟨e1, e2, e3, e4⟩ := reach_le hmay ht
        refine ⟨(rowsOf W R k)[t].1.toNat, (rowsOf W R k)[t].2.toNat, by omega, by omega, by omega, by omega, by omega, by rw [reach_succ ht], fun i h1 h2 => ?_, fun i h1 h2 => ?_⟩
        · exact row_false (by omega) (in_gap hmay (t := t) (by omega) (by omega) (fun _ => by omega))
        · exact row_true (in_run ht (by omega) (by omega))
      have hlast : ∀ i, (reach (rowsOf W R k) (rowsOf W R k).length).toNat ≤ i → i < W → R k i = false := fun i h1 h2 => row_false h2 (in_gap hmay (t := (rowsOf W R k).length) (by omega) (Nat.le_refl _) (fun h => absurd h (by omega)))
      obtain ⟨L, hL⟩ : ∃ L, rowsOf W R k = L := ⟨_, rfl⟩
      rw [hL] at l1 q0 q1 r1 hend hrun hlast
      clear hmay hL
      obtain ⟨ns, hns⟩ : ∃ ns, L.length = ns := ⟨_, rfl⟩
      rw [hns] at l1 q0 q1 r1 hend hlast
      obtain ⟨m, hm⟩ : ∃ m, k * W = m := ⟨_, rfl⟩
      have hm2 : m ≤ 4096 := by rw [← hm]; exact Nat.mul_le_mul (show k ≤ 64 by omega) (show W ≤ 64 by omega)
      have hm3 : (k : Int) * (W : Int) = (m : Int) := by rw [← hm]; push_cast; rfl
      have HE := Lib.hid hE
      have HR1 := Lib.hid r1
      have HRN := Lib.hid hrun
      have HLS := Lib.hid hlast
      have HEND := Lib.hid hend
      have HNS := Lib.hid hns
      have HM := Lib.hid hm
      clear ha a1 hE hns r1 hrun hlast q0 hend hm
      go_wp2_with fail
      go_loopw [19] (fun tv wi => ∃ t : Nat, t ≤ ns ∧ tv = .int .i64 (t : Int) ∧ EIn V w g W H c (some ⟨x, o, none⟩) Rel (k * W + (reach L t).toNat) wi) (fun tv _ => ns - (intOf tv).toNat)
      case atStart => exact ⟨0, by omega, rfl, HE.out⟩
      case round =>
        clear HE
        obtain ⟨t, ht, rfl, hE⟩ := hrel
        by_cases htl : t < ns
        · have d2 : decide ((t : Int) < (ns : Int)) = true := by simp; omega
          obtain ⟨a, b, ha, hb, h1, h2, h3, h4, h5, h6⟩ := HRN.out t (by rw [HNS.out]; exact htl)
          obtain ⟨p1, p2, p3⟩ := HR1.out.below hE.2.1
          obtain ⟨y, oy, rfl, hy, hc⟩ := p3 (by omega)
          obtain ⟨c1, c2⟩ := hc t (by rw [HNS.out]; exact htl)
          rw [ha] at c1
          rw [hb] at c2
          have hE2 : EIn V w g W H c (some ⟨x, o, none⟩) Rel (k * W + a) (wr.alloc (.cells #[.int .i64 (a : Int), .int .i64 (b : Int)] 109)) := (hE.skipTo HWK.out hlt h1 (by omega) h5).below HWK.out (by (repeat' (first | exact Below.refl _ _ | exact Below.refl _ _ | refine balloc ?_ _ | refine Below.drew ?_ | refine below_drewN ?_ _ | refine bset ?_ (by first | omega | (simp <;> omega)) _)))
          have hbx := Blk.new wr 109 #[.int .i64 (a : Int), .int .i64 (b : Int)]
          have hne : g < wr.heap.size := by have := hE.2.2.1.size; have := HGW.out; omega
          have HE2 := Lib.hid hE2
          have HBX := Lib.hid hbx
          have H4 := Lib.hid h4
          have H6 := Lib.hid h6
          clear hE hc p1 p2 p3 h1 ha hb h5 hE2 hbx h4 h6
          obtain ⟨q, hq⟩ : ∃ q, wr.heap.size = q := ⟨_, rfl⟩
          go_wp2_with fail
          rw [hq] at HBX hne
          go_loopw [8] (fun iv wn => ∃ i : Nat, a ≤ i ∧ i ≤ b ∧ iv = .int .i64 (i : Int) ∧ EIn V w g W H c (some ⟨x, o, none⟩) Rel (k * W + i) wn ∧ Blk wn q 109 #[.int .i64 (a : Int), .int .i64 (b : Int)]) (fun iv _ => b - (intOf iv).toNat)
          case atStart => exact ⟨a, by omega, by omega, rfl, HE2.out, HBX.out⟩
          case round =>
            clear HE2 HBX
            obtain ⟨i, hia, hib, rfl, hE, hbx⟩ := hrel
            have e1 := hbx.cell 1
            simp only [List.getElem?_toArray, List.getElem?_cons_succ, List.getElem?_cons_zero] at e1
            by_cases hil : i < b
            · have d3 : decide ((i : Int) < (b : Int)) = true := by simp; omega
              have e2 := hE.2.2.2.cell 0
              simp only [List.getElem?_toArray, List.getElem?_cons_succ, List.getElem?_cons_zero] at e2
              have hst := HWK.out.step k i wr hlt (by omega) (H6.out i hia hil) hE.1
              rw [HM.out, show (3 * ((m + i : Nat) : Int)) = 3 * ((m : Int) + (i : Int)) by push_cast; rfl] at hst
              have HST := Lib.hid hst
              have HE := Lib.hid hE
              have HBX := Lib.hid hbx
              clear hst hE hbx
              go_wp2_with fail
              refine HST.out.mono ?_
              rintro e_ w2 ⟨rfl, hr2, hg2⟩
              have hE3 := HE.out.went HGV.out HGW.out hr2 hg2
              have hbx3 := HBX.out.grown hg2 (by simp; omega)
              clear HST HE HBX hr2 hg2
              go_wp2_with fail
              go_roundw
              case rel => exact ⟨i + 1, by omega, by omega, by go_num, by rw [HM.out]; exact hE3, hbx3⟩
              case measure => simp [intOf]; omega
            · obtain rfl : i = b := by omega
              have d3 : decide ((i : Int) < (i : Int)) = false := by simp
              have HE := Lib.hid hE
              clear hE hbx
              go_wp2_with fail
              go_roundw
              case rel => exact ⟨t + 1, by omega, by go_num, by rw [H4.out]; exact HE.out⟩
              case measure => simp [intOf]; omega
        · obtain rfl : t = ns := by omega
          have d2 : decide ((t : Int) < (t : Int)) = false := by simp
          have hE2 := hE.skipTo HWK.out hlt (by have := HEND.out; omega) (Nat.le_refl _) HLS.out
          have HE := Lib.hid hE2
          clear hE hE2
          go_wp2_with fail
          go_roundw
          case rel => exact ⟨k + 1, by omega, by go_num, by rw [Nat.add_mul, Nat.one_mul]; exact HE.out⟩
          case measure => simp [intOf]; omega
    · obtain rfl : k = H := by omega
      have d1 : decide ((k : Int) < (k : Int)) = false := by simp
      go_wp2_with fail
      go_end0
      exact ⟨rfl, hE.1, hE.2.2.1⟩
end Go.Proofs.Ytegpjjkbbdfggaa.rg
