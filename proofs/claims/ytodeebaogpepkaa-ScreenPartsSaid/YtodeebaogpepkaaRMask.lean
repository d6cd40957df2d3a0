/-
  region.Mask: a region pixel by pixel. (PRUNE)
-/
import Derived.Test.YtodeebaogpepkaaPut
import Derived.Test.YtodeebaogpepkaaEach
import Derived.BigQuiet
import Derived.Deep.CutRange
namespace Go.Proofs.Ytodeebaogpepkaa.rg
set_option linter.unusedVariables false
set_option linter.unusedSimpArgs false
open Go.RowKit bs sp ik

/-- Mask's loops at position p -/
def KRel (w : World) (mg mb W H q c : Nat) (A : Option Addr) (R : Nat → Nat → Bool) (p : Nat) (wr : World) : Prop :=
  ∃ cs, Blk wr mg 5 cs ∧ Holds cs q (fun t => if t < p ∧ R (t / W) (t % W) = true then 1 else 0) ∧ Blk wr mb 36 #[.int .i64 (W : Int), .int .i64 (H : Int), .slice (some ⟨mg, 0, none⟩) q q] ∧
    Blk wr w.heap.size 50 #[.int .i64 (W : Int), .int .i64 (H : Int), .slice A H c] ∧ Blk wr (w.heap.size + 1) 36 #[.int .i64 0, .int .i64 0, .slice none 0 0] ∧ w.heap.size + 1 < mg ∧ w.heap.size + 1 < mb ∧ mb ≠ mg ∧ Below w.heap.size w wr
section
variable {w wr w' : World} {mg mb W H q c : Nat} {A : Option Addr} {R : Nat → Nat → Bool}
theorem KRel.below {p : Nat} (h : KRel w mg mb W H q c A R p wr) (hb : Below wr.heap.size wr w') : KRel w mg mb W H q c A R p w' := by
  obtain ⟨cs, h1, h2, h3, h4, h5, h6, h7, h8, h9⟩ := h
  exact ⟨cs, h1.below hb h1.lt, h2, h3.below hb h3.lt, h4.below hb h4.lt, h5.below hb h5.lt, h6, h7, h8, btrans h9 hb⟩
theorem KRel.skip {k i : Nat} (hi : i < W) (hR : R k i = false) (h : KRel w mg mb W H q c A R (k * W + i) wr) : KRel w mg mb W H q c A R (k * W + i + 1) wr := by
  obtain ⟨cs, h1, h2, h3⟩ := h
  refine ⟨cs, h1, h2.ext fun j hj => ?_, h3⟩
  by_cases e : j = k * W + i
  · subst e
    obtain ⟨e1, e2⟩ := pix_of (j := k) hi
    simp [e1, e2, hR]
  · have : j < k * W + i + 1 ↔ j < k * W + i := by omega
    simp only [this]
theorem KRel.put {k i : Nat} (hi : i < W) (hR : R k i = true) (h : KRel w mg mb W H q c A R (k * W + i) wr) : KRel w mg mb W H q c A R (k * W + i + 1) (wr.setCell ⟨mg, k * W + i, none⟩ (.int .u8 1)) := by
  obtain ⟨cs, h1, h2, h3, h4, h5, h6, h7, h8, h9⟩ := h
  refine ⟨_, h1.set_ _ _, (h2.put (k * W + i) 1 (by omega) (by omega)).ext fun j hj => ?_, h3.far h8 _, h4.far (by simp; omega) _, h5.far (by simp; omega) _, h6, h7, h8, bset h9 (by simp; omega) _⟩
  by_cases e : j = k * W + i
  · subst e
    obtain ⟨e1, e2⟩ := pix_of (j := k) hi
    simp [e1, e2, hR]
  · have : j < k * W + i + 1 ↔ j < k * W + i := by omega
    simp only [this, if_neg e]
theorem KRel.skips {k a : Nat} (h : KRel w mg mb W H q c A R (k * W + a) wr) (n : Nat) (hn : a + n ≤ W) (hR : ∀ i, a ≤ i → i < a + n → R k i = false) : KRel w mg mb W H q c A R (k * W + (a + n)) wr := by
  induction n with
  | zero => exact h
  | succ n ih =>
    have h1 := ih (by omega) (fun i h1 h2 => hR i h1 (by omega))
    exact KRel.skip (i := a + n) (by omega) (hR _ (by omega) (by omega)) h1
theorem KRel.skipTo {k a b : Nat} (h : KRel w mg mb W H q c A R (k * W + a) wr) (hab : a ≤ b) (hb : b ≤ W) (hR : ∀ i, a ≤ i → i < b → R k i = false) : KRel w mg mb W H q c A R (k * W + b) wr := by
  obtain ⟨n, rfl⟩ := Nat.exists_eq_add_of_le hab
  exact h.skips n hb hR
theorem KRel.start1 {w1 : World} (hb : Below w.heap.size w w1) (K1 : Blk w1 w.heap.size 50 #[.int .i64 (W : Int), .int .i64 (H : Int), .slice A H c]) (K3 : Blk w1 (w.heap.size + 1) 36 #[.int .i64 0, .int .i64 0, .slice none 0 0]) :
    KRel w w1.heap.size (w1.heap.size + 1) W H q c A R 0 ((w1.alloc (.cells (madeCells #[.int .u8 0] q) 5)).alloc (.cells #[.int .i64 (W : Int), .int .i64 (H : Int), .slice (some ⟨w1.heap.size, 0, none⟩) q q] 36)) := by
  have b2 := Blk.new (w1.alloc (.cells (madeCells #[.int .u8 0] q) 5)) 36 #[.int .i64 (W : Int), .int .i64 (H : Int), .slice (some ⟨w1.heap.size, 0, none⟩) q q]
  have s1 : ∀ (u : World) (o : Obj), (u.alloc o).heap.size = u.heap.size + 1 := fun u o => by simp
  simp only [s1] at b2
  exact ⟨_, (Blk.new _ _ _).alloc _, ⟨by rw [size_madeCells]; omega, fun j hj => ⟨by simp [madeCells, hj, Nat.mod_one], by simp, by simp⟩⟩, b2, (K1.alloc _).alloc _, (K3.alloc _).alloc _, K3.lt, by have := K3.lt; omega, by omega, balloc (balloc hb _) _⟩
theorem KRel.start2 {w1 : World} (hb : Below w.heap.size w w1) (K1 : Blk w1 w.heap.size 50 #[.int .i64 (W : Int), .int .i64 (H : Int), .slice A H c]) (K3 : Blk w1 (w.heap.size + 1) 36 #[.int .i64 0, .int .i64 0, .slice none 0 0]) :
    KRel w (w1.heap.size + 1) w1.heap.size W H q c A R 0 ((w1.alloc (.cells #[.int .i64 (W : Int), .int .i64 (H : Int), .slice (some ⟨w1.heap.size + 1, 0, none⟩) q q] 36)).alloc (.cells (madeCells #[.int .u8 0] q) 5)) := by
  have b2 := Blk.new (w1.alloc (.cells #[.int .i64 (W : Int), .int .i64 (H : Int), .slice (some ⟨w1.heap.size + 1, 0, none⟩) q q] 36)) 5 (madeCells #[.int .u8 0] q)
  have s1 : ∀ (u : World) (o : Obj), (u.alloc o).heap.size = u.heap.size + 1 := fun u o => by simp
  simp only [s1] at b2
  exact ⟨_, b2, ⟨by rw [size_madeCells]; omega, fun j hj => ⟨by simp [madeCells, hj, Nat.mod_one], by simp, by simp⟩⟩, (Blk.new _ _ _).alloc _, (K1.alloc _).alloc _, (K3.alloc _).alloc _, by have := K3.lt; omega, K3.lt, by omega, balloc (balloc hb _) _⟩
end

set_option maxRecDepth 100000 in
set_option maxHeartbeats 3200000 in
theorem rmask_any (W H q c : Nat) (A : Option Addr) (R : Nat → Nat → Bool) (w : World) (hW : 1 ≤ W ∧ W ≤ 64) (hH : 1 ≤ H ∧ H ≤ 64) (hq : W * H = q) (hr : Rows w A H c (rowsOf W R)) :
    Calls Try.prog 28 #[.agg #[.int .i64 (W : Int), .int .i64 (H : Int), .slice A H c]] w fun e w' => ∃ g, w.heap.size ≤ g ∧ e = .returned (.tuple #[.agg #[.int .i64 (W : Int), .int .i64 (H : Int), .slice (some ⟨g, 0, none⟩) q q], .int .i64 0]) ∧ Pg w' (some ⟨g, 0, none⟩) q q (fun t => if R (t / W) (t % W) = true then 1 else 0) ∧ Below w.heap.size w w' := by
  have hs := page_size hW hH
  rw [hq] at hs
  obtain ⟨i0, hi, hz0, hz1, hz2⟩ := info_parts (show (Try.prog.info? 5).map (fun i => (i.zero, i.size, i.bytes)) = some (some (.int .u8 0), 1, 1) by kernel_rfl)
  have hmk := fun W => run_make_rowN (P := Try.prog) 32 5 i0 (.int .u8 0) Try.underlying32 hi hz0 .i64 .i64 q q (Nat.le_refl _) (by rw [hz2]; omega) (by omega) W
  simp only [hz1, Nat.mul_one] at hmk
  have hm0 : (W : Int) * (H : Int) = (q : Int) := by rw [← hq]; push_cast; rfl
  have hwq : IntKind.i64.wrap (q : Int) = (q : Int) := by simp only [IntKind.wrap, IntKind.signed, IntKind.bits]; simp; omega
  have HM1 := Lib.hid (fun W' (hW' : Below w.heap.size w W') => rmay_yes W H c A _ W' hW hH (fun j _ => rowsOf_mayB W R j hW.2) (hr.below hW'))
  have HR := Lib.hid hr
  have HMK := Lib.hid hmk
  have HPIX := Lib.hid (fun j i (hj : j < H) (hi : i < W) => (by have := pix_in hj hi; omega : j * W + i < q))
  have HQ := Lib.hid hq
  have K1 := (Blk.new w 50 #[.int .i64 (W : Int), .int .i64 (H : Int), .slice A H c]).alloc (.cells #[.int .i64 0, .int .i64 0, .slice none 0 0] 36)
  have K3 := Blk.new (w.alloc (.cells #[.int .i64 (W : Int), .int .i64 (H : Int), .slice A H c] 50)) 36 #[.int .i64 0, .int .i64 0, .slice none 0 0]
  have s1 : ∀ (u : World) (o : Obj), (u.alloc o).heap.size = u.heap.size + 1 := fun u o => by simp
  simp only [s1] at K3
  obtain ⟨w0, wh⟩ := hW
  obtain ⟨h0, hh⟩ := hH
  clear s1 hr hmk hq
  go_enter Try.func28, Try.ntmps28
  go_wp2_with fail
  refine (HM1.out _ (by (repeat' (first | exact Below.refl _ _ | exact Below.refl _ _ | refine balloc ?_ _ | refine Below.drew ?_ | refine below_drewN ?_ _ | refine bset ?_ (by first | omega | (simp <;> omega)) _)))).mono ?_
  rintro e_ w2 ⟨rfl, hb1⟩
  have hbw : Below w.heap.size w w2 := btrans (by (repeat' (first | exact Below.refl _ _ | exact Below.refl _ _ | refine balloc ?_ _ | refine Below.drew ?_ | refine below_drewN ?_ _ | refine bset ?_ (by first | omega | (simp <;> omega)) _))) hb1
  replace K1 := K1.below hb1 (by first | (simp; done) | (simp; omega))
  replace K3 := K3.below hb1 (by first | (simp; done) | (simp; omega))
  clear hb1 HM1
  have a0 := K1.cell 0
  have a1 := K1.cell 1
  simp only [List.getElem?_toArray, List.getElem?_cons_succ, List.getElem?_cons_zero] at a0 a1
  have l1 := K1.lt
  have hne0 : ¬ w.heap.size = w2.heap.size := by omega
  have HS1 := Lib.hid (KRel.start1 (q := q) (R := R) hbw K1 K3)
  have HS2 := Lib.hid (KRel.start2 (q := q) (R := R) hbw K1 K3)
  clear K1 K3 hbw
  have hmk := HMK.out
  go_upto_region 3 with fail
  go_cut [4] from 14 to 24 (fun s4 wx => ∃ mg mb : Nat, s4 = .pointer (some ⟨mb, 0, none⟩) ∧ KRel w mg mb W H q c A R 0 wx)
  case first =>
    go_region
    all_goals (go_wp2_with fail; go_meet)
    · exact ⟨_, _, rfl, HS1.out.below (Below.drew (Below.refl _ _))⟩
    · exact ⟨_, _, rfl, HS2.out.below (Below.drew (Below.refl _ _))⟩
  case rest =>
    obtain ⟨mg, mb, rfl, hU⟩ := hcut
    clear HS1 HS2 HMK hmk hne0 l1 hwq a0 a1 hi hz0 hz1 hz2
    obtain ⟨cs, u1, u2, u3, u4, u5, u6, u7, u8, u9⟩ := id hU
    have m2 := u4.cell 2
    simp only [List.getElem?_toArray, List.getElem?_cons_succ, List.getElem?_cons_zero] at m2
    clear u1 u2 u3 u4 u5 u6 u7 u8 u9
    go_wp2_with fail
    go_loopw [28] (fun kv wr => ∃ k : Nat, k ≤ H ∧ kv = .int .i64 (k : Int) ∧ KRel w mg mb W H q c A R (k * W) wr) (fun kv _ => H - (intOf kv).toNat)
    case atStart => exact ⟨0, by omega, rfl, by rw [Nat.zero_mul]; exact hU⟩
    case round =>
      clear m2 hU
      obtain ⟨k, hk, rfl, hE⟩ := hrel
      by_cases hlt : k < H
      · have d1 : decide ((k : Int) < (H : Int)) = true := by simp; omega
        obtain ⟨a1, ha⟩ := HR.out
        obtain ⟨x, o, rfl, hx, ha⟩ := ha (by omega)
        obtain ⟨l1, A1, c1, q0, r1⟩ := ha k hlt
        have hbE : Below w.heap.size w wr := by obtain ⟨_, _, _, _, _, _, _, _, _, h⟩ := hE; exact h
        have q1 := (hbE.cell (p := ⟨x, o + k, none⟩) hx).trans q0
        have hmay := rowsOf_may W R k
        have hend := reach_end hmay (by omega)
        have hrun : ∀ t (h : t < (rowsOf W R k).length), ∃ a b : Nat, (rowsOf W R k)[t].1 = (a : Int) ∧ (rowsOf W R k)[t].2 = (b : Int) ∧ (reach (rowsOf W R k) t).toNat ≤ a ∧ a < b ∧ b ≤ W ∧ (reach (rowsOf W R k) (t + 1)).toNat = b ∧
            (∀ i, (reach (rowsOf W R k) t).toNat ≤ i → i < a → R k i = false) ∧ (∀ i, a ≤ i → i < b → R k i = true) := by
          intro t ht
          obtain ⟨e1, e2, e3, e4⟩ := reach_le hmay ht
          refine ⟨(rowsOf W R k)[t].1.toNat, (rowsOf W R k)[t].2.toNat, by omega, by omega, by omega, by omega, by omega, by rw [reach_succ ht], fun i h1 h2 => ?_, fun i h1 h2 => ?_⟩
          · exact row_false (by omega) (in_gap hmay (t := t) (by omega) (by omega) (fun _ => by omega))
          · exact row_true (in_run ht (by omega) (by omega))
        have hlast : ∀ i, (reach (rowsOf W R k) (rowsOf W R k).length).toNat ≤ i → i < W → R k i = false := fun i h1 h2 => row_false h2 (in_gap hmay (t := (rowsOf W R k).length) (by omega) (Nat.le_refl _) (fun h => absurd h (by omega)))
        obtain ⟨L, hL⟩ : ∃ L, rowsOf W R k = L := ⟨_, rfl⟩
        rw [hL] at l1 q0 q1 r1 hend hrun hlast
        clear hmay hL
        obtain ⟨ns, hns⟩ : ∃ ns, L.length = ns := ⟨_, rfl⟩
        rw [hns] at l1 q0 q1 r1 hend hlast
        obtain ⟨m, hm⟩ : ∃ m, k * W = m := ⟨_, rfl⟩
        have hm2 : m ≤ 4096 := by rw [← hm]; exact Nat.mul_le_mul (show k ≤ 64 by omega) (show W ≤ 64 by omega)
        have hm3 : (k : Int) * (W : Int) = (m : Int) := by rw [← hm]; push_cast; rfl
        have HE := Lib.hid hE
        have HR1 := Lib.hid r1
        have HRN := Lib.hid hrun
        have HLS := Lib.hid hlast
        have HEND := Lib.hid hend
        have HNS := Lib.hid hns
        have HM := Lib.hid hm
        clear ha a1 hE hns r1 hrun hlast q0 hend hm hbE
        go_wp2_with fail
        go_loopw [35] (fun tv wi => ∃ t : Nat, t ≤ ns ∧ tv = .int .i64 (t : Int) ∧ KRel w mg mb W H q c (some ⟨x, o, none⟩) R (k * W + (reach L t).toNat) wi) (fun tv _ => ns - (intOf tv).toNat)
        case atStart => exact ⟨0, by omega, rfl, HE.out⟩
        case round =>
          clear HE
          obtain ⟨t, ht, rfl, hE⟩ := hrel
          by_cases htl : t < ns
          · have d2 : decide ((t : Int) < (ns : Int)) = true := by simp; omega
            obtain ⟨a, b, ha, hb, h1, h2, h3, h4, h5, h6⟩ := HRN.out t (by rw [HNS.out]; exact htl)
            have hbE : Below w.heap.size w wr := by obtain ⟨_, _, _, _, _, _, _, _, _, h⟩ := hE; exact h
            obtain ⟨p1, p2, p3⟩ := HR1.out.below hbE
            obtain ⟨y, oy, rfl, hy, hc⟩ := p3 (by omega)
            obtain ⟨c1, c2⟩ := hc t (by rw [HNS.out]; exact htl)
            rw [ha] at c1
            rw [hb] at c2
            have hE2 : KRel w mg mb W H q c (some ⟨x, o, none⟩) R (k * W + a) (wr.alloc (.cells #[.int .i64 (a : Int), .int .i64 (b : Int)] 87)) := (hE.skipTo h1 (by omega) h5).below (by (repeat' (first | exact Below.refl _ _ | exact Below.refl _ _ | refine balloc ?_ _ | refine Below.drew ?_ | refine below_drewN ?_ _ | refine bset ?_ (by first | omega | (simp <;> omega)) _)))
            have hbx := Blk.new wr 87 #[.int .i64 (a : Int), .int .i64 (b : Int)]
            have hne : mg < wr.heap.size := by obtain ⟨_, h, _⟩ := hE; exact h.lt
            have HE2 := Lib.hid hE2
            have HBX := Lib.hid hbx
            have H4 := Lib.hid h4
            have H6 := Lib.hid h6
            clear hE hc p1 p2 p3 h1 ha hb h5 hE2 hbx h4 h6 hbE
            obtain ⟨z, hz⟩ : ∃ z, wr.heap.size = z := ⟨_, rfl⟩
            go_wp2_with fail
            rw [hz] at HBX hne
            go_loopw [9] (fun iv wn => ∃ i : Nat, a ≤ i ∧ i ≤ b ∧ iv = .int .i64 (i : Int) ∧ KRel w mg mb W H q c (some ⟨x, o, none⟩) R (k * W + i) wn ∧ Blk wn z 87 #[.int .i64 (a : Int), .int .i64 (b : Int)]) (fun iv _ => b - (intOf iv).toNat)
            case atStart => exact ⟨a, by omega, by omega, rfl, HE2.out, HBX.out⟩
            case round =>
              clear HE2 HBX
              obtain ⟨i, hia, hib, rfl, hE, hbx⟩ := hrel
              have e1 := hbx.cell 1
              simp only [List.getElem?_toArray, List.getElem?_cons_succ, List.getElem?_cons_zero] at e1
              by_cases hil : i < b
              · have d3 : decide ((i : Int) < (b : Int)) = true := by simp; omega
                obtain ⟨cs, u1, u2, u3, u4, u5, u6, u7, u8, u9⟩ := id hE
                have e2 := u4.cell 0
                have m2 := u3.cell 2
                simp only [List.getElem?_toArray, List.getElem?_cons_succ, List.getElem?_cons_zero] at e2 m2
                have hpx := HPIX.out k i hlt (by omega)
                rw [HM.out] at hpx
                have gc : wr.cell? ⟨mg, m + i, none⟩ = some (.int .u8 (if m + i < k * W + i ∧ R ((m + i) / W) ((m + i) % W) = true then 1 else 0)) := by rw [u1.cell]; exact (u2.2 (m + i) hpx).1
                generalize (if m + i < k * W + i ∧ R ((m + i) / W) ((m + i) % W) = true then (1 : Int) else 0) = y0 at gc
                have gf := u1.frozen (m + i)
                have hN := hE.put (by omega) (H6.out i hia hil)
                rw [HM.out] at hN
                have HN := Lib.hid hN
                have HB3 := Lib.hid (hbx.far (p := ⟨mg, m + i, none⟩) (by show z ≠ mg; omega) (.int .u8 1))
                have j2 : ((m : Int) + (i : Int)).toNat = m + i := by omega
                have j3 : (m : Int) + (i : Int) < (q : Int) := by omega
                clear u1 u2 u3 u4 u5 u6 u7 u8 u9 hE hbx hN
                go_wp2_with fail
                go_roundw
                case rel => exact ⟨i + 1, by omega, by omega, by go_num, by rw [HM.out]; exact HN.out, HB3.out⟩
                case measure => simp [intOf]; omega
              · obtain rfl : i = b := by omega
                have d3 : decide ((i : Int) < (i : Int)) = false := by simp
                have HE := Lib.hid hE
                clear hE hbx
                go_wp2_with fail
                go_roundw
                case rel => exact ⟨t + 1, by omega, by go_num, by rw [H4.out]; exact HE.out⟩
                case measure => simp [intOf]; omega
          · obtain rfl : t = ns := by omega
            have d2 : decide ((t : Int) < (t : Int)) = false := by simp
            have hE2 := hE.skipTo (by have := HEND.out; omega) (Nat.le_refl _) HLS.out
            have HE := Lib.hid hE2
            clear hE hE2
            go_wp2_with fail
            go_roundw
            case rel => exact ⟨k + 1, by omega, by go_num, by rw [Nat.add_mul, Nat.one_mul]; exact HE.out⟩
            case measure => simp [intOf]; omega
      · obtain rfl : k = H := by omega
        have d1 : decide ((k : Int) < (k : Int)) = false := by simp
        obtain ⟨cs, u1, u2, u3, u4, u5, u6, u7, u8, u9⟩ := hE
        have m0 := u3.cell 0
        have m1 := u3.cell 1
        have m2 := u3.cell 2
        have g0 := u5.cell 0
        have g1 := u5.cell 1
        have g2 := u5.cell 2
        have f0 := u5.frozen 0
        have f1 := u5.frozen 1
        have f2 := u5.frozen 2
        simp only [List.getElem?_toArray, List.getElem?_cons_succ, List.getElem?_cons_zero] at m0 m1 m2 g0 g1 g2
        have HKr := Lib.hid u5
        have HBW := Lib.hid u9
        have HU1 := Lib.hid u1
        have HU2 := Lib.hid (u2.ext (C := fun t => if R (t / W) (t % W) = true then 1 else 0) fun j hj => by
          have : j < k * W := by rw [Nat.mul_comm]; have := HQ.out; omega
          simp [this])
        clear u1 u2 u3 u4 u5 u9
        go_wp2_with fail
        have K := ((HKr.out.set_ 0 (.int .i64 (W : Int))).set_ 1 (.int .i64 (k : Int))).set_ 2 (.slice (some ⟨mg, 0, none⟩) q q)
        refine ret_struct2 (g := w.heap.size + 1) (t := 36) (cs := #[.int .i64 (W : Int), .int .i64 (k : Int), .slice (some ⟨mg, 0, none⟩) q q]) rfl rfl ?_ Try.underlying36 rfl rfl rfl ?_
        · exact K
        · exact ⟨mg, by omega, rfl, HU2.out.pg (((HU1.out.far (p := ⟨_, 0, none⟩) (by simp; omega) _).far (p := ⟨_, 1, none⟩) (by simp; omega) _).far (p := ⟨_, 2, none⟩) (by simp; omega) _) (Nat.le_refl _), by (repeat' (first | refine bset ?_ (by first | omega | (simp <;> omega)) _ | refine balloc ?_ _ | refine Below.drew ?_ | refine below_drewN ?_ _ | exact HBW.out | exact Below.refl _ _))⟩
end Go.Proofs.Ytodeebaogpepkaa.rg
