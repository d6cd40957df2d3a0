/-
  Layer 37: image.Region: where a sample over 0 lies.
-/
import Derived.Test.YtegpjjkbbdfggaaAt2
import Derived.Test.YtegpjjkbbdfggaaUnlike
import Derived.Test.YtegpjjkbbdfggaaUpTail
import Derived.BigQuiet
namespace Go.Proofs.Ytegpjjkbbdfggaa.im
set_option linter.unusedVariables false
set_option linter.unusedSimpArgs false
open Go.RowKit bs rg

/-- does a sample over 0 lie over a pixel? -/
def overB (W H B : Int) (s : ByteArray) (a b c d e f : Int) (j i : Nat) : Bool := decide (0 < atV W H B s a b c d e f (16 * (i : Int) + 8) (16 * (j : Int) + 8))
/-- the loop's world behind k pixels -/
def OvRel (w0 : World) (gb mb vb rb : Nat) (w h q : Nat) (V : Array Value) (F : Nat → Bool) (k : Nat) (wr : World) : Prop :=
  ∃ cs, Blk wr gb 5 cs ∧ Holds cs q (fun j => if j < k ∧ F j = true then 1 else 0) ∧ Blk wr mb 111 #[.int .i64 (w : Int), .int .i64 (h : Int), .slice (some ⟨gb, 0, none⟩) q q] ∧
    Blk wr vb 92 V ∧ Blk wr rb 51 #[.int .i64 0, .int .i64 0, .slice none 0 0] ∧ w0.heap.size ≤ rb ∧ rb < vb ∧ vb < gb ∧ mb ≠ gb ∧ Below w0.heap.size w0 wr
theorem OvRel.below {w0 wr w' : World} {gb mb vb rb w h q : Nat} {V : Array Value} {F : Nat → Bool} {k : Nat} (x : OvRel w0 gb mb vb rb w h q V F k wr) (hb : Below wr.heap.size wr w') : OvRel w0 gb mb vb rb w h q V F k w' := by
  obtain ⟨cs, h1, h2, h3, h4, h5, h6, h7, h8, h9, h10⟩ := x
  exact ⟨cs, h1.below hb h1.lt, h2, h3.below hb h3.lt, h4.below hb h4.lt, h5.below hb h5.lt, h6, h7, h8, h9, btrans h10 hb⟩
theorem OvRel.skip {w0 wr : World} {gb mb vb rb w h q : Nat} {V : Array Value} {F : Nat → Bool} {k : Nat} (x : OvRel w0 gb mb vb rb w h q V F k wr) (hf : F k = false) : OvRel w0 gb mb vb rb w h q V F (k + 1) wr := by
  obtain ⟨cs, h1, h2, h3⟩ := x
  refine ⟨cs, h1, h2.ext fun j hj => ?_, h3⟩
  by_cases e : j = k
  · subst e; simp [hf]
  · have : j < k + 1 ↔ j < k := by omega
    simp only [this]
theorem OvRel.put {w0 wr : World} {gb mb vb rb w h q : Nat} {V : Array Value} {F : Nat → Bool} {k : Nat} (x : OvRel w0 gb mb vb rb w h q V F k wr) (hf : F k = true) : OvRel w0 gb mb vb rb w h q V F (k + 1) (wr.setCell ⟨gb, k, none⟩ (.int .u8 1)) := by
  obtain ⟨cs, h1, h2, h3, h4, h5, h6, h7, h8, h9, h10⟩ := x
  refine ⟨_, h1.set_ k _, (h2.put k 1 (by omega) (by omega)).ext fun j hj => ?_, h3.far h9 _, h4.far (by simp; omega) _, h5.far (by simp; omega) _, h6, h7, h8, h9, bset h10 (by simp; omega) _⟩
  by_cases e : j = k
  · subst e; simp [hf]
  · have : j < k + 1 ↔ j < k := by omega
    simp only [this, if_neg e]
theorem OvRel.start {w0 w1 : World} {rb w h q : Nat} {V : Array Value} (F : Nat → Bool) (hb : Below w0.heap.size w0 w1) (hr : w0.heap.size ≤ rb) (K : Blk w1 rb 51 #[.int .i64 0, .int .i64 0, .slice none 0 0]) :
    OvRel w0 (w1.heap.size + 1) (w1.heap.size + 1 + 1) w1.heap.size rb w h q V F 0 (((w1.alloc (.cells V 92)).alloc (.cells (madeCells #[.int .u8 0] q) 5)).alloc (.cells #[.int .i64 (w : Int), .int .i64 (h : Int), .slice (some ⟨w1.heap.size + 1, 0, none⟩) q q] 111)) := by
  have b1 := Blk.new (w1.alloc (.cells V 92)) 5 (madeCells #[.int .u8 0] q)
  have b2 := Blk.new ((w1.alloc (.cells V 92)).alloc (.cells (madeCells #[.int .u8 0] q) 5)) 111 #[.int .i64 (w : Int), .int .i64 (h : Int), .slice (some ⟨w1.heap.size + 1, 0, none⟩) q q]
  have s1 : ∀ (u : World) (o : Obj), (u.alloc o).heap.size = u.heap.size + 1 := fun u o => by simp
  simp only [s1] at b1 b2
  exact ⟨_, b1.alloc _, ⟨by rw [size_madeCells]; omega, fun j hj => ⟨by simp [madeCells, hj, Nat.mod_one], by simp, by simp⟩⟩, b2, ((Blk.new _ _ _).alloc _).alloc _, ((K.alloc _).alloc _).alloc _, hr, K.lt, by omega, by omega, balloc (balloc (balloc hb _) _) _⟩

set_option maxRecDepth 100000 in
set_option maxHeartbeats 3200000 in
theorem over_any (W H B a b c d e f t : Int) (s : ByteArray) (w h : Nat) (V : World) (hw : 1 ≤ w ∧ w ≤ 64) (hh : 1 ≤ h ∧ h ≤ 64) (hs : (s.size : Int) ≤ 9223372036854775807) (hi : mayI W H B s.size = true) (hm : mt.mayB a b c d e f = true) (ht : a * d - b * c = t) (h0 : ¬ t = 0) :
    Calls Try.prog 38 #[.agg #[.int .i64 W, .int .i64 H, .int .i64 B, .string s], .agg #[.int .i64 a, .int .i64 b, .int .i64 c, .int .i64 d, .int .i64 e, .int .i64 f], .int .i64 (w : Int), .int .i64 (h : Int)] V fun ed w' =>
      ∃ g, V.heap.size ≤ g ∧ ed = .returned (.tuple #[.agg #[.int .i64 (w : Int), .int .i64 (h : Int), .slice (some ⟨g, 0, none⟩) h h], .int .i64 0]) ∧ rg.Rows w' (some ⟨g, 0, none⟩) h h (rowsOf w (overB W H B s a b c d e f)) ∧ Below V.heap.size V w' := by
  have hd := det_bd hm
  have HL := Lib.hid (fun W' => look_yes W H B a b c d e f s (a * d) (b * c) t W' hs hi hm rfl rfl ht hd.1.1 hd.1.2 hd.2.1 hd.2.2)
  have HA := Lib.hid (fun j i W' => at_any W H B a b c d e f t (16 * ((i : Nat) : Int) + 8) (16 * ((j : Nat) : Int) + 8) s W' hi hm ht)
  obtain ⟨q, hqq⟩ : ∃ q, w * h = q := ⟨_, rfl⟩
  have hq1 : q ≤ 4096 := by rw [← hqq]; exact Nat.mul_le_mul hw.2 hh.2
  obtain ⟨i0, hi0, hz0, hz1, hz2⟩ := info_parts (show (Try.prog.info? 5).map (fun i => (i.zero, i.size, i.bytes)) = some (some (.int .u8 0), 1, 1) by kernel_rfl)
  have hmk := fun W => run_make_rowN (P := Try.prog) 44 5 i0 (.int .u8 0) Try.underlying44 hi0 hz0 .i64 .i64 q q (Nat.le_refl _) (by rw [hz2]; omega) (by omega) W
  simp only [hz1, Nat.mul_one] at hmk
  have hmq : (w : Int) * (h : Int) = (q : Int) := by rw [← hqq]; push_cast; rfl
  have hwq : IntKind.i64.wrap (q : Int) = (q : Int) := by simp only [IntKind.wrap, IntKind.signed, IntKind.bits]; simp; omega
  have HOF := Lib.hid (fun g M W' h1 hM => rof_any w h q q (some ⟨g, 0, none⟩) M W' hw hh hqq.symm h1 hM)
  have HOV := Lib.hid (show ∀ j i : Nat, overB W H B s a b c d e f j i = decide (0 < atV W H B s a b c d e f (16 * (i : Int) + 8) (16 * (j : Int) + 8)) from fun _ _ => rfl)
  generalize hF : overB W H B s a b c d e f = F at *
  have HQ := Lib.hid hqq
  have g1 : decide ((w : Int) < 1) = false := by simp; omega
  have g2 : decide ((w : Int) > 64) = false := by simp; omega
  have g3 : decide ((h : Int) < 1) = false := by simp; omega
  have g4 : decide ((h : Int) > 64) = false := by simp; omega
  have g5 : ¬ (w : Int) < 1 := by omega
  have g6 : ¬ (64 : Int) < (w : Int) := by omega
  have g7 : ¬ (h : Int) < 1 := by omega
  have g8 : ¬ (64 : Int) < (h : Int) := by omega
  have ht0 : (t == 0) = false := by simp; exact h0
  have wz1 : ¬ (w : Int) = 0 := by omega
  have wz2 : ¬ w = 0 := by omega
  have HW := Lib.hid hw
  have HH := Lib.hid hh
  have HT := Lib.hid ht
  clear hs hi hm ht hd hqq hF hw hh

  go_enter Try.func38, Try.ntmps38
  go_wp2_with fail
  refine (HL.out _).mono ?_
  rintro e_ V1 ⟨rfl, hb1⟩
  have Ki := (((Blk.new V 23 #[.int .i64 W, .int .i64 H, .int .i64 B, .string s]).alloc (.cells #[.int .i64 a, .int .i64 b, .int .i64 c, .int .i64 d, .int .i64 e, .int .i64 f] 25)).alloc (.cells #[.int .i64 0, .int .i64 0, .slice none 0 0] 51))
  have Km := ((Blk.new (V.alloc (.cells #[.int .i64 W, .int .i64 H, .int .i64 B, .string s] 23)) 25 #[.int .i64 a, .int .i64 b, .int .i64 c, .int .i64 d, .int .i64 e, .int .i64 f]).alloc (.cells #[.int .i64 0, .int .i64 0, .slice none 0 0] 51))
  have hz_Km : (V.alloc (.cells #[.int .i64 W, .int .i64 H, .int .i64 B, .string s] 23)).heap.size = V.heap.size + 1 := by simp
  rw [hz_Km] at Km
  clear hz_Km
  have Kr := (Blk.new ((V.alloc (.cells #[.int .i64 W, .int .i64 H, .int .i64 B, .string s] 23)).alloc (.cells #[.int .i64 a, .int .i64 b, .int .i64 c, .int .i64 d, .int .i64 e, .int .i64 f] 25)) 51 #[.int .i64 0, .int .i64 0, .slice none 0 0])
  have hz_Kr : ((V.alloc (.cells #[.int .i64 W, .int .i64 H, .int .i64 B, .string s] 23)).alloc (.cells #[.int .i64 a, .int .i64 b, .int .i64 c, .int .i64 d, .int .i64 e, .int .i64 f] 25)).heap.size = V.heap.size + 1 + 1 := by simp
  rw [hz_Kr] at Kr
  clear hz_Kr
  replace Ki := Ki.below hb1 Ki.lt
  replace Km := Km.below hb1 Km.lt
  replace Kr := Kr.below hb1 Kr.lt
  have hbw : Below V.heap.size V V1 := btrans (by (repeat' (first | exact Below.refl _ _ | exact Below.refl _ _ | refine balloc ?_ _ | refine Below.drew ?_ | refine below_drewN ?_ _ | refine bset ?_ (by first | omega | (simp <;> omega)) _))) hb1
  clear hb1 
  have lKi := Ki.lt
  have cKi0 := Ki.cell 0
  have cKi1 := Ki.cell 1
  have cKi2 := Ki.cell 2
  have cKi3 := Ki.cell 3
  have lKm := Km.lt
  have cKm0 := Km.cell 0
  have cKm1 := Km.cell 1
  have cKm2 := Km.cell 2
  have cKm3 := Km.cell 3
  have cKm4 := Km.cell 4
  have cKm5 := Km.cell 5
  have lKr := Kr.lt
  have cKr0 := Kr.cell 0
  have cKr1 := Kr.cell 1
  have cKr2 := Kr.cell 2
  simp only [List.getElem?_toArray, List.getElem?_cons_succ, List.getElem?_cons_zero] at cKi0 cKi1 cKi2 cKi3 cKm0 cKm1 cKm2 cKm3 cKm4 cKm5 cKr0 cKr1 cKr2
  have HST := Lib.hid (OvRel.start (w := w) (h := h) (q := q) (V := #[.int .i64 W, .int .i64 H, .int .i64 B, .string s, .int .i64 a, .int .i64 b, .int .i64 c, .int .i64 d, .int .i64 e, .int .i64 f, .int .i64 t]) (fun k => F (k / w) (k % w)) hbw (by omega) Kr)
  obtain ⟨rb, hrb⟩ : ∃ rb, V.heap.size + 1 + 1 = rb := ⟨_, rfl⟩
  rw [hrb] at HST Kr lKr cKr0 cKr1 cKr2
  obtain ⟨z, hz⟩ : ∃ z, V1.heap.size = z := ⟨_, rfl⟩
  rw [hz] at HST
  have HBW := Lib.hid hbw
  have HKr := Lib.hid Kr
  clear hbw Ki Km Kr lKi lKm cKi0 cKi1 cKi2 cKi3 cKm0 cKm1 cKm2 cKm3 cKm4 cKm5 cKr0 cKr1 cKr2
  go_wp2_with fail
  go_loopw [53] (fun sv wr => ∃ k : Nat, k ≤ q ∧ sv = .int .i64 (k : Int) ∧ OvRel V (z + 1) (z + 1 + 1) z rb w h q #[.int .i64 W, .int .i64 H, .int .i64 B, .string s, .int .i64 a, .int .i64 b, .int .i64 c, .int .i64 d, .int .i64 e, .int .i64 f, .int .i64 t] (fun k => F (k / w) (k % w)) k wr) (fun sv _ => q - (intOf sv).toNat)
  case atStart => exact ⟨0, by omega, rfl, HST.out⟩
  case round =>
    clear HST HBW HKr
    obtain ⟨k, hk, rfl, hU⟩ := hrel
    obtain ⟨cs, u1, u2, u3, u4, u5, u6, u7, u8, u9, u10⟩ := id hU
    by_cases hkq : k < q
    · have d1 : decide ((k : Int) < (q : Int)) = true := by simp; omega
      have m2 := u3.cell 2
      simp only [List.getElem?_toArray, List.getElem?_cons_succ, List.getElem?_cons_zero] at m2
      have gc : wr.cell? ⟨z + 1, k, none⟩ = some (.int .u8 0) := by rw [u1.cell, (u2.2 k hkq).1]; simp
      have gf := u1.frozen k
      have lg := u1.lt
      have lm := u3.lt
      have lv := u4.lt
      have U2_0 := fun u : Up wr => (u.cell (p := ⟨z, 0, none⟩) lv).trans (show wr.cell? ⟨z, 0, none⟩ = some (.int .i64 W) from by rw [u4.cell]; rfl)
      have U2_1 := fun u : Up wr => (u.cell (p := ⟨z, 1, none⟩) lv).trans (show wr.cell? ⟨z, 1, none⟩ = some (.int .i64 H) from by rw [u4.cell]; rfl)
      have U2_2 := fun u : Up wr => (u.cell (p := ⟨z, 2, none⟩) lv).trans (show wr.cell? ⟨z, 2, none⟩ = some (.int .i64 B) from by rw [u4.cell]; rfl)
      have U2_3 := fun u : Up wr => (u.cell (p := ⟨z, 3, none⟩) lv).trans (show wr.cell? ⟨z, 3, none⟩ = some (.string s) from by rw [u4.cell]; rfl)
      have U2_4 := fun u : Up wr => (u.cell (p := ⟨z, 4, none⟩) lv).trans (show wr.cell? ⟨z, 4, none⟩ = some (.int .i64 a) from by rw [u4.cell]; rfl)
      have U2_5 := fun u : Up wr => (u.cell (p := ⟨z, 5, none⟩) lv).trans (show wr.cell? ⟨z, 5, none⟩ = some (.int .i64 b) from by rw [u4.cell]; rfl)
      have U2_6 := fun u : Up wr => (u.cell (p := ⟨z, 6, none⟩) lv).trans (show wr.cell? ⟨z, 6, none⟩ = some (.int .i64 c) from by rw [u4.cell]; rfl)
      have U2_7 := fun u : Up wr => (u.cell (p := ⟨z, 7, none⟩) lv).trans (show wr.cell? ⟨z, 7, none⟩ = some (.int .i64 d) from by rw [u4.cell]; rfl)
      have U2_8 := fun u : Up wr => (u.cell (p := ⟨z, 8, none⟩) lv).trans (show wr.cell? ⟨z, 8, none⟩ = some (.int .i64 e) from by rw [u4.cell]; rfl)
      have U2_9 := fun u : Up wr => (u.cell (p := ⟨z, 9, none⟩) lv).trans (show wr.cell? ⟨z, 9, none⟩ = some (.int .i64 f) from by rw [u4.cell]; rfl)
      have U2_10 := fun u : Up wr => (u.cell (p := ⟨z, 10, none⟩) lv).trans (show wr.cell? ⟨z, 10, none⟩ = some (.int .i64 t) from by rw [u4.cell]; rfl)
      have U3 := fun (u : Up wr) => (u.cell (p := ⟨z + 1 + 1, 2, none⟩) lm).trans m2
      have U4 := fun (u : Up wr) => (u.cell (p := ⟨z + 1, k, none⟩) lg).trans gc
      have U5 := fun (u : Up wr) => ((bcell u.ok).2 (z + 1) k lg).trans gf
      obtain ⟨i, him⟩ : ∃ i, k % w = i := ⟨_, rfl⟩
      obtain ⟨j, hjm⟩ : ∃ j, k / w = j := ⟨_, rfl⟩
      have hil : i < 64 := by have := HW.out; have := Nat.mod_lt k (show 0 < w by omega); omega
      have hjl : j < 64 := by
        have h1 := HW.out; have h2 := HH.out; have h3 := HQ.out
        rw [← hjm]
        refine Nat.lt_of_lt_of_le ((Nat.div_lt_iff_lt_mul (by omega)).2 ?_) h2.2
        rw [Nat.mul_comm, h3]; exact hkq
      have e1 : (k : Int).tmod (w : Int) = (i : Int) := by rw [Int.tmod_eq_emod_of_nonneg (by omega), ← Int.natCast_emod, him]
      have e2 : (k : Int).tdiv (w : Int) = (j : Int) := by rw [Int.tdiv_eq_ediv_of_nonneg (by omega), ← Int.natCast_ediv, hjm]
      have HFK := Lib.hid (show (fun k => F (k / w) (k % w)) k = F j i by show F (k / w) (k % w) = F j i; rw [him, hjm])
      have hov := HOV.out j i
      have HAU := Lib.hid (fun u : Up wr => up_of (u := u) (HA.out j i u.val))
      obtain ⟨v, hv⟩ : ∃ v, atV W H B s a b c d e f (16 * (i : Int) + 8) (16 * (j : Int) + 8) = v := ⟨_, rfl⟩
      simp only [hv] at HAU
      rw [hv] at hov
      have HU := Lib.hid hU
      clear u1 u2 u3 u4 u5 u6 u7 u8 u9 u10 hU him hjm hv
      go_wp2_with fail
      refine wp_region_up (by kernel_rfl) (by kernel_rfl) ?_
      repeat (go_big_quiet_step (fail))
      go_big_quiet_step (exact HAU.out _)
      repeat (go_big_quiet_step (fail))
      refine wpQuiet_nil ?_
      rintro _ ⟨uq, rfl⟩
      have n1 := U3 uq
      have n2 := U4 uq
      have n3 := U5 uq
      have HU2 := Lib.hid (HU.out.below uq.ok)
      clear U2_0 U2_1 U2_2 U2_3 U2_4 U2_5 U2_6 U2_7 U2_8 U2_9 U2_10 U3 U4 U5 HAU m2 gc gf lg lm lv HU
      generalize hwx : uq.val = wz at *
      clear hwx uq
      by_cases hv : 0 < v
      · have d2 : decide (v > 0) = true := by simp; omega
        have d3 : decide (0 < v) = true := by simp; omega
        have HN := Lib.hid (HU2.out.put (by rw [HFK.out, hov]; exact d3))
        clear HU2 hov HFK
        go_wp2_with fail
        go_roundw
        case rel => exact ⟨k + 1, by omega, by go_num, HN.out⟩
        case measure => simp [intOf]; omega
      · have d2 : decide (v > 0) = false := by simp; omega
        have d3 : decide (0 < v) = false := by simp; omega
        have HN := Lib.hid (HU2.out.skip (by rw [HFK.out, hov]; exact d3))
        clear HU2 hov HFK
        go_wp2_with fail
        go_roundw
        case rel => exact ⟨k + 1, by omega, by go_num, HN.out⟩
        case measure => simp [intOf]; omega
    · obtain rfl : k = q := by omega
      have d1 : decide ((k : Int) < (k : Int)) = false := by simp
      have m0 := u3.cell 0
      have m1 := u3.cell 1
      have m2 := u3.cell 2
      have z0 := u5.cell 0
      have z1 := u5.cell 1
      have z2 := u5.cell 2
      simp only [List.getElem?_toArray, List.getElem?_cons_succ, List.getElem?_cons_zero] at m0 m1 m2 z0 z1 z2
      have lr := u5.lt
      have HKr := Lib.hid u5
      have HBW := Lib.hid u10
      have HRB := Lib.hid u6
      have HC := Lib.hid (HOF.out (z + 1) _ wr (u2.pg u1 (Nat.le_refl _)) (fun j hj => by
        by_cases h : j < k ∧ (fun k => F (k / w) (k % w)) j = true
        · right; exact if_pos h
        · left; exact if_neg h))
      clear u1 u2 u3 u4 u5 u6 u7 u8 u9 u10 hU
      go_wp2_with fail
      refine HC.out.mono ?_
      rintro e_ w3 ⟨g, hg, rfl, hr3, hb1⟩
      have hsz := HBW.out.size
      have hr4 : rg.Rows w3 (some ⟨g, 0, none⟩) h h (rowsOf w F) := hr3.ext fun j hj => rowsOf_ext fun i hi => by
        have h3 := pix_in hj hi
        have h4 : j * w + i < k := by have := HQ.out; omega
        have h5 := pix_of (j := j) hi
        by_cases h : F j i = true <;> simp [h, h4, h5]
      have Kr := HKr.out.below hb1 lr
      have hbw := btrans HBW.out hb1
      have hgne : g ≠ rb := by omega
      have hg2 : V.heap.size ≤ g := by omega
      clear hr3 hb1 HKr HBW HC hg m0 m1 m2 z0 z1 z2
      have g0 := Kr.cell 0
      have g1 := Kr.cell 1
      have g2 := Kr.cell 2
      have f0 := Kr.frozen 0
      have f1 := Kr.frozen 1
      have f2 := Kr.frozen 2
      simp only [List.getElem?_toArray, List.getElem?_cons_succ, List.getElem?_cons_zero] at g0 g1 g2
      have HKr := Lib.hid Kr
      have HBW := Lib.hid hbw
      have HR4 := Lib.hid hr4
      clear Kr hbw hr4
      go_wp2_with fail
      have K := ((HKr.out.set_ 0 (.int .i64 (w : Int))).set_ 1 (.int .i64 (h : Int))).set_ 2 (.slice (some ⟨g, 0, none⟩) h h)
      have hrb2 := HRB.out
      refine ret_struct2 (g := rb) (t := 51) (cs := #[.int .i64 (w : Int), .int .i64 (h : Int), .slice (some ⟨g, 0, none⟩) h h]) rfl rfl ?_ Try.underlying51 rfl rfl rfl ?_
      · exact K
      · exact ⟨g, hg2, rfl, rg.Rows.setBox HR4.out hgne HKr.out _ _ _, by (repeat' (first | refine bset ?_ (by first | omega | (simp <;> omega)) _ | refine balloc ?_ _ | refine Below.drew ?_ | refine below_drewN ?_ _ | exact HBW.out | exact Below.refl _ _))⟩
end Go.Proofs.Ytegpjjkbbdfggaa.im
