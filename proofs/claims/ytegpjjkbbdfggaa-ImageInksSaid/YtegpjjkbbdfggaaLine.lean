/-
  Layer 37: rest; the reference's Line; Same of two lists alike.
-/
import Derived.Test.YtegpjjkbbdfggaaIntL
namespace Go.Proofs.Ytegpjjkbbdfggaa.im
set_option linter.unusedVariables false
set_option linter.unusedSimpArgs false
open Go.RowKit bs mt

theorem rep_put (k : Nat) : List.replicate k (-1 : Int) ++ [-1] = List.replicate (k + 1) (-1) := by rw [List.replicate_succ']

set_option maxRecDepth 100000 in
set_option maxHeartbeats 1600000 in
theorem rest_any (n : Nat) (w : World) (hn : n ≤ 64) : Calls Try.prog 64 #[.int .i64 (n : Int)] w fun ed w' => ∃ v, ed = .returned v ∧ IntsV w' v (List.replicate n (-1)) ∧ Below w.heap.size w w' := by
  obtain ⟨i0, hi, hz0, hz1, hz2⟩ := info_parts (show (Try.prog.info? 3).map (fun i => (i.zero, i.size, i.bytes)) = some (some (.int .i64 0), 1, 8) by kernel_rfl)
  go_enter Try.func64, Try.ntmps64
  go_wp2_with fail
  go_loopw [3, 5] (fun v iv wr => ∃ k : Nat, k ≤ n ∧ iv = .int .i64 (k : Int) ∧ OwnInts wr w.heap.size v (List.replicate k (-1)) ∧ Below w.heap.size w wr) (fun _ iv _ => n - (intOf iv).toNat)
  case atStart => exact ⟨0, by omega, rfl, World.ownsRow_nil _ _ _ _, Below.refl _ _⟩
  case round =>
    obtain ⟨k, hk, rfl, hown, hbw⟩ := hrel
    have hsz := hbw.size
    by_cases hlt : k < n
    · have d1 : decide ((k : Int) < (n : Int)) = true := by simp; omega
      have hO : ∀ o, (wr.alloc o).ownsRow w.heap.size 3 1 u3 (List.replicate k (-1 : Int)).length (numL (List.replicate k (-1))) := fun o => World.ownsRow.alloc hown o
      have HOWN := Lib.hid hown
      have HBW := Lib.hid hbw
      clear hown hbw
      go_wp2_with (at_builtin; refine wpList_append_own _ rfl (.tmp 7) (.tmp 8) _ rfl w.heap.size 3 i0 _ 1 8 Try.underlying31 hi hz0 hz1 hz2 rfl (by omega) u3 _ _ rfl (hO _) ⟨wr.heap.size, 0, none⟩ 1 1 [.int .i64 (-1)] rfl rfl (one_new _ _ _) (by simp [Value.oneCell']) (by simp [maxLen]; omega) (by simp; omega) (by simp; omega) ?_; intro v1 w1 hown1 hg1 _)
      go_roundw
      case rel =>
        obtain ⟨h1, h2, _⟩ := own_put HOWN.out HBW.out (Nat.le_refl _) hsz hown1 hg1
        exact ⟨k + 1, by omega, by go_num, by rw [← rep_put]; exact h1, h2⟩
      case measure => simp [intOf]; omega
    · obtain rfl : k = n := by omega
      have d1 : decide ((k : Int) < (k : Int)) = false := by simp
      go_wp2_with fail
      go_ret
      exact ⟨_, rfl, hown.ints, hbw⟩
/-- the samples of a line's centres -/
def lineL (W H B : Int) (s : ByteArray) (a b c d e f y : Int) (n : Nat) : List Int := (List.range n).map fun (k : Nat) => AtV W H B s a b c d e f (16 * (k : Int) + 8) y
theorem lineL_len (W H B : Int) (s : ByteArray) (a b c d e f y : Int) (n : Nat) : (lineL W H B s a b c d e f y n).length = n := by simp [lineL]
theorem lineL_put (W H B : Int) (s : ByteArray) (a b c d e f y : Int) (k : Nat) : lineL W H B s a b c d e f y k ++ [AtV W H B s a b c d e f (16 * (k : Int) + 8) y] = lineL W H B s a b c d e f y (k + 1) := by
  simp [lineL, List.range_succ]
theorem info_int : (Try.prog.info? 3).map (fun i => (i.zero, i.size, i.bytes)) = some (some (.int .i64 0), 1, 8) := by kernel_rfl

set_option maxRecDepth 100000 in
set_option maxHeartbeats 1600000 in
theorem rLine_any (W H B a b c d e f y : Int) (n : Nat) (s : ByteArray) (w : World) (hs : (s.size : Int) ≤ 9223372036854775807) (hn : n ≤ 64) : Calls Try.prog 22 #[.agg #[.int .i64 W, .int .i64 H, .int .i64 B, .string s], .agg #[.int .i64 a, .int .i64 b, .int .i64 c, .int .i64 d, .int .i64 e, .int .i64 f], .int .i64 y, .int .i64 (n : Int)] w fun ed w' => ∃ v, ed = .returned v ∧ IntsV w' v (lineL W H B s a b c d e f y n) ∧ Below w.heap.size w w' := by
  obtain ⟨i0, hi, hz0, hz1, hz2⟩ := info_parts info_int
  have Ki := (Blk.new w 23 #[.int .i64 W, .int .i64 H, .int .i64 B, .string s]).alloc (.cells #[.int .i64 a, .int .i64 b, .int .i64 c, .int .i64 d, .int .i64 e, .int .i64 f] 25)
  have Km := Blk.new (w.alloc (.cells #[.int .i64 W, .int .i64 H, .int .i64 B, .string s] 23)) 25 #[.int .i64 a, .int .i64 b, .int .i64 c, .int .i64 d, .int .i64 e, .int .i64 f]
  have s1 : (w.alloc (.cells #[.int .i64 W, .int .i64 H, .int .i64 B, .string s] 23)).heap.size = w.heap.size + 1 := by simp
  rw [s1] at Km
  clear s1
  have hbw : Below w.heap.size w ((w.alloc (.cells #[.int .i64 W, .int .i64 H, .int .i64 B, .string s] 23)).alloc (.cells #[.int .i64 a, .int .i64 b, .int .i64 c, .int .i64 d, .int .i64 e, .int .i64 f] 25)) := by (repeat' (first | exact Below.refl _ _ | exact Below.refl _ _ | refine balloc ?_ _ | refine Below.drew ?_ | refine below_drewN ?_ _ | refine bset ?_ (by first | omega | (simp <;> omega)) _))
  have hw2 : w.heap.size + 2 ≤ ((w.alloc (.cells #[.int .i64 W, .int .i64 H, .int .i64 B, .string s] 23)).alloc (.cells #[.int .i64 a, .int .i64 b, .int .i64 c, .int .i64 d, .int .i64 e, .int .i64 f] 25)).heap.size := by simp
  have HKi := Lib.hid Ki
  have HKm := Lib.hid Km
  have HBW := Lib.hid hbw
  have hn2 : ¬ (64 : Int) < (n : Int) := by omega
  clear Ki Km hbw
  go_enter Try.func22, Try.ntmps22
  go_wp2_with fail
  go_loopw [9, 10] (fun v iv wr => ∃ k : Nat, k ≤ n ∧ iv = .int .i64 (k : Int) ∧ OwnInts wr (w.heap.size + 2) v (lineL W H B s a b c d e f y k) ∧ Blk wr w.heap.size 23 #[.int .i64 W, .int .i64 H, .int .i64 B, .string s] ∧ Blk wr (w.heap.size + 1) 25 #[.int .i64 a, .int .i64 b, .int .i64 c, .int .i64 d, .int .i64 e, .int .i64 f] ∧ w.heap.size + 2 ≤ wr.heap.size ∧ Below w.heap.size w wr) (fun _ iv _ => n - (intOf iv).toNat)
  case atStart => exact ⟨0, by omega, rfl, World.ownsRow_nil _ _ _ _, HKi.out, HKm.out, hw2, HBW.out⟩
  case round =>
    clear HKi HKm HBW hw2
    obtain ⟨k, hk, rfl, hown, Ki, Km, hsz, hbw⟩ := hrel
    by_cases hlt : k < n
    · have d1 : decide ((k : Int) < (n : Int)) = true := by simp; omega
      have HA := Lib.hid (fun W' => rAt_any W H B a b c d e f (16 * (k : Int) + 8) y s W' hs)
      generalize hz : AtV W H B s a b c d e f (16 * (k : Int) + 8) y = z at *
      have HZ := Lib.hid hz
      clear hz
      have HOWN := Lib.hid hown
      clear hown

      have lKi := Ki.lt
      have cKi0 := Ki.cell 0
      have cKi1 := Ki.cell 1
      have cKi2 := Ki.cell 2
      have cKi3 := Ki.cell 3
      have lKm := Km.lt
      have cKm0 := Km.cell 0
      have cKm1 := Km.cell 1
      have cKm2 := Km.cell 2
      have cKm3 := Km.cell 3
      have cKm4 := Km.cell 4
      have cKm5 := Km.cell 5
      simp only [List.getElem?_toArray, List.getElem?_cons_succ, List.getElem?_cons_zero] at cKi0 cKi1 cKi2 cKi3 cKm0 cKm1 cKm2 cKm3 cKm4 cKm5
      go_wp2_with fail
      refine (HA.out _).mono ?_
      rintro e_ w1 ⟨rfl, hb1⟩
      replace Ki := Ki.below hb1 lKi
      replace Km := Km.below hb1 lKm
      replace hbw := btrans hbw hb1
      have hown := own_below HOWN.out hb1
      have hsz2 := hb1.size
      clear hb1 HA HOWN lKi cKi0 cKi1 cKi2 cKi3 lKm cKm0 cKm1 cKm2 cKm3 cKm4 cKm5
      have hsz3 : w.heap.size + 2 ≤ w1.heap.size := by omega
      have hO : ∀ o, (w1.alloc o).ownsRow (w.heap.size + 2) 3 1 u9 (lineL W H B s a b c d e f y k).length (numL (lineL W H B s a b c d e f y k)) := fun o => World.ownsRow.alloc hown o
      have HOWN := Lib.hid hown
      have HBW := Lib.hid hbw
      have HKi := Lib.hid Ki
      have HKm := Lib.hid Km
      have hll := lineL_len W H B s a b c d e f y k
      clear hown hbw Ki Km
      go_wp2_with (at_builtin; refine wpList_append_own _ rfl (.tmp 18) (.tmp 26) _ rfl (w.heap.size + 2) 3 i0 _ 1 8 Try.underlying31 hi hz0 hz1 hz2 rfl (by omega) u9 _ _ rfl (hO _) ⟨w1.heap.size, 0, none⟩ 1 1 [.int .i64 z] rfl rfl (one_new _ _ _) (by simp [Value.oneCell']) (by rw [hll]; simp [maxLen]; omega) (by rw [hll]; omega) (by simp; omega) ?_; intro v1 wq hown1 hg1 _)
      go_roundw
      case rel =>
        obtain ⟨h1, h2, h3, h4⟩ := own_put HOWN.out HBW.out (by omega) hsz3 hown1 hg1
        refine ⟨k + 1, by omega, by go_num, ?_, h4 _ _ _ HKi.out (by omega), h4 _ _ _ HKm.out (by omega), h3, h2⟩
        rw [← HZ.out, lineL_put] at h1
        exact h1
      case measure => simp [intOf]; omega
    · obtain rfl : k = n := by omega
      have d1 : decide ((k : Int) < (k : Int)) = false := by simp
      go_wp2_with fail
      go_ret
      exact ⟨_, rfl, hown.ints, hbw⟩

set_option maxRecDepth 100000 in
set_option maxHeartbeats 1600000 in
theorem same_eq (l : List Int) (va vb : Value) (w : World) (ha : IntsV w va l) (hb : IntsV w vb l) (hn : l.length ≤ 4096) : Calls Try.prog 20 #[va, vb] w fun ed w' => ed = .returned (.bool true) ∧ Below w.heap.size w w' := by
  obtain ⟨A, c, rfl, hA⟩ := ha
  obtain ⟨B, c2, rfl, hB⟩ := hb
  go_enter Try.func20, Try.ntmps20
  go_wp2_with fail
  go_loopw [5] (fun iv wr => ∃ k : Nat, k ≤ l.length ∧ iv = .int .i64 (k : Int) ∧ Below w.heap.size w wr) (fun iv _ => l.length - (intOf iv).toNat)
  case atStart => exact ⟨0, by omega, rfl, Below.refl _ _⟩
  case round =>
    obtain ⟨k, hk, rfl, hbw⟩ := hrel
    by_cases hlt : k < l.length
    · have d1 : decide ((k : Int) < (l.length : Int)) = true := by simp; omega
      obtain ⟨b, rfl, hbl, hc⟩ := hA (by omega)
      obtain ⟨b2, rfl, hbl2, hc2⟩ := hB (by omega)
      have q1 := (hbw.cell (p := ⟨b, k, none⟩) hbl).trans (hc k (by omega))
      have q2 := (hbw.cell (p := ⟨b2, k, none⟩) hbl2).trans (hc2 k (by omega))
      generalize l[k]'(by omega) = x at q1 q2
      clear hc hc2 hA hB
      have r1 : b < wr.heap.size := Nat.lt_of_lt_of_le hbl hbw.size
      have r2 : b2 < wr.heap.size := Nat.lt_of_lt_of_le hbl2 hbw.size
      have u1 : ∀ u : Up wr, u.val.cell? ⟨b, k, none⟩ = some (.int .i64 x) := fun u => (u.cell r1).trans q1
      have u2 : ∀ u : Up wr, u.val.cell? ⟨b2, k, none⟩ = some (.int .i64 x) := fun u => (u.cell r2).trans q2
      have HBW := Lib.hid hbw
      clear hbw
      go_wp2_with fail
      refine wp_region_up (by kernel_rfl) (by kernel_rfl) ?_
      repeat (go_big_quiet_step (fail))
      refine wpQuiet_nil ?_
      rintro _ ⟨uq, rfl⟩
      have hbw := btrans HBW.out uq.ok
      generalize hwx : uq.val = wx at *
      clear hwx uq u1 u2 HBW q1 q2 r1 r2
      go_wp2_with fail
      go_roundw
      case rel => exact ⟨k + 1, by omega, by go_num, hbw⟩
      case measure => simp [intOf]; omega
    · have hkn : k = l.length := by omega
      have d1 : decide ((k : Int) < (l.length : Int)) = false := by simp; omega
      go_wp2_with fail
      go_ret
      exact ⟨rfl, hbw⟩

end Go.Proofs.Ytegpjjkbbdfggaa.im
