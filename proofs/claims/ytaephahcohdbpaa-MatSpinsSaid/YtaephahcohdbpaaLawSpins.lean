/-
  MatSpins: a turn by any degrees is made of its cosine and its sine; whole turns change nothing.
-/
import Derived.Test.YtaephahcohdbpaaSpin
import Derived.Test.YtaephahcohdbpaaKnown
namespace Go.Proofs.Ytaephahcohdbpaa.mt
set_option linter.unusedVariables false
set_option linter.unusedSimpArgs false
open Go.RowKit bs

theorem eqB_selfS (A B C D E F : Int) : eqB A B C D E F A B C D E F = true := by unfold eqB; simp

set_option maxRecDepth 100000 in
set_option maxHeartbeats 3200000 in
theorem spins_law (deg : Int) (w : World) (_hd : -9223372036854775808 ≤ deg ∧ deg ≤ 9223372036854775807) : Calls Try.prog 13 #[.int .i64 deg] w fun ed w' => ed = .returned (.bool true) ∧ Below w.heap.size w w' := by
  obtain ⟨r, hr⟩ : ∃ r, deg % 23592960 = r := ⟨_, rfl⟩
  have r0 : 0 ≤ r ∧ r < 23592960 := by omega
  obtain ⟨s, bs_, _, _, _, _, hs⟩ := sin_any r r0
  obtain ⟨c, bc, _, _, _, _, hc⟩ := cos_any r r0
  have hsp : ∀ x, x % 23592960 = r → (∀ W, Calls Try.prog 48 #[.int .i64 x] W fun ed w' => ed = .returned (.agg #[.int .i64 c, .int .i64 s, .int .i64 (-s), .int .i64 c, .int .i64 0, .int .i64 0]) ∧ Below W.heap.size W w') := fun x hx W => spin_of s c x W bs_ bc (hs x hx) (hc x hx)
  have HPl := Lib.hid (fun W => show Calls Try.prog 31 #[.int .i64 deg, .int .i64 23592960] W fun ed w' => ed = .returned (.int .i64 r) ∧ W = w' by have := place_any deg 23592960 W (by omega) (by omega); rw [hr] at this; exact this)
  have HS := Lib.hid (hs deg hr)
  have HC := Lib.hid (hc deg hr)
  have HSp := Lib.hid (hsp deg hr)
  have HSp2 := Lib.hid (hsp r (by omega))
  have HSp3 := Lib.hid (hsp (r + 23592960) (by omega))
  have HMy := Lib.hid (fun W => show Calls Try.prog 30 #[.agg #[.int .i64 c, .int .i64 s, .int .i64 (-s), .int .i64 c, .int .i64 0, .int .i64 0]] W fun ed w' => ed = .returned (.bool true) ∧ Below W.heap.size W w' by have := may_any c s (-s) c 0 0 W; rw [mayB_true (by omega) (by omega) (by omega) (by omega) (by omega) (by omega)] at this; exact this)
  have JG := guard_mat
  have JE : ∀ w, (binOp .eql 23 (.agg #[.int .i64 c, .int .i64 s, .int .i64 (-s), .int .i64 c, .int .i64 0, .int .i64 0]) (.agg #[.int .i64 c, .int .i64 s, .int .i64 (-s), .int .i64 c, .int .i64 0, .int .i64 0])).run Try.prog w = .ok (.bool true) w := fun w => by
    have := eq_mat c s (-s) c 0 0 c s (-s) c 0 0 w
    rw [eqB_selfS] at this
    exact this
  clear hs hc hsp hr
  obtain ⟨r00, r01⟩ := r0
  obtain ⟨bs0, bs1⟩ := bs_
  obtain ⟨bc0, bc1⟩ := bc
  go_enter Try.func13, Try.ntmps13
  go_wp2_with fail
  refine (known_any _).mono ?_
  rintro e_ w1 ⟨rfl, hb1⟩
  have hbw : Below w.heap.size w w1 := btrans (by (repeat' (first | exact Below.refl _ _ | exact Below.refl _ _ | refine balloc ?_ _ | refine Below.drew ?_ | refine below_drewN ?_ _ | refine bset ?_ (by first | omega | (simp <;> omega)) _))) hb1
  clear hb1
  go_wp2_with fail
  refine (HSp.out _).mono ?_
  rintro e_ w2 ⟨rfl, hb2⟩
  replace hbw : Below w.heap.size w w2 := btrans (by (repeat' (first | refine bset ?_ (by first | omega | (simp <;> omega)) _ | refine balloc ?_ _ | refine Below.drew ?_ | refine below_drewN ?_ _ | exact hbw | exact Below.refl _ _))) hb2
  clear hb2
  go_wp2_with fail
  refine (HPl.out _).mono ?_
  rintro e_ w3 ⟨rfl, hsame3⟩
  have hb3 : Below (w2.alloc (.cells #[.int .i64 c, .int .i64 s, .int .i64 (-s), .int .i64 c, .int .i64 0, .int .i64 0] 23)).heap.size (w2.alloc (.cells #[.int .i64 c, .int .i64 s, .int .i64 (-s), .int .i64 c, .int .i64 0, .int .i64 0] 23)) w3 := by rw [hsame3]; exact Below.refl _ _
  clear hsame3
  have Km := (Blk.new w2 23 #[.int .i64 c, .int .i64 s, .int .i64 (-s), .int .i64 c, .int .i64 0, .int .i64 0]).below hb3 (by simp)
  replace hbw : Below w.heap.size w w3 := btrans (by (repeat' (first | refine bset ?_ (by first | omega | (simp <;> omega)) _ | refine balloc ?_ _ | refine Below.drew ?_ | refine below_drewN ?_ _ | exact hbw | exact Below.refl _ _))) hb3
  clear hb3
  have lKm := Km.lt
  have cKm0 := Km.cell 0
  have cKm1 := Km.cell 1
  have cKm2 := Km.cell 2
  have cKm3 := Km.cell 3
  have cKm4 := Km.cell 4
  have cKm5 := Km.cell 5
  simp only [List.getElem?_toArray, List.getElem?_cons_succ, List.getElem?_cons_zero] at cKm0 cKm1 cKm2 cKm3 cKm4 cKm5
  go_wp2_with fail
  have HU1 := Lib.hid (fun u : Up w3 => up_of (u := u) (HC.out u.val))
  have HU2 := Lib.hid (fun u : Up w3 => up_of (u := u) (HS.out u.val))
  have HU3 := Lib.hid (fun u : Up w3 => up_of (u := u) (HMy.out u.val))
  have HU4 := Lib.hid (fun u : Up w3 => up_of (u := u) (HSp2.out u.val))
  have HU5 := Lib.hid (fun u : Up w3 => up_of (u := u) (HSp3.out u.val))
  have uKm0 : ∀ u : Up w3, u.val.cell? ⟨w2.heap.size, 0, none⟩ = some (.int .i64 c) := fun u => (u.cell lKm).trans cKm0
  have uKm1 : ∀ u : Up w3, u.val.cell? ⟨w2.heap.size, 1, none⟩ = some (.int .i64 s) := fun u => (u.cell lKm).trans cKm1
  have uKm2 : ∀ u : Up w3, u.val.cell? ⟨w2.heap.size, 2, none⟩ = some (.int .i64 (-s)) := fun u => (u.cell lKm).trans cKm2
  have uKm3 : ∀ u : Up w3, u.val.cell? ⟨w2.heap.size, 3, none⟩ = some (.int .i64 c) := fun u => (u.cell lKm).trans cKm3
  have uKm4 : ∀ u : Up w3, u.val.cell? ⟨w2.heap.size, 4, none⟩ = some (.int .i64 0) := fun u => (u.cell lKm).trans cKm4
  have uKm5 : ∀ u : Up w3, u.val.cell? ⟨w2.heap.size, 5, none⟩ = some (.int .i64 0) := fun u => (u.cell lKm).trans cKm5
  refine wp_region_up (by kernel_rfl) (by kernel_rfl) ?_
  repeat (go_big_quiet_step (fail))
  go_big_quiet_step (exact HU1.out _)
  repeat (go_big_quiet_step (fail))
  go_big_quiet_step (exact HU2.out _)
  repeat (go_big_quiet_step (fail))
  go_big_quiet_step (exact HU2.out _)
  repeat (go_big_quiet_step (fail))
  go_big_quiet_step (exact HU1.out _)
  repeat (go_big_quiet_step (fail))
  go_big_quiet_step (exact HU3.out _)
  repeat (go_big_quiet_step (fail))
  go_big_quiet_step (exact HU4.out _)
  repeat (go_big_quiet_step (fail))
  go_big_quiet_step (exact HU5.out _)
  repeat (go_big_quiet_step (fail))
  refine wpQuiet_nil ?_
  rintro _ ⟨uq, rfl⟩
  replace hbw := btrans hbw uq.ok
  go_wp2_with fail
  go_ret
  exact ⟨rfl, hbw⟩

end Go.Proofs.Ytaephahcohdbpaa.mt
