/-
  Layer 4: sine of up to a quarter.
-/
import Derived.Test.YtaephahcohdbpaaSine
import Derived.Deep.CutRange
import Derived.Laws.Tables
namespace Go.Proofs.Ytaephahcohdbpaa.mt
set_option linter.unusedVariables false
set_option linter.unusedSimpArgs false
open Go.RowKit bs

/-- the sines of whole degrees -/
def tab : List Int := [0, 1144, 2287, 3430, 4572, 5712, 6850, 7987, 9121, 10252, 11380, 12505, 13626, 14742, 15855, 16962, 18064, 19161, 20252, 21336, 22415, 23486, 24550, 25607, 26656, 27697, 28729, 29753, 30767, 31772, 32768, 33754, 34729, 35693, 36647, 37590, 38521, 39441, 40348, 41243, 42126, 42995, 43852, 44695, 45525, 46341, 47143, 47930, 48703, 49461, 50203, 50931, 51643, 52339, 53020, 53684, 54332, 54963, 55578, 56175, 56756, 57319, 57865, 58393, 58903, 59396, 59870, 60326, 60764, 61183, 61584, 61966, 62328, 62672, 62997, 63303, 63589, 63856, 64104, 64332, 64540, 64729, 64898, 65048, 65177, 65287, 65376, 65446, 65496, 65526, 65536]
def tabC : Array Value := (tab.map fun n => Value.int .i64 n).toArray
theorem tab_ok : ∀ k : Nat, k < 91 → 0 ≤ tab.getD k 0 ∧ tab.getD k 0 ≤ 65536 := by decide
theorem tab_step : ∀ k : Nat, k < 90 → -2000 ≤ tab.getD (k + 1) 0 - tab.getD k 0 ∧ tab.getD (k + 1) 0 - tab.getD k 0 ≤ 2000 := by decide
theorem tabC_get (k : Nat) (h : k < 91) : tabC[k]? = some (.int .i64 (tab.getD k 0)) := by
  have hl : tab.length = 91 := by decide
  simp [tabC, List.getD, List.getElem?_eq_getElem (show k < tab.length by omega)]

theorem wpList_build_as {P : Program} {ops : Array Oper} {rest : List Oper} {o : Oper} {a : Act} {w : World} {Q : Exit → Act → World → Prop} (hg : o.guard = none) (t : TypeId) (parts : Array (Nat × Operand)) (ho : o.op = .build t parts)
    (cells : Array Value) (hc : P.built t (parts.map fun (i, x) => (i, a.eval x)).toList = some cells) (h : wpList P ops Q rest (a.put o.dst (.agg cells)) w) : wpList P ops Q (o :: rest) a w :=
  wpList_build hg t parts ho (by rw [hc]; rfl) (by rw [hc]; exact h)

set_option maxRecDepth 100000 in
set_option maxHeartbeats 1600000 in
theorem sine_any (deg : Int) (h0 : 0 ≤ deg ∧ deg ≤ 5898240) : ∃ v : Int, (-70000 ≤ v ∧ v ≤ 70000) ∧ (deg % 65536 = 0 → v = tab.getD (deg / 65536).toNat 0) ∧ ∀ w, Calls Try.prog 70 #[.int .i64 deg] w fun e w' => e = .returned (.int .i64 v) ∧ Below w.heap.size w w' := by
  obtain ⟨k, hk⟩ := Int.eq_ofNat_of_zero_le (show 0 ≤ deg / 65536 by omega)
  obtain ⟨r, hr⟩ := Int.eq_ofNat_of_zero_le (show 0 ≤ deg % 65536 by omega)
  have hdiv : deg.tdiv 65536 = (k : Int) := by rw [Int.tdiv_eq_ediv_of_nonneg h0.1, hk]
  have hmod : deg.tmod 65536 = (r : Int) := by rw [Int.tmod_eq_emod_of_nonneg h0.1, hr]
  have hk90 : k ≤ 90 := by omega
  have hr1 : r < 65536 := by omega
  rw [hk, hr]
  simp only [Int.toNat_natCast]
  by_cases hz : r = 0
  · have t1 := tab_ok k (by omega)
    refine ⟨tab.getD k 0, by omega, fun _ => rfl, fun w => ?_⟩
    have hc := tabC_get k (by omega)
    generalize tab.getD k 0 = v at *
    have K0 := Blk.new w 82 Try.zeroCells82
    have K1 := (K0.row tabC).cell k
    rw [hc] at K1
    have hr0 : ((r : Int) == 0) = true := by simp [hz]
    have hk0 : (0 : Int) ≤ (k : Int) := by omega
    have hk1 : (k : Int) < 91 := by omega
    have hbw : Below w.heap.size w ((w.alloc (.cells Try.zeroCells82 82)).setRow w.heap.size tabC) := brow (by (repeat' (first | exact Below.refl _ _ | exact Below.refl _ _ | refine balloc ?_ _ | refine Below.drew ?_ | refine below_drewN ?_ _ | refine bset ?_ (by first | omega | (simp <;> omega)) _))) (Nat.le_refl _) _
    have HB := Lib.hid hbw
    clear hbw hc t1 hk hr
    go_enter Try.func70, Try.ntmps70
    go_upto_region 1 with fail
    simp only [List.append]
    go_wp2_with (first
      | (refine wpList_build_as rfl 82 _ rfl tabC (by kernel_rfl) ?_)
      | (refine wpList_store_row rfl 82 (.tmp 3) (.tmp 8) rfl _ tabC rfl rfl _ _ K0 (by kernel_rfl) (by kernel_rfl) (by kernel_rfl) ?_))
    go_ret
    exact ⟨rfl, HB.out⟩
  · have hk89 : k < 90 := by omega
    have t1 := tab_ok k (by omega)
    have t2 := tab_step k hk89
    have hc := tabC_get k (by omega)
    have hc2 := tabC_get (k + 1) (by omega)
    generalize tab.getD k 0 = v at *
    generalize tab.getD (k + 1) 0 = v2 at *
    obtain ⟨q, hq, hM⟩ : ∃ q : Int, (-2001 ≤ q ∧ q ≤ 2001) ∧ ∀ w, Calls Try.prog 76 #[.int .i64 (v2 - v), .int .i64 (r : Int)] w fun e w' => e = .returned (.tuple #[.int .i64 q, .bool true]) ∧ Below w.heap.size w w' := fmul_small' (v2 - v) (r : Int) t2 (by omega)
    refine ⟨v + q, by omega, fun h => absurd h (by omega), fun w => ?_⟩
    have HM := Lib.hid hM
    have K0 := Blk.new w 82 Try.zeroCells82
    have K1 := (K0.row tabC).cell k
    rw [hc] at K1
    have K2 := (K0.row tabC).cell (k + 1)
    rw [hc2] at K2
    have KB := Lib.hid (K0.row tabC)
    have hr0 : ((r : Int) == 0) = false := by simp [hz]
    have hk0 : (0 : Int) ≤ (k : Int) := by omega
    have hk1 : (k : Int) < 91 := by omega
    have hk2 : (0 : Int) ≤ (k : Int) + 1 := by omega
    have hk3 : (k : Int) + 1 < 91 := by omega
    have hk4 : ((k : Int) + 1).toNat = k + 1 := by omega
    have hbw : Below w.heap.size w ((w.alloc (.cells Try.zeroCells82 82)).setRow w.heap.size tabC) := brow (by (repeat' (first | exact Below.refl _ _ | exact Below.refl _ _ | refine balloc ?_ _ | refine Below.drew ?_ | refine below_drewN ?_ _ | refine bset ?_ (by first | omega | (simp <;> omega)) _))) (Nat.le_refl _) _
    have HB := Lib.hid hbw
    have HC := Lib.hid hc
    have HC2 := Lib.hid hc2
    obtain ⟨t10, t11⟩ := t1
    obtain ⟨t20, t21⟩ := t2
    obtain ⟨q0, q1⟩ := hq
    clear hbw hc hc2 hk hr hM
    go_enter Try.func70, Try.ntmps70
    go_upto_region 1 with fail
    simp only [List.append]
    go_wp2_with (first
      | (refine wpList_build_as rfl 82 _ rfl tabC (by kernel_rfl) ?_)
      | (refine wpList_store_row rfl 82 (.tmp 3) (.tmp 8) rfl _ tabC rfl rfl _ _ K0 (by kernel_rfl) (by kernel_rfl) (by kernel_rfl) ?_))
    have Kw := KB.out
    generalize hw3 : ((w.alloc (.cells Try.zeroCells82 82)).setRow w.heap.size tabC) = w3 at *
    have l3 := Kw.lt
    have u1 : ∀ u : Up w3, u.val.cell? ⟨w.heap.size, k, none⟩ = some (.int .i64 v) := fun u => (u.cell l3).trans K1
    have u2 : ∀ u : Up w3, u.val.cell? ⟨w.heap.size, k + 1, none⟩ = some (.int .i64 v2) := fun u => (u.cell l3).trans K2
    have HU := Lib.hid (fun u : Up w3 => up_of (u := u) (HM.out u.val))
    refine wp_region_up (by kernel_rfl) (by kernel_rfl) ?_
    repeat (go_big_quiet_step (fail))
    go_big_quiet_step (exact HU.out _)
    repeat (go_big_quiet_step (fail))
    refine wpQuiet_nil ?_
    rintro _ ⟨uq, rfl⟩
    have K5 := u1 uq
    have hbz : Below w.heap.size w uq.val := btrans HB.out uq.ok
    generalize uq.val = w4 at *
    go_wp2_with fail
    go_ret
    exact ⟨rfl, hbz⟩
end Go.Proofs.Ytaephahcohdbpaa.mt
