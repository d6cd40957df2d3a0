/-
  Layer 30: slices of numbers; Place; Few: some runs within 40 places.
-/
import Derived.Test.YtaimijgjpjhppaaLawLaws
namespace Go.Proofs.Ytaimijgjpjhppaa.sp
set_option linter.unusedVariables false
set_option linter.unusedSimpArgs false
open Go.RowKit bs

theorem tmod_cases (v n : Int) (h0 : 0 < n) : ∃ q : Int, v.tmod n = q ∧ -n < q ∧ q < n ∧ (q < 0 → q + n = v % n) ∧ (0 ≤ q → q = v % n) := by
  refine ⟨_, rfl, ?_⟩
  rcases Int.lt_or_le v 0 with hv | hv
  · have e : v.tmod n = -((-v) % n) := by
      have := Int.neg_tmod (-v) n
      rw [Int.neg_neg] at this
      rw [this, Int.tmod_eq_emod_of_nonneg (by omega)]
    have b0 := Int.emod_nonneg (-v) (show n ≠ 0 by omega)
    have b1 := Int.emod_lt_of_pos (-v) h0
    have c0 := Int.emod_nonneg v (show n ≠ 0 by omega)
    have c1 := Int.emod_lt_of_pos v h0
    have d1 := Int.mul_ediv_add_emod (-v) n
    have d2 := Int.mul_ediv_add_emod v n
    rw [e]
    have key : (v % n = 0 ∧ (-v) % n = 0) ∨ v % n = n - (-v) % n := by
      have hs : n * ((-v) / n + v / n) = -((-v) % n + v % n) := by rw [Int.mul_add]; omega
      have hb : (-v) / n + v / n = 0 ∨ (-v) / n + v / n = -1 := by
        have h1 : n * ((-v) / n + v / n) ≤ 0 := by omega
        have h2 : -(2 * n) < n * ((-v) / n + v / n) := by omega
        have h3 : (-v) / n + v / n ≤ 0 := by
          rcases Int.lt_or_le 0 ((-v) / n + v / n) with h | h
          · have := Int.mul_pos h0 h; omega
          · exact h
        have h4 : -2 < (-v) / n + v / n := by
          rcases Int.lt_or_le (-2) ((-v) / n + v / n) with h | h
          · exact h
          · have := Int.mul_le_mul_of_nonneg_left h (show 0 ≤ n by omega); omega
        omega
      rcases hb with hb | hb <;> rw [hb] at hs <;> omega
    omega
  · rw [Int.tmod_eq_emod_of_nonneg hv]
    have b0 := Int.emod_nonneg v (show n ≠ 0 by omega)
    have b1 := Int.emod_lt_of_pos v h0
    omega

theorem place_any (v n : Int) (w : World) (h0 : 0 < n) (h1 : n ≤ 1152921504606846976) :
    Calls Try.prog 17 #[.int .i64 v, .int .i64 n] w fun e w' => e = .returned (.int .i64 (v % n)) ∧ w = w' := by
  have hne : (n == 0) = false := by simp; omega
  obtain ⟨q, hq, q0, q1, q2, q3⟩ := tmod_cases v n h0
  have Q2 := Lib.hid q2
  have Q3 := Lib.hid q3
  clear q2 q3
  go_enter Try.func17, Try.ntmps17
  go_wp2_with fail
  all_goals go_ret
  all_goals refine ⟨ret_int ?_, rfl⟩
  · exact Q2.out (by omega)
  · exact Q3.out (by omega)


theorem place_in (v n : Int) (w : World) (h0 : 0 < n) (h1 : n ≤ 1152921504606846976) :
    Calls Try.prog 17 #[.int .i64 v, .int .i64 n] w fun e w' => ∃ q : Int, e = .returned (.int .i64 q) ∧ 0 ≤ q ∧ q < n ∧ w = w' :=
  (place_any v n w h0 h1).mono fun e w' ⟨he, hw⟩ => ⟨v % n, he, Int.emod_nonneg v (by omega), Int.emod_lt_of_pos v h0, hw⟩

/-- the slice at A, of length n, holds the numbers ns -/
def Ints (w : World) (A : Option Addr) (n c : Nat) (ns : Nat → Int) : Prop :=
  n ≤ c ∧ (0 < n → ∃ b o, A = some ⟨b, o, none⟩ ∧ b < w.heap.size ∧ ∀ j, j < n → w.cell? ⟨b, o + j, none⟩ = some (.int .i64 (ns j)))
theorem Ints.below {w w' : World} {A : Option Addr} {n c : Nat} {ns : Nat → Int} (h : Ints w A n c ns) (hb : Below w.heap.size w w') : Ints w' A n c ns := by
  obtain ⟨h2, h3⟩ := h
  refine ⟨h2, fun hn => ?_⟩
  obtain ⟨b, o, e, hlt, hc⟩ := h3 hn
  exact ⟨b, o, e, Nat.lt_of_lt_of_le hlt hb.size, fun j hj => (hb.cell (p := ⟨b, o + j, none⟩) hlt).trans (hc j hj)⟩
theorem Ints.belowB {W w' : World} {A : Option Addr} {n c : Nat} {ns : Nat → Int} (h : Ints W A n c ns) (hb : Below W.heap.size W w') : Ints w' A n c ns := h.below hb

/-- runs within 40 places -/
def InRow (l : List (Int × Int)) : Prop := ∀ r ∈ l, 0 ≤ r.1 ∧ r.1 ≤ 29 ∧ -1 ≤ r.2 ∧ r.2 ≤ 40
theorem InRow.far {l : List (Int × Int)} (h : InRow l) (i : Nat) (hi : 40 ≤ i) : inRuns l i = false := by
  unfold inRuns
  rw [List.any_eq_false]
  intro r hr
  have := h r hr
  simp; omega
def FewRel (W : World) (k : Nat) (v : Value) (wr : World) : Prop :=
  ∃ l : List (Int × Int), l.length = k ∧ InRow l ∧ OwnRuns wr W.heap.size v l ∧ Below W.heap.size W wr
theorem FewRel.put {W wr w1 : World} {k : Nat} {v v1 : Value} {l : List (Int × Int)} {p q : Int} (hk : l.length = k) (hr : InRow l) (h1 : OwnRuns wr W.heap.size v l) (h3 : Below W.heap.size W wr)
    (hown : w1.ownsRow W.heap.size 26 2 v1 (l.length + 1) (flat l ++ [.int .i64 p, .int .i64 (p + q - 1)])) (p0 : 0 ≤ p) (p1 : p < 30) (q0 : 0 ≤ q) (q1 : q < 12)
    {o : Obj} (hg : (wr.alloc o).grownBy w1 v.ownBlock) : FewRel W (k + 1) v1 w1 := by
  have hne : ∀ k, v.ownBlock = some k → W.heap.size ≤ k := fun k hk => (h1.lt k hk).1
  refine ⟨l ++ [(p, p + q - 1)], by simp [hk], ?_, ?_, ?_⟩
  · intro r hr2
    rcases List.mem_append.1 hr2 with h | h
    · exact hr r h
    · obtain rfl : r = (p, p + q - 1) := by simpa using h
      exact ⟨p0, by show p ≤ 29; omega, by show -1 ≤ p + q - 1; omega, by show p + q - 1 ≤ 40; omega⟩
  · unfold OwnRuns
    simpa [flat] using hown
  · exact (h3.alloc h3.size o).grown hg (by have := h3.size; simp; omega) (fun k hk => by have := hne k hk; omega)

set_option maxRecDepth 100000 in
set_option maxHeartbeats 1600000 in
theorem few_any (A : Option Addr) (n c : Nat) (ns : Nat → Int) (w : World) (hr : Ints w A n c ns) (hn : n ≤ 9223372036854775807) :
    Calls Try.prog 16 #[.slice A n c] w fun e w' => ∃ (l : List (Int × Int)) (B : Option Addr) (d : Nat), e = .returned (.slice B l.length d) ∧ Runs w' B l.length d l ∧ l.length ≤ 10 ∧ InRow l ∧ Below w.heap.size w w' := by
  obtain ⟨i0, hi, hz0, hz1, hz2⟩ := info_parts (show (Try.prog.info? 26).map (fun i => (i.zero, i.size, i.bytes)) = some (some (.agg #[.int .i64 0, .int .i64 0]), 2, 16) by kernel_rfl)
  go_enter Try.func16, Try.ntmps16
  go_wp2_with fail
  go_loopw [3, 4] (fun lv iv wr => ∃ k : Nat, k ≤ 10 ∧ iv = .int .i64 ((2 * k : Nat) : Int) ∧ FewRel w k lv wr) (fun _ iv _ => 40 - (intOf iv).toNat)
  case atStart => exact ⟨0, by omega, rfl, [], rfl, fun r hr => (by cases hr), ⟨by simp [flat], .inl ⟨rfl, rfl⟩⟩, Below.refl _ _⟩
  case round =>
    obtain ⟨k, hk, rfl, l, hlk, hin, hown, hbw⟩ := hrel
    have hsz := hbw.size
    by_cases hlt : 2 * k + 1 < n
    · by_cases h20 : k < 10
      · obtain ⟨hnc, hcell⟩ := hr.below hbw
        obtain ⟨b, o, rfl, hb, hcell⟩ := hcell (by omega)
        have c1 := hcell (2 * k) (by omega)
        have c2 := hcell (2 * k + 1) hlt
        generalize ns (2 * k) = x at *
        generalize ns (2 * k + 1) = y at *
        have d1 : decide (((2 * k : Nat) : Int) + 1 < (n : Int)) = true := by simp; omega
        have d2 : decide (((2 * k : Nat) : Int) < 20) = true := by simp; omega
        have hO : ∀ o, (wr.alloc o).ownsRow w.heap.size 26 2 u3 l.length (flat l) := fun o => World.ownsRow.alloc hown o
        clear hcell
        go_wp2_with fail
        refine (place_in x 30 _ (by omega) (by omega)).mono ?_
        rintro e w2 ⟨p, rfl, p0, p1, rfl⟩
        go_wp2_with fail
        refine (place_in y 12 _ (by omega) (by omega)).mono ?_
        rintro e w2 ⟨q, rfl, q0, q1, rfl⟩
        go_wp2_with (at_builtin; refine wpList_append_own _ rfl (.tmp 22) (.tmp 34) _ rfl w.heap.size 26 i0 _ 2 16 Try.underlying22 hi hz0 hz1 hz2 rfl (by omega) u3 _ _ rfl (hO _) ⟨wr.heap.size, 0, none⟩ 1 1 [.int .i64 p, .int .i64 (p + q - 1)] rfl rfl (two_new _ _ _ _) (by simp [Value.oneCell']) (by unfold maxLen; omega) (by omega) (by simp; omega) ?_; intro v1 w1 hown1 hg1 _)
        go_roundw
        case rel => exact ⟨k + 1, by omega, by go_num, FewRel.put hlk hin hown hbw hown1 p0 p1 q0 q1 hg1⟩
        case measure => simp [intOf]; omega
      · obtain rfl : k = 10 := by omega
        have d1 : decide (((2 * 10 : Nat) : Int) + 1 < (n : Int)) = true := by simp; omega
        go_wp2_with fail
        go_ret
        obtain ⟨B, d, rfl, hr2⟩ := hown.runs
        exact ⟨l, B, d, rfl, hr2, by omega, hin, hbw⟩
    · have d1 : decide (((2 * k : Nat) : Int) + 1 < (n : Int)) = false := by simp; omega
      go_wp2_with fail
      go_ret
      obtain ⟨B, d, rfl, hr2⟩ := hown.runs
      exact ⟨l, B, d, rfl, hr2, by omega, hin, hbw⟩
end Go.Proofs.Ytaimijgjpjhppaa.sp
