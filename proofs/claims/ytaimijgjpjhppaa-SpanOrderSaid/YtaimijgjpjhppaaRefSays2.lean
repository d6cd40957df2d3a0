/-
  The reference for runs: the contracts of Not, Shift.
-/
import Derived.Test.YtaimijgjpjhppaaLawTwo
namespace Go.Proofs.Ytaimijgjpjhppaa.sp
set_option linter.unusedVariables false
set_option linter.unusedSimpArgs false
open Go.RowKit bs

def NoRel (W : World) (p : Nat) (S : Nat → Bool) (k : Nat) (wr : World) : Prop :=
  Blk wr p 41 (rowC fun j => if j < k then !S j else S j) ∧ W.heap.size ≤ p ∧ Below W.heap.size W wr
theorem NoRel.step {W wr : World} {p : Nat} {S : Nat → Bool} {k : Nat} (h : NoRel W p S k wr) (hk : k < 64) : NoRel W p S (k + 1) (wr.setCell ⟨p, k, none⟩ (.bool (!S k))) := by
  obtain ⟨h1, h2, h3⟩ := h
  refine ⟨?_, h2, bset h3 (by show W.heap.size ≤ p; omega) _⟩
  have := h1.set_ k (.bool (!S k))
  rw [rowC_set _ k hk] at this
  have e : rowC (fun j => if j = k then !S k else if j < k then !S j else S j) = rowC (fun j => if j < k + 1 then !S j else S j) := rowC_ext fun i _ => by
    by_cases e : i = k
    · subst e; simp
    · rw [if_neg e]
      by_cases h : i < k
      · rw [if_pos h, if_pos (by omega)]
      · rw [if_neg h, if_neg (by omega)]
  rwa [e] at this

set_option maxRecDepth 100000 in
set_option maxHeartbeats 800000 in
theorem rnot_any (A : Option Addr) (n c : Nat) (l : List (Int × Int)) (x : Int) (w : World) (hr : Runs w A n c l) (hn : n ≤ 9223372036854775807) :
    Calls Try.prog 26 #[.slice A n c, .int .i64 x] w fun e w' => ∃ A' c', e = .returned (.slice A' (notL l x).length c') ∧ Runs w' A' (notL l x).length c' (notL l x) ∧ Below w.heap.size w w' := by
  go_enter Try.func26, Try.ntmps26
  go_wp2_with fail
  refine (places_any A n c l _ hr hn).mono ?_
  rintro e w1 ⟨rfl, hb1⟩
  have K1 := Blk.new w1 41 (Array.replicate 64 (.bool false))
  go_wp2_with (refine wpList_store_row rfl 41 (.tmp 5) (.tmp 8) rfl _ (rowC (inRuns l)) rfl rfl _ _ K1 (by rw [rowC_size]; kernel_rfl) (by rw [rowC_size]; rfl) (rowC_one _) ?_)
  have e0 : rowC (fun j => if j < 0 then !inRuns l j else inRuns l j) = rowC (inRuns l) := rowC_ext fun i _ => by simp
  go_loopw [6] (fun kv wr => ∃ k : Nat, k ≤ 64 ∧ kv = .int .i64 k ∧ NoRel w w1.heap.size (inRuns l) k wr) (fun kv _ => 64 - (intOf kv).toNat)
  case atStart => exact ⟨0, by omega, rfl, by rw [e0]; exact K1.row (rowC (inRuns l)), hb1.size, brow (balloc hb1 _) hb1.size _⟩
  case round =>
    obtain ⟨k, hk, rfl, hR⟩ := hrel
    by_cases hlt : k < 64
    · have c0 : wr.cell? ⟨w1.heap.size, k, none⟩ = some (.bool (inRuns l k)) := by rw [hR.1.cell, rowC_get _ k hlt]; simp
      have c3 := hR.1.frozen k
      have hnext := hR.step hlt
      go_wp2_with fail
      go_roundw
      case rel => exact ⟨k + 1, by omega, by go_num, hnext⟩
      case measure => simp [intOf]; omega
    · obtain rfl : k = 64 := by omega
      obtain ⟨h1, h2, h3⟩ := hR
      have e : rowC (fun j => if j < 64 then !inRuns l j else inRuns l j) = rowC fun j => !inRuns l j := rowC_ext fun i hi => by rw [if_pos hi]
      rw [e] at h1
      go_wp2_with (refine wpList_load_row rfl 41 (.tmp 5) rfl _ rfl _ _ _ _ h1 Try.underlying41 rfl (by rw [rowC_size]; kernel_rfl) ?_)
      refine (rruns_any _ x _).mono ?_
      rintro e w4 ⟨A', c', rfl, hr4, hb4⟩
      go_wp2_with fail
      go_ret
      exact ⟨A', c', rfl, hr4, btrans h3 hb4⟩

/-- the reference's row in the middle of a shift -/
def SrRel (W : World) (l : List (Int × Int)) (b : Int) (p q k : Nat) (wr : World) : Prop :=
  Blk wr p 41 (rowC (inRuns l)) ∧ Blk wr q 41 (rowC fun t => moved l b 64 t && decide ((t : Int) - b < k)) ∧ W.heap.size ≤ q ∧ q < p ∧ Below W.heap.size W wr
theorem SrRel.skip {W wr : World} {l : List (Int × Int)} {b : Int} {p q k : Nat} (h : SrRel W l b p q k wr) (hno : ∀ t : Nat, t < 64 → (t : Int) = k + b → moved l b 64 t = false) : SrRel W l b p q (k + 1) wr := by
  obtain ⟨h1, h2, h3⟩ := h
  refine ⟨h1, ?_, h3⟩
  have e : rowC (fun t => moved l b 64 t && decide ((t : Int) - b < k)) = rowC (fun t => moved l b 64 t && decide ((t : Int) - b < (k + 1 : Nat))) := rowC_ext fun t ht => by
    by_cases ht2 : (t : Int) = k + b
    · rw [hno t ht ht2]; rfl
    · congr 1
      simp; omega
  rwa [← e]
theorem SrRel.put {W wr : World} {l : List (Int × Int)} {b : Int} {p q k t : Nat} (h : SrRel W l b p q k wr) (ht : (t : Int) = k + b) (ht64 : t < 64) (hm : moved l b 64 t = true) :
    SrRel W l b p q (k + 1) (wr.setCell ⟨q, t, none⟩ (.bool true)) := by
  obtain ⟨h1, h2, h3, h4, h5⟩ := h
  refine ⟨h1.far (by show p ≠ q; omega) _, ?_, h3, h4, bset h5 (by show W.heap.size ≤ q; omega) _⟩
  have := h2.set_ t (.bool true)
  rw [rowC_set _ t ht64] at this
  have e : rowC (fun j => if j = t then true else moved l b 64 j && decide ((j : Int) - b < k)) = rowC (fun t => moved l b 64 t && decide ((t : Int) - b < (k + 1 : Nat))) := rowC_ext fun j hj => by
    by_cases e : j = t
    · subst e; rw [if_pos rfl, hm]; simp; omega
    · rw [if_neg e]
      congr 1
      simp; omega
  rwa [e] at this
theorem moved_zero (l : List (Int × Int)) (b : Int) : (rowC fun t => moved l b 64 t && decide ((t : Int) - b < (0 : Nat))) = rowC fun _ => false := rowC_ext fun t _ => by
  unfold moved
  by_cases h : 0 ≤ (t : Int) - b
  · simp; intros; omega
  · simp; intros; omega
theorem moved_all (l : List (Int × Int)) (b : Int) : (rowC fun t => moved l b 64 t && decide ((t : Int) - b < (64 : Nat))) = rowC (moved l b 64) := rowC_ext fun t _ => by
  unfold moved
  by_cases hh : (t : Int) - b < 64
  · simp [hh]
  · simp [hh]
theorem shift_cut (l : List (Int × Int)) (b x : Int) (h : -64 < b ∧ b < 64) : shift l b x = rl (moved l b 64) (max 0 (min x 64)).toNat := by
  unfold shift
  rw [if_pos h]
  obtain ⟨m, hm⟩ : ∃ m : Nat, (m : Int) = max 0 (min x 64) := ⟨(max 0 (min x 64)).toNat, by omega⟩
  have hm64 : m ≤ 64 := by omega
  rw [← hm, Int.toNat_natCast]
  have e1 : rl (moved l b m) 64 = rl (moved l b m) m := by
    obtain ⟨d, hd⟩ : ∃ d, 64 = m + d := ⟨64 - m, by omega⟩
    rw [hd]
    exact rl_stay (fun j hj => by unfold moved; rw [show decide ((j : Int) < (m : Int)) = false by simp; omega]; simp) d
  rw [e1]
  refine rl_ext m fun i hi => ?_
  unfold moved
  have a4 : decide ((i : Int) < (m : Int)) = true := by simp; omega
  have a5 : decide ((i : Int) < 64) = true := by simp; omega
  rw [a4, a5]

set_option maxRecDepth 100000 in
set_option maxHeartbeats 1600000 in
theorem rshift_any (A : Option Addr) (n c : Nat) (l : List (Int × Int)) (b x : Int) (w : World) (hr : Runs w A n c l) (hn : n ≤ 9223372036854775807) :
    Calls Try.prog 30 #[.slice A n c, .int .i64 b, .int .i64 x] w fun e w' => ∃ A' c', e = .returned (.slice A' (shift l b x).length c') ∧ Runs w' A' (shift l b x).length c' (shift l b x) ∧ Below w.heap.size w w' := by
  by_cases hb : -64 < b ∧ b < 64
  · rw [shift_cut l b x hb]
    obtain ⟨b0, b1⟩ := hb
    have d1 : decide (b ≤ -64) = false := by simp; omega
    have d2 : decide (64 ≤ b) = false := by simp; omega
    go_enter Try.func30, Try.ntmps30
    go_wp2_with fail
    refine (places_any A n c l _ (hr.below (balloc (Below.refl _ _) _)) hn).mono ?_
    rintro e w1 ⟨rfl, hb1⟩
    have K0 := (Blk.new w 41 (Array.replicate 64 (.bool false))).below hb1 (by simp)
    have hz : w.heap.size < w1.heap.size := K0.lt
    have hb2 : Below w.heap.size w w1 := btrans (balloc (Below.refl _ _) _) hb1
    have K1 := Blk.new w1 41 (Array.replicate 64 (.bool false))
    go_wp2_with (refine wpList_store_row rfl 41 (.tmp 8) (.tmp 12) rfl _ (rowC (inRuns l)) rfl rfl _ _ K1 (by rw [rowC_size]; kernel_rfl) (by rw [rowC_size]; rfl) (rowC_one _) ?_)
    go_loopw [9] (fun kv wr => ∃ k : Nat, k ≤ 64 ∧ kv = .int .i64 k ∧ SrRel w l b w1.heap.size w.heap.size k wr) (fun kv _ => 64 - (intOf kv).toNat)
    case atStart => exact ⟨0, by omega, rfl, K1.row _, by rw [moved_zero, ← rowC_zero]; exact (K0.alloc _).rowFar (by omega) _, Nat.le_refl _, hz, brow (balloc hb2 _) (by omega) _⟩
    case round =>
      obtain ⟨k, hk, rfl, hR⟩ := hrel
      by_cases hlt : k < 64
      · have c0 : wr.cell? ⟨w1.heap.size, k, none⟩ = some (.bool (inRuns l k)) := by rw [hR.1.cell, rowC_get _ k hlt]
        cases hS : inRuns l k with
        | false =>
          rw [hS] at c0
          have hnext := hR.skip (fun t _ e => by unfold moved; rw [show ((t : Int) - b).toNat = k by omega, hS]; simp)
          clear hS
          go_wp2_with fail
          go_roundw
          case rel => exact ⟨k + 1, by omega, by go_num, hnext⟩
          case measure => simp [intOf]; omega
        | true =>
          rw [hS] at c0
          by_cases h0 : (k : Int) + b < 0
          · have hnext := hR.skip (fun t _ e => absurd e (by omega))
            clear hS
            go_wp2_with fail
            go_roundw
            case rel => exact ⟨k + 1, by omega, by go_num, hnext⟩
            case measure => simp [intOf]; omega
          · obtain ⟨t, ht⟩ := Int.eq_ofNat_of_zero_le (show 0 ≤ (k : Int) + b by omega)
            by_cases h1 : t < 64
            · have hmv : moved l b 64 t = true := by
                unfold moved
                rw [show ((t : Int) - b).toNat = k by omega, hS]
                simp; omega
              have hnext := hR.put (t := t) (by omega) h1 hmv
              have c2 : ∃ v, wr.cell? ⟨w.heap.size, t, none⟩ = some v := ⟨_, by rw [hR.2.1.cell, rowC_get _ t h1]⟩
              obtain ⟨v, c2⟩ := c2
              have c3 := hR.2.1.frozen t
              clear hS hmv
              go_wp2_with fail
              go_roundw
              case rel => exact ⟨k + 1, by omega, by go_num, hnext⟩
              case measure => simp [intOf]; omega
            · have hnext := hR.skip (fun t2 ht2 e => absurd ht2 (by omega))
              have ht99 : t < 128 := by omega
              clear hS
              go_wp2_with fail
              go_roundw
              case rel => exact ⟨k + 1, by omega, by go_num, hnext⟩
              case measure => simp [intOf]; omega
      · obtain rfl : k = 64 := by omega
        obtain ⟨h1, h2, h3, h4, h5⟩ := hR
        rw [moved_all] at h2
        go_wp2_with (refine wpList_load_row rfl 41 (.tmp 7) rfl _ rfl _ _ _ _ h2 Try.underlying41 rfl (by rw [rowC_size]; kernel_rfl) ?_)
        refine (rruns_any _ x _).mono ?_
        rintro e w4 ⟨A', c', rfl, hr4, hb4⟩
        go_wp2_with fail
        go_ret
        exact ⟨A', c', rfl, hr4, btrans h5 hb4⟩
  · have he : shift l b x = [] := by unfold shift; rw [if_neg hb]
    rw [he]
    clear he
    by_cases h0 : -64 < b
    all_goals
      go_enter Try.func30, Try.ntmps30
      go_wp2_with fail
      refine (places_any A n c l _ (hr.below (balloc (Below.refl _ _) _)) hn).mono ?_
      rintro e w1 ⟨rfl, hb1⟩
      have hb2 : Below w.heap.size w w1 := btrans (balloc (Below.refl _ _) _) hb1
      have K1 := Blk.new w1 41 (Array.replicate 64 (.bool false))
      go_wp2_with (refine wpList_store_row rfl 41 (.tmp 8) (.tmp 12) rfl _ (rowC (inRuns l)) rfl rfl _ _ K1 (by rw [rowC_size]; kernel_rfl) (by rw [rowC_size]; rfl) (rowC_one _) ?_)
      go_ret
      exact ⟨none, 0, rfl, Runs.nil_, brow (balloc hb2 _) hb2.size _⟩
end Go.Proofs.Ytaimijgjpjhppaa.sp
