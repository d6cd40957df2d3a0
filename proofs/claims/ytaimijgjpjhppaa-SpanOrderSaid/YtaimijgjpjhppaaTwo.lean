/-
  The reference's Two; the law SpanTwo.
-/
import Derived.Test.YtaimijgjpjhppaaSame
namespace Go.Proofs.Ytaimijgjpjhppaa.sp
set_option linter.unusedVariables false
set_option linter.unusedSimpArgs false
open Go.RowKit bs

def TwoRel (W : World) (p : Nat) (S T : Nat → Bool) (h : Bool → Bool → Bool) (k : Nat) (wr : World) : Prop :=
  Blk wr p 41 (rowC S) ∧ Blk wr (p + 1) 41 (rowC T) ∧
    Blk wr (p + 2) 41 (rowC fun j => decide (j < k) && h (S j) (T j)) ∧ W.heap.size ≤ p ∧ Below W.heap.size W wr
theorem TwoRel.step {W wr : World} {p : Nat} {S T : Nat → Bool} {h : Bool → Bool → Bool} {k : Nat} (hr : TwoRel W p S T h k wr) (hk : k < 64) :
    TwoRel W p S T h (k + 1) (wr.setCell ⟨p + 2, k, none⟩ (.bool (h (S k) (T k)))) := by
  obtain ⟨h0, h1, h3, hp, hb⟩ := hr
  refine ⟨h0.far (by simp) _, h1.far (by simp) _, ?_, hp, bset hb (by show W.heap.size ≤ p + 2; omega) _⟩
  have := h3.set_ k (.bool (h (S k) (T k)))
  rw [rowC_set _ k hk] at this
  have e : rowC (fun j => if j = k then h (S k) (T k) else decide (j < k) && h (S j) (T j)) = rowC (fun j => decide (j < k + 1) && h (S j) (T j)) := rowC_ext fun i _ => by
    by_cases e : i = k
    · subst e; simp
    · rw [if_neg e]
      congr 1
      simp; omega
  rw [e] at this
  exact this
theorem TwoRel.drew {W wr : World} {p : Nat} {S T : Nat → Bool} {h : Bool → Bool → Bool} {k : Nat} (hr : TwoRel W p S T h k wr) : TwoRel W p S T h k wr.drew :=
  ⟨hr.1.drew, hr.2.1.drew, hr.2.2.1.drew, hr.2.2.2.1, hr.2.2.2.2.drew⟩
theorem TwoRel.start {W w2 : World} {S T : Nat → Bool} {h : Bool → Bool → Bool} (hb : Below W.heap.size W w2) : TwoRel W w2.heap.size S T h 0
    (((((w2.alloc (.cells (Array.replicate 64 (.bool false)) 41)).alloc (.cells (Array.replicate 64 (.bool false)) 41)).setRow w2.heap.size (rowC S)).setRow (w2.heap.size + 1) (rowC T)).alloc (.cells (Array.replicate 64 (.bool false)) 41)) := by
  have b0 := Blk.new w2 41 (Array.replicate 64 (.bool false))
  have b1 := Blk.new (w2.alloc (.cells (Array.replicate 64 (.bool false)) 41)) 41 (Array.replicate 64 (.bool false))
  have s1 : ∀ (u : World) (o : Obj), (u.alloc o).heap.size = u.heap.size + 1 := fun u o => by simp
  rw [s1] at b1
  have c0 := (((b0.alloc (.cells (Array.replicate 64 (.bool false)) 41)).row (rowC S)).rowFar (g := w2.heap.size + 1) (by omega) (rowC T)).alloc (.cells (Array.replicate 64 (.bool false)) 41)
  have c1 := (((b1.rowFar (g := w2.heap.size) (by omega) (rowC S)).row (rowC T))).alloc (.cells (Array.replicate 64 (.bool false)) 41)
  have c2 := Blk.new ((((w2.alloc (.cells (Array.replicate 64 (.bool false)) 41)).alloc (.cells (Array.replicate 64 (.bool false)) 41)).setRow w2.heap.size (rowC S)).setRow (w2.heap.size + 1) (rowC T)) 41 (Array.replicate 64 (.bool false))
  have s2 : ((((w2.alloc (.cells (Array.replicate 64 (.bool false)) 41)).alloc (.cells (Array.replicate 64 (.bool false)) 41)).setRow w2.heap.size (rowC S)).setRow (w2.heap.size + 1) (rowC T)).heap.size = w2.heap.size + 2 := by simp
  rw [s2] at c2
  have hs := hb.size
  refine ⟨c0, c1, ?_, hs, balloc (brow (brow (balloc (balloc hb _) _) hs _) (by omega) _) _⟩
  have e : rowC (fun j => decide (j < 0) && h (S j) (T j)) = rowC fun _ => false := rowC_ext fun i _ => by simp
  rw [e, ← rowC_zero]
  exact c2

set_option maxRecDepth 100000 in
set_option maxHeartbeats 1600000 in
theorem rtwo_any (which : Int) (A B : Option Addr) (n c m d : Nat) (l k : List (Int × Int)) (w : World) (hl : Runs w A n c l) (hk : Runs w B m d k) (hn : n ≤ 9223372036854775807) (hm : m ≤ 9223372036854775807) :
    Calls Try.prog 12 #[.int .i64 which, .slice A n c, .slice B m d] w fun e w' => ∃ A' c', e = .returned (.slice A' (two (ofB which) l k).length c') ∧ Runs w' A' (two (ofB which) l k).length c' (two (ofB which) l k) ∧ Below w.heap.size w w' := by
  go_enter Try.func12, Try.ntmps12
  go_wp2_with fail
  refine (places_any A n c l _ hl hn).mono ?_
  rintro e w1 ⟨rfl, hb1⟩
  go_wp2_with fail
  refine (places_any B m d k _ (hk.below hb1) hm).mono ?_
  rintro e w2 ⟨rfl, hb2⟩
  have hbw := btrans hb1 hb2
  have K0 := Blk.new w2 41 (Array.replicate 64 (.bool false))
  have K1 := Blk.new (w2.alloc (.cells (Array.replicate 64 (.bool false)) 41)) 41 (Array.replicate 64 (.bool false))
  have s1 : ∀ (u : World) (o : Obj), (u.alloc o).heap.size = u.heap.size + 1 := fun u o => by simp
  rw [s1] at K1
  clear s1
  go_wp2_with (first
    | (refine wpList_store_row rfl 41 (.tmp 7) (.tmp 12) rfl _ (rowC (inRuns l)) rfl rfl _ _ (K0.alloc (.cells (Array.replicate 64 (.bool false)) 41)) (by rw [rowC_size]; kernel_rfl) (by rw [rowC_size]; rfl) (rowC_one _) ?_)
    | (refine wpList_store_row rfl 41 (.tmp 8) (.tmp 14) rfl _ (rowC (inRuns k)) rfl rfl _ _ (K1.rowFar (g := w2.heap.size) (by omega) (rowC (inRuns l))) (by rw [rowC_size]; kernel_rfl) (by rw [rowC_size]; rfl) (rowC_one _) ?_))
  go_loopw [10] (fun iv wr => ∃ i : Nat, i ≤ 64 ∧ iv = .int .i64 i ∧ TwoRel w w2.heap.size (inRuns l) (inRuns k) (ofB which) i wr) (fun iv _ => 64 - (intOf iv).toNat)
  case atStart => exact ⟨0, by omega, rfl, TwoRel.start hbw⟩
  case round =>
    obtain ⟨i, hi, rfl, hR⟩ := hrel
    by_cases hlt : i < 64
    · have c0 : wr.cell? ⟨w2.heap.size, i, none⟩ = some (.bool (inRuns l i)) := by rw [hR.1.cell, rowC_get _ i hlt]
      have c1 : wr.cell? ⟨w2.heap.size + 1, i, none⟩ = some (.bool (inRuns k i)) := by rw [hR.2.1.cell, rowC_get _ i hlt]
      have c2 : ∃ v, wr.cell? ⟨w2.heap.size + 2, i, none⟩ = some v := ⟨_, by rw [hR.2.2.1.cell, rowC_get _ i hlt]⟩
      obtain ⟨v, c2⟩ := c2
      have c3 := hR.2.2.1.frozen i
      have hnext := hR.drew.step hlt
      go_wp2_with fail
      refine wp_region_still_tail 10 (by kernel_rfl) (by kernel_rfl) ?_
      simp only [List.take_succ_cons, List.take_zero, List.drop_succ_cons, List.drop_zero]
      repeat still_step
      still_call (of26_any _ _ _ _)
      repeat still_step
      refine wpStill_nil ?_
      change wpList _ _ _ _ _ wr.drew
      go_wp2_with fail
      go_roundw
      case rel => exact ⟨i + 1, by omega, by go_num, hnext⟩
      case measure => simp [intOf]; omega
    · obtain rfl : i = 64 := by omega
      obtain ⟨h0, h1, h3, hp, hb⟩ := hR
      have e : rowC (fun j => decide (j < 64) && ofB which (inRuns l j) (inRuns k j)) = rowC fun i => ofB which (inRuns l i) (inRuns k i) := rowC_ext fun i hi => by simp [hi]
      rw [e] at h3
      go_wp2_with (refine wpList_load_row rfl 41 (.tmp 9) rfl _ rfl _ _ _ _ h3 Try.underlying41 rfl (by rw [rowC_size]; kernel_rfl) ?_)
      refine (rruns_any _ _ _).mono ?_
      rintro e w4 ⟨A', c', rfl, hr4, hb4⟩
      go_wp2_with fail
      go_ret
      exact ⟨A', c', rfl, hr4, btrans hb hb4⟩
end Go.Proofs.Ytaimijgjpjhppaa.sp
